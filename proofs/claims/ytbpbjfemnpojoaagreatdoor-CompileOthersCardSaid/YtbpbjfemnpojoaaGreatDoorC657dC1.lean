/- CONTRACTS ON THE PRINTED FUNCTIONS. -/
import Derived.Test.YtbpbjfemnpojoaaGreatDoorC657dC0
set_option linter.all false
namespace Go.AM
section
deriving instance DecidableEq for bL
structure aG where
 kind:BitVec 8
 to:Int
 els:Int
 insn:bL
 deriving DecidableEq
def aG.cells(p:aG):List Value:=[u8 p.kind,vi p.to,vi p.els,u16 p.insn.code,u8 p.insn.jt,u8 p.insn.jf,u32 p.insn.k]
abbrev aG.v(p:aG):Value := .agg p.cells.toArray
def bH(l:List aG):List (List Value):=l.map aG.cells
def bL.zero:bL:=⟨0#16,0#8,0#8,0#32⟩
def cF(n:Nat):aG:=⟨1#8,n,0,.zero⟩
def bI(i:bL):aG:=⟨2#8,0,0,i⟩
def pIf(how:BitVec 16)(k:BitVec 32)(t e:Nat):aG:=⟨3#8,t,e,⟨5#16|||how|||0#16,0#8,0#8,k⟩⟩
def oM(n:Nat):aG:=⟨4#8,n,0,.zero⟩
def dE(k:BitVec 32):bL:=⟨32#16,0#8,0#8,k⟩
def aMS(k:BitVec 32):bL:=⟨6#16,0#8,0#8,k⟩
def rU(k:BitVec 32):bL:=⟨84#16,0#8,0#8,k⟩
structure LwD where
 parts:List aG
 last:Nat
 other:Nat
 acts:List (BitVec 32×Nat)
 order:List (BitVec 32)
def LwD.new(s:LwD):LwD:={ s with last:=s.last+1 }
def LwD.put(s:LwD)(p:aG):LwD:={ s with parts:=s.parts++[p] }
def LwD.act(s:LwD)(a:BitVec 32):LwD×Nat:=match bC a s.acts with
 | some n=>(s,n)
 | none=>({ s with last:=s.last+1,acts:=fB a (s.last+1) s.acts,order:=s.order++[a] },s.last+1)
def dR(n:Int)(b:Bool):BitVec 32:=BitVec.ofNat 32 (16+8*fS n+(if b then 4 else 0))
def LwD.second(s:LwD)(c:bA)(at_:Nat):LwD:=(s.put (cF at_)).put (bI (dE (dR c.arg false)))
def LwD.order64(s:LwD)(c:bA)(how:BitVec 16)(yes no:Nat):LwD :=
 let same:=s.last+1
 let next:=s.last+2
 let s:=(((s.new.new.put (pIf 32#16 (cW c.value) yes same)).put (cF same)).put (pIf 16#16 (cW c.value) next no))
 (s.second c next).put (pIf how (fK c.value) yes no)
def LwD.condOn(s:LwD)(c:bA)(next yes no:Nat):LwD :=
 if c.op=1#8 then((s.put (pIf 16#16 (cW c.value) next no)).second c next).put (pIf 16#16 (fK c.value) yes no)
 else if c.op=2#8 then((s.put (pIf 16#16 (cW c.value) next yes)).second c next).put (pIf 16#16 (fK c.value) no yes)
 else if c.op=5#8 then s.order64 c 32#16 yes no
 else if c.op=6#8 then s.order64 c 48#16 yes no
 else if c.op=3#8 then s.order64 c 48#16 no yes
 else if c.op=4#8 then s.order64 c 32#16 no yes
 else if c.op=7#8 then((((s.put (bI (rU (cW c.mask)))).put (pIf 16#16 (cW c.value) next no)).second c next).put (bI (rU (fK c.mask)))).put (pIf 16#16 (fK c.value) yes no)
 else s.put (oM no)
def LwD.cond(s:LwD)(c:bA)(yes no:Nat):LwD:=(s.new.put (bI (dE (dR c.arg true)))).condOn c (s.last+1) yes no
def LwD.condStep(no:Nat)(s:LwD)(c:bA):LwD:=(s.new.cond c (s.last+1) no).put (cF (s.last+1))
def LwD.conds(no:Nat)(l:List bA)(s:LwD):LwD:=l.foldl (LwD.condStep no) s
def LwD.branch(s:LwD)(b:cQ):LwD :=
 let t:=LwD.conds (s.last+1) b.conds s.new
 ((t.act b.action).1.put (oM (t.act b.action).2)).put (cF (s.last+1))
def LwD.branches(l:List cQ)(s:LwD):LwD:=let t:=l.foldl LwD.branch s;t.put (oM t.other)
def jG(n:BitVec 32)(l:List (BitVec 32×Nat)):Nat:=(bC n l).getD 0
def oU(l:List dC)(k:Nat):BitVec 32:=(l[k]?.map dC.number).getD 0#32
def LwD.choose(starts:List (BitVec 32×Nat)):Nat->List dC->LwD->LwD
 | 0,_,s=>s
 | f+1,l,s =>
  if l.length=0 then s.put (oM s.other)
  else if l.length=1 then s.put (pIf 16#16 (oU l 0) (jG (oU l 0) starts) s.other)
  else LwD.choose starts f (l.drop (l.length / 2)) ((LwD.choose starts f (l.take (l.length / 2)) ((s.new.new.put (pIf 48#16 (oU l (l.length / 2)) (s.last+2) (s.last+1))).put (cF (s.last+1)))).put (cF (s.last+2)))
def LwD.end1(acts:List (BitVec 32×Nat))(s:LwD)(a:BitVec 32):LwD:=(s.put (cF (jG a acts))).put (bI (aMS a))
def LwD.ends(s:LwD):LwD:=s.order.foldl (LwD.end1 s.acts) s
def LwD.start1(x:LwD×List (BitVec 32×Nat))(c:dC):LwD×List (BitVec 32×Nat):=(x.1.new,fB c.number (x.1.last+1) x.2)
def LwD.starts(l:List dC)(x:LwD×List (BitVec 32×Nat)):LwD×List (BitVec 32×Nat):=l.foldl LwD.start1 x
def LwD.case1(starts:List (BitVec 32×Nat))(s:LwD)(c:dC):LwD:=LwD.branches c.branches (s.put (cF (jG c.number starts)))
def LwD.cases(starts:List (BitVec 32×Nat))(l:List dC)(s:LwD):LwD:=l.foldl (LwD.case1 starts) s
def LwD.setO(s:LwD)(n:Nat):LwD:=⟨s.parts,s.last,n,s.acts,s.order⟩
def LwD.zero:LwD:=⟨[],0,0,[],[]⟩
def rY(d:BitVec 32):LwD:=(LwD.zero.act d).1.setO (LwD.zero.act d).2
def low2(d:BitVec 32):LwD×Nat:=(rY d).act 2147483648#32
def lower0(d:BitVec 32):LwD:=(((low2 d).1.new.put (bI (dE 4#32))).put (pIf 16#16 3221225534#32 ((low2 d).1.last+1) (low2 d).2)).put (cF ((low2 d).1.last+1))
def eH(p:jS):LwD×List (BitVec 32×Nat):=LwD.starts p.cases (lower0 p.default,[])
def jC(p:jS):LwD:=LwD.choose (eH p).2 (p.cases.length+1) p.cases ((eH p).1.put (bI (dE 0#32)))
def hU(p:jS):LwD:=(LwD.cases (eH p).2 p.cases (jC p)).ends
end
section
set_option maxRecDepth 20000
def jI(n:Nat):Value:=vi n
def lwL(lw m:Nat)(lv ov:Value)(s:LwD):List Res:=[bJ lw [lv,vi s.last,vi s.other,.map (some m),ov],bB 7 lv (bH s.parts),dP u32 jI m s.acts,bB 1 ov (nY s.order)]
def Lw(H0 Z H:AH)(lw m:Nat)(s:LwD)(X:List Res):Prop:=∃ lv ov,Has H0 Z H (lwL lw m lv ov s++X)
def LwO(H0 Z H:AH)(lw m:Nat)(ov:Value)(s:LwD)(X:List Res):Prop:=∃ lv,Has H0 Z H (lwL lw m lv ov s++X)
def LwD.big(s:LwD):Nat:=s.parts.length+s.last+s.order.length
section
variable {E:Sy}{H H' H0 Z:AH}{Q:Value->AH->Prop}{X:List Res}{lw m:Nat}{s:LwD}
theorem kL(b o:Nat):eY jR .eql (ptr b o) (.pointer none)=some (vb false):=rfl
theorem aAm(b o:Nat):eY jR .neq (ptr b o) (.pointer none)=some (vb true):=rfl
theorem Has.dropLast{L:List Res}{r:Res}(h:Has H0 Z H (L++[r])):Has H0 Z H L:=by
 have:=h.drop L.length
 rwa [List.eraseIdx_append_of_length_le (Nat.le_refl _),Nat.sub_self,List.eraseIdx_cons_zero,List.append_nil]at this
theorem Lw.grow(h:Lw H0 Z H lw m s X)(e:Ext H H'):Lw H0 Z H' lw m s X:=by
 obtain⟨lv,ov,h⟩:=h;exact⟨lv,ov,h.grow e⟩
theorem LwO.grow{ov:Value}(h:LwO H0 Z H lw m ov s X)(e:Ext H H'):LwO H0 Z H' lw m ov s X:=by
 obtain⟨lv,h⟩:=h;exact⟨lv,h.grow e⟩
theorem Lw.newbox(h:Lw H0 Z H lw m s X)(c:List Value):Lw H0 Z (H.new (.cells c none)) lw m s (X++[bJ H.next c]):=by
 obtain⟨lv,ov,h⟩:=h;have:=h.newbox c;rw[List.append_assoc]at this;exact⟨lv,ov,this⟩
theorem Lw.box{t:Nat}{c:List Value}(h:Lw H0 Z H lw m s (X++[bJ t c])):H.get t = .cells c none:=by
 obtain⟨lv,ov,h⟩:=h;exact(h.all (bJ t c) (by simp)).1
theorem Lw.dropLast{r:Res}(h:Lw H0 Z H lw m s (X++[r])):Lw H0 Z H lw m s X:=by
 obtain⟨lv,ov,h⟩:=h;rw[<- List.append_assoc]at h;exact⟨lv,ov,h.dropLast⟩
theorem Lw.ext(h:Lw H0 Z H lw m s X):Ext H0 H:=by
 obtain⟨lv,ov,h⟩:=h;exact h.ext
theorem S.f38(hE:aW E)(h:Lw H0 Z H lw m s X)(hb:s.big<2 ^ 30)(hQ:∀ H',Lw H0 Z H' lw m s.new X->Q (vi ((s.last+1:Nat):Int)) H'):E.call 53 [ptr lw 0] H Q:=by
 apply hE.f38;obtain⟨lv,ov,h⟩:=h;have hbx:=h.box (k:=0) rfl;have hlt:s.last<2 ^ 62:=by unfold LwD.big at hb;omega
 have hinc:=bN (i:=s.last) (by omega)
 have g:=h.put (k:=0) rfl [lv,vi ((s.last+1:Nat):Int),vi s.other,.map (some m),ov]
 have hst:aZ (ptr lw 1) (vi ((s.last+1:Nat):Int)) H=some (H.put lw (.cells [lv,vi ((s.last+1:Nat):Int),vi s.other,.map (some m),ov] none)):=by
  rw[eX,if_pos (show plain1 (vi ((s.last+1:Nat):Int))=true from rfl),hbx];rfl
 have hb2:=g.box (k:=0) rfl;simp only[F.f38,aAm,kL,hbx,hinc,hst,hb2,aB];exact hQ _ ⟨lv,ov,g⟩
theorem aKM(hE:aW E){ov:Value}(h:LwO H0 Z H lw m ov s X)(hb:s.big<2 ^ 30)(p:aG)(hQ:∀ H',LwO H0 Z H' lw m ov (s.put p) X->Q (.tuple #[]) H'):E.call 86 [ptr lw 0,p.v] H Q:=by
 apply hE.f41;obtain⟨lv,h⟩:=h;have h1:=h.newbox p.cells;have hbx:=h1.box (k:=0) (b:=lw) rfl;have hb1:=AH.get_new_self H (.cells p.cells none);have hlen:(bH s.parts).length<2 ^ 30:=by unfold LwD.big at hb;simp only[bH,List.length_map];omega
 have hbS:bV 1 7 #[(.int .u8 0),vi 0,vi 0,(.int .u16 0),(.int .u8 0),(.int .u8 0),(.int .u32 0)] [(0,p.v)]=some (.cells p.cells none,fI 1 1):=cV 7 [u8 0#8,vi 0,vi 0,u16 0#16,u8 0#8,u8 0#8,u32 0#32] p.cells rfl rfl
 have hlo:aE 7 (ptr H.next 0) (H.new (.cells p.cells none))=some p.v:=by
  rw[aL,hb1,dF _ _ 7 rfl];rfl
 have h1:Has H0 Z (H.new (.cells p.cells none)) (lwL lw m lv ov s++X):=h1.dropLast;obtain⟨v',H3,a1,a2,g⟩:=h1.app1 (k:=1) (sz:=7) (v:=lv) (rows:=bH s.parts) (bytes:=32) rfl p.cells rfl (by simp[aG.cells]) (by decide) (by decide) (by omega)
 have a1:app 7 32 lv (slc (H.next+1) 0 1 1) ((H.new (.cells p.cells none)).new (.cells p.cells none))=some (v',H3):=a1;have hbx3:=g.box (k:=0) (b:=lw) (c:=[lv,vi s.last,vi s.other,.map (some m),ov]) rfl
 have hst:aZ (ptr lw 0) v' H3=some (H3.put lw (.cells [v',vi s.last,vi s.other,.map (some m),ov] none)):=by
  rw[eX,if_pos a2,hbx3];rfl
 have g2:=g.put (k:=0) (b:=lw) (c:=[lv,vi s.last,vi s.other,.map (some m),ov]) rfl [v',vi s.last,vi s.other,.map (some m),ov];simp only[F.f41,aX,AM.aT,aR,List.toList_toArray,aAm,kL,hbx,hlo,hbS,cT,a1,hst,aB];refine hQ _ ⟨v',?_⟩;have hr:bH (s.put p).parts=bH s.parts++[p.cells]:=by simp[bH,LwD.put]
 show Has H0 Z _ (bJ lw [v',vi s.last,vi s.other,.map (some m),ov] :: bB 7 v' (bH (s.put p).parts) :: dP u32 jI m s.acts :: bB 1 ov (nY s.order) :: X)
 rw[hr];exact g2
theorem S.f41(hE:aW E)(h:Lw H0 Z H lw m s X)(hb:s.big<2 ^ 30)(p:aG)(hQ:∀ H',Lw H0 Z H' lw m (s.put p) X->Q (.tuple #[]) H'):E.call 86 [ptr lw 0,p.v] H Q:=by
 obtain⟨lv,ov,h⟩:=h;exact aKM hE ⟨lv,h⟩ hb p λH' ⟨lv',h'⟩=>hQ H' ⟨lv',ov,h'⟩
theorem S.f36(hE:aW E)(h:Lw H0 Z H lw m s X)(hb:s.big<2 ^ 30)(n:Nat)(hQ:∀ H',Lw H0 Z H' lw m (s.put (cF n)) X->Q (.tuple #[]) H'):E.call 57 [ptr lw 0,vi n] H Q:=by
 apply hE.f36;have hbv:aK [(0,1),(1,1),(2,1),(3,4)] #[(.int .u8 0),vi 0,vi 0,(.int .u16 0),(.int .u8 0),(.int .u8 0),(.int .u32 0)] [(0,(.int .u8 1)),(1,vi n)]=some (cF n).v:=rfl;simp only[F.f36,hbv,aB];exact S.f41 hE h hb _ hQ
theorem aN6(hE:aW E){ov:Value}(h:LwO H0 Z H lw m ov s X)(hb:s.big<2 ^ 30)(n:Nat)(hQ:∀ H',LwO H0 Z H' lw m ov (s.put (cF n)) X->Q (.tuple #[]) H'):E.call 57 [ptr lw 0,vi n] H Q:=by
 apply hE.f36;have hbv:aK [(0,1),(1,1),(2,1),(3,4)] #[(.int .u8 0),vi 0,vi 0,(.int .u16 0),(.int .u8 0),(.int .u8 0),(.int .u32 0)] [(0,(.int .u8 1)),(1,vi n)]=some (cF n).v:=rfl;simp only[F.f36,hbv,aB];exact aKM hE h hb _ hQ
theorem S.f35(hE:aW E)(h:Lw H0 Z H lw m s X)(hb:s.big<2 ^ 30)(n:Nat)(hQ:∀ H',Lw H0 Z H' lw m (s.put (oM n)) X->Q (.tuple #[]) H'):E.call 88 [ptr lw 0,vi n] H Q:=by
 apply hE.f35;have hbv:aK [(0,1),(1,1),(2,1),(3,4)] #[(.int .u8 0),vi 0,vi 0,(.int .u16 0),(.int .u8 0),(.int .u8 0),(.int .u32 0)] [(0,(.int .u8 4)),(1,vi n)]=some (oM n).v:=rfl;simp only[F.f35,hbv,aB];exact S.f41 hE h hb _ hQ
theorem S.f40(hE:aW E)(h:Lw H0 Z H lw m s X)(hb:s.big<2 ^ 30)(n:bL)(hQ:∀ H',Lw H0 Z H' lw m (s.put (bI n)) X->Q (.tuple #[]) H'):E.call 54 [ptr lw 0,n.v] H Q:=by
 apply hE.f40;have hb1:=AH.get_new_self H (.cells n.cells none)
 have hlo:aE 4 (ptr H.next 0) (H.new (.cells n.cells none))=some n.v:=by
  rw[aL,hb1,dF _ _ 4 rfl];rfl
 have hbv:aK [(0,1),(1,1),(2,1),(3,4)] #[(.int .u8 0),vi 0,vi 0,(.int .u16 0),(.int .u8 0),(.int .u8 0),(.int .u32 0)] [(0,(.int .u8 2)),(3,n.v)]=some (bI n).v:=rfl;simp only[F.f40,aX,AM.aT,aR,List.toList_toArray,hlo,hbv,aB];exact S.f41 hE (h.grow ((Ext.refl H).new _)) hb _ hQ
theorem aNi(hE:aW E){ov:Value}(h:LwO H0 Z H lw m ov s X)(hb:s.big<2 ^ 30)(n:bL)(hQ:∀ H',LwO H0 Z H' lw m ov (s.put (bI n)) X->Q (.tuple #[]) H'):E.call 54 [ptr lw 0,n.v] H Q:=by
 apply hE.f40;have hb1:=AH.get_new_self H (.cells n.cells none)
 have hlo:aE 4 (ptr H.next 0) (H.new (.cells n.cells none))=some n.v:=by
  rw[aL,hb1,dF _ _ 4 rfl];rfl
 have hbv:aK [(0,1),(1,1),(2,1),(3,4)] #[(.int .u8 0),vi 0,vi 0,(.int .u16 0),(.int .u8 0),(.int .u8 0),(.int .u32 0)] [(0,(.int .u8 2)),(3,n.v)]=some (bI n).v:=rfl;simp only[F.f40,aX,AM.aT,aR,List.toList_toArray,hlo,hbv,aB];exact aKM hE (h.grow ((Ext.refl H).new _)) hb _ hQ
theorem S.f37(hE:aW E)(h:Lw H0 Z H lw m s X)(hb:s.big<2 ^ 30)(how:BitVec 16)(k:BitVec 32)(t e:Nat)(hQ:∀ H',Lw H0 Z H' lw m (s.put (pIf how k t e)) X->Q (.tuple #[]) H'):E.call 56 [ptr lw 0,u16 how,u32 k,vi t,vi e] H Q:=by
 apply hE.f37;simp only[F.f37,aB];refine S.f14 hE how k 0#8 0#8 λH1 e1 =>?_;have hbv:∀ n:bL,aK [(0,1),(1,1),(2,1),(3,4)] #[(.int .u8 0),vi 0,vi 0,(.int .u16 0),(.int .u8 0),(.int .u8 0),(.int .u32 0)] [(0,(.int .u8 3)),(1,vi t),(2,vi e),(3,n.v)]=some (aG.v ⟨3#8,t,e,n⟩):=λ_=>by rw[iF];rfl
 have hv:rQ (5#16|||how|||0#16) 0#8 0#8 k=bL.v ⟨5#16|||how|||0#16,0#8,0#8,k⟩:=rfl;rw[hv];simp only[hbv,aB];exact S.f41 hE (h.grow e1) hb _ hQ
end
end
section
set_option maxRecDepth 20000
structure MkD where
 out:List bL
 places:List (Int×Nat)
def pG(n:Int):bL:=⟨5#16,0#8,0#8,BitVec.ofInt 32 n⟩
def MkD.away(s:MkD)(n:Int):Int:=(s.out.length:Int) - ((bC n s.places).getD 0:Nat)
def MkD.hop(s:MkD)(n:Int):MkD:=⟨pG n :: s.out,s.places⟩
def MkD.cmp2(s:MkD)(i1:bL)(to els:Int):MkD:=⟨⟨i1.code,BitVec.ofInt 8 to,BitVec.ofInt 8 els,i1.k⟩ :: s.out,s.places⟩
def MkD.cmp1(s:MkD)(i1:bL)(to els:Int):MkD:=if 253<to then(s.hop to).cmp2 i1 0 (els+1) else s.cmp2 i1 to els
def MkD.cmp0(s:MkD)(i1:bL)(to els:Int):MkD:=if 253<els then(s.hop els).cmp1 i1 (to+1) 0 else s.cmp1 i1 to els
def MkD.part(s:MkD)(p:aG):Int ⊕ MkD :=
 if p.kind=1#8 then(if(bC p.to s.places).isSome then .inl 206 else .inr ⟨s.out,fB p.to s.out.length s.places⟩)
 else if p.kind=2#8 then(if bR p.insn.code=5#16 then .inl 210 else .inr ⟨p.insn :: s.out,s.places⟩)
 else if p.kind=4#8 then(if(bC p.to s.places).isSome then .inr (s.hop (s.away p.to)) else .inl 207)
 else if p.kind=3#8 then
  (if bR p.insn.code≠5#16\/p.insn.code=5#16 then .inl 210
  else if(bC p.to s.places).isSome=false\/(bC p.els s.places).isSome=false then .inl 207
  else .inr (s.cmp0 p.insn (s.away p.to) (s.away p.els)))
 else .inl 210
def eG:List aG->Int ⊕ MkD
 | [] => .inr ⟨[],[]⟩
 | p :: l=>match eG l with
  | .inl e => .inl e
  | .inr s=>match s.part p with
   | .inl e => .inl e
   | .inr t=>if 4096<t.out.length then .inl 205 else .inr t
def cJ(l:List bL):List (List Value):=l.map bL.cells
def mkL(mb pm:Nat)(ov:Value)(s:MkD):List Res:=[bJ mb [ov,.map (some pm)],bB 4 ov (cJ s.out.reverse),dP vi jI pm s.places]
def Mk(H0 Z H:AH)(mb pm:Nat)(s:MkD)(X:List Res):Prop:=∃ ov,Has H0 Z H (mkL mb pm ov s++X)
section
variable {E:Sy}{H H' H0 Z:AH}{Q:Value->AH->Prop}{X:List Res}{mb pm:Nat}{s:MkD}
theorem oP(a b:Int):bX 0 (vi a) (vi b)=some (decide (a=b)):=by
 simp only[bX]
 rfl
theorem dS.look_int{r:Nat}{l:List (Int×Nat)}(h:dS vi jI H r l)(a:Int)(ok:Bool):AM.look 0 (vi 0) ok (.map (some r)) (vi a) H=some (if ok then .tuple #[vi ((bC a l).getD 0:Nat),.bool (bC a l).isSome] else vi ((bC a l).getD 0:Nat)):=by
 have:=h.look (kd:=0) oP a (vi 0) ok;cases hk:bC a l with
 | none=>unfold bC at hk;rw[hk]at this;rw[this];cases ok<;>rfl
 | some n=>unfold bC at hk;rw[hk]at this;rw[this];cases ok<;>rfl
theorem Mk.grow(h:Mk H0 Z H mb pm s X)(e:Ext H H'):Mk H0 Z H' mb pm s X:=by
 obtain⟨ov,h⟩:=h;exact⟨ov,h.grow e⟩
theorem Mk.ext(h:Mk H0 Z H mb pm s X):Ext H0 H:=by
 obtain⟨ov,h⟩:=h;exact h.ext
theorem Mk.newbox(h:Mk H0 Z H mb pm s X)(c:List Value):Mk H0 Z (H.new (.cells c none)) mb pm s (X++[bJ H.next c]):=by
 obtain⟨ov,h⟩:=h;have:=h.newbox c;rw[List.append_assoc]at this;exact⟨ov,this⟩
theorem Mk.box{t:Nat}{c:List Value}(h:Mk H0 Z H mb pm s (X++[bJ t c])):H.get t = .cells c none:=by
 obtain⟨ov,h⟩:=h;exact(h.all (bJ t c) (by simp)).1
theorem Mk.dropLast{r:Res}(h:Mk H0 Z H mb pm s (X++[r])):Mk H0 Z H mb pm s X:=by
 obtain⟨ov,h⟩:=h;rw[<- List.append_assoc]at h;exact⟨ov,h.dropLast⟩
theorem Mk.cells(h:Mk H0 Z H mb pm s X):∃ ov,H.get mb = .cells [ov,.map (some pm)] none/\lenSlc ov=some (vi s.out.length):=by
 obtain⟨ov,h⟩:=h;have hl:=(h.rows (k:=1) (sz:=4) (v:=ov) (rows:=cJ s.out.reverse) rfl).lenSlc;simp only[cJ,List.length_map,List.length_reverse]at hl;exact⟨ov,h.box (k:=0) rfl,hl⟩
theorem Mk.look(h:Mk H0 Z H mb pm s X)(a:Int):AM.look 0 (vi 0) true (.map (some pm)) (vi a) H=some (.tuple #[vi ((bC a s.places).getD 0:Nat),.bool (bC a s.places).isSome]):=by
 obtain⟨ov,h⟩:=h;exact(h.mapAt (k:=2) (fk:=vi) (fv:=jI) (r:=pm) (l:=s.places) rfl).look_int a true
theorem Mk.push(h:Mk H0 Z H mb pm s X)(hl:s.out.length<2 ^ 30)(x:bL){ov:Value}(ho:H.get mb = .cells [ov,.map (some pm)] none):
  ∃ v' H1,app 4 8 ov (slc H.next 0 1 1) (H.new (.cells x.cells none))=some (v',H1)/\∃ H2,aZ (ptr mb 0) v' H1=some H2/\Mk H0 Z H2 mb pm ⟨x :: s.out,s.places⟩ X:=by
 obtain⟨ov2,h⟩:=h;have hb:=h.box (k:=0) (b:=mb) (c:=[ov2,.map (some pm)]) rfl;rw[ho]at hb
 injection hb with hb _
 simp only[List.cons.injEq,and_true]at hb;subst hb;obtain⟨v',H3,a1,a2,g⟩:=h.app1 (k:=1) (sz:=4) (v:=ov) (rows:=cJ s.out.reverse) (bytes:=8) rfl x.cells rfl rfl (by decide) (by decide) (by simp only[cJ,List.length_map,List.length_reverse];omega)
 have hbx:=g.box (k:=0) (b:=mb) (c:=[ov,.map (some pm)]) rfl
 have hst:aZ (ptr mb 0) v' H3=some (H3.put mb (.cells [v',.map (some pm)] none)):=by
  rw[eX,if_pos a2,hbx];rfl
 have g2:=g.put (k:=0) (b:=mb) (c:=[ov,.map (some pm)]) rfl [v',.map (some pm)];refine⟨v',H3,a1,_,hst,v',?_⟩;have hr:cJ (x :: s.out).reverse=cJ s.out.reverse++[x.cells]:=by simp[cJ]
 show Has H0 Z _ (bJ mb [v',.map (some pm)] :: bB 4 v' (cJ (x :: s.out).reverse) :: dP vi jI pm s.places :: X)
 rw[hr];exact g2
theorem Mk.setPlace(h:Mk H0 Z H mb pm s X)(n:Int)(k:Nat):∃ H',eD 0 (.map (some pm)) (vi n) (vi k) H=some H'/\Mk H0 Z H' mb pm ⟨s.out,fB n k s.places⟩ X:=by
 obtain⟨ov,h⟩:=h;obtain⟨H2,m1,g2⟩:=h.mapset (n:=2) (r:=pm) (l:=s.places) (fk:=vi) (fv:=jI) rfl oP n k;exact⟨H2,m1,ov,g2⟩
theorem S.f46(hE:aW E)(h:Mk H0 Z H mb pm s X)(hl:s.out.length<2 ^ 30)(n:Int)(hk:(bC n s.places).getD 0<2 ^ 30)(hQ:Q (.tuple #[vi (s.away n),vb (bC n s.places).isSome]) H):E.call 99 [ptr mb 0,vi n] H Q:=by
 apply hE.f46;obtain⟨ov,hbx,hlv⟩:=h.cells;have hlk:=h.look n;have hsub:aA .sub (vi s.out.length) (vi ((bC n s.places).getD 0:Nat))=some (vi (s.away n)):=gY (by omega) (by omega)
 simp only[F.f46,hbx,hlk,hlv,hsub,aB];exact hQ
theorem S.f48(hE:aW E)(h:Mk H0 Z H mb pm s X)(hl:s.out.length<2 ^ 30)(n:Int)(hQ:∀ H',Mk H0 Z H' mb pm (s.hop n) X->Q (.tuple #[]) H'):E.call 100 [ptr mb 0,vi n] H Q:=by
 apply hE.f48;obtain⟨ov,hbx,hlv⟩:=h.cells;simp only[F.f48,hbx,aBu,aB];refine S.f19 hE _ λH1 e1 =>?_;have hb1:=e1.cells hbx;refine⟨by rw[eF,eF,hb1,hbx],?_⟩
 have hv:rQ 5 0 0 (BitVec.ofInt 32 n)=(pG n).v:=rfl;have hbS:bV 1 4 #[(.int .u16 0),(.int .u8 0),(.int .u8 0),(.int .u32 0)] [(0,(pG n).v)]=some (.cells (pG n).cells none,fI 1 1):=cV 4 [u16 0#16,u8 0#8,u8 0#8,u32 0#32] (pG n).cells rfl rfl;obtain⟨v',H2,a1,H3,a2,g⟩:=(h.grow e1).push hl (pG n) hb1;rw[hv];simp only[hbS,AM.aT,cT,a1,a2,aB];exact hQ _ g
end
end
section
set_option maxRecDepth 20000
def fR:List aG->Int->Bool
 | [],_=>false
 | p :: l,n=>if p.kind=1#8 then(if p.to=n then true else fR l n) else false
def bM(m:List (Int×Int)):Nat->Int->Int
 | 0,n=>n
 | f+1,n=>match bC n m with
  | none=>n
  | some t=>bM m f t
def dH:List aG->Option (BitVec 32)->List aG
 | [],_=>[]
 | p :: l,now =>
  if p.kind=1#8 then p :: dH l none
  else if p.kind=2#8/\p.insn.code=32#16 then(if now=some p.insn.k then dH l now else p :: dH l (some p.insn.k))
  else if p.kind=2#8 then p :: dH l none
  else p :: dH l now
section
variable {E:Sy}{H H' H0 Z:AH}{Q:Value->AH->Prop}{X:List Res}
theorem sA(x:aG)(H:AH):aI 7 (ptr H.next 0) x.v (H.new (.cells [(.int .u8 0),vi 0,vi 0,(.int .u16 0),(.int .u8 0),(.int .u8 0),(.int .u32 0)] none))=some (H.new (.cells x.cells none)):=by
 rw[cL,AH.get_new_self];have h3:AM.aQ [(.int .u8 0),vi 0,vi 0,(.int .u16 0),(.int .u8 0),(.int .u8 0),(.int .u32 0)] 0 x.cells=x.cells:=rfl;have h4:x.cells.all plain1=true:=rfl;have h5:x.cells.length=7:=rfl;simp only[List.size_toArray,List.toList_toArray,h4,h5,List.length_cons,List.length_nil,Nat.zero_add,Nat.le_refl,and_self,if_true,h3,AH.new_put]
theorem uG{v:Value}{l:List aG}(hv:Rows H 7 v (bH l)){k:Nat}(hk:k<l.length):∃ b o,aH 7 v (vi k)=some (ptr b o)/\(H.get b).row o 7=some l[k].cells/\aE 7 (ptr b o) H=some l[k].v:=by
 obtain⟨b,o,f1,f2⟩:=hv.ix (i:=k) (by simpa[bH] using hk)
 have hrow:(bH l)[k]'(by simpa[bH] using hk)=l[k].cells:=by simp[bH]
 rw[hrow]at f2;exact⟨b,o,f1,f2,by rw[aL,f2];rfl⟩
theorem S.f45(hE:aW E){v:Value}{l:List aG}(hv:Rows H 7 v (bH l))(hl:l.length<2 ^ 30)(n:Int)(hQ:∀ H',Ext H H'->Q (vb (fR l n)) H'):E.call 104 [v,vi n] H Q:=by
 apply hE.f45;have i0:vi 0=vi ((0:Nat):Int):=rfl;have hlv:=hv.lenSlc;have hpl:(bH l).length=l.length:=by simp[bH]
 rw[hpl]at hlv;simp only[F.f45,hlv,i0,aB];refine aY.count l.length (λk ls H'=>ls=[vi n,v,vi l.length,vi k]/\Ext H H'/\fR l n=fR (l.drop k) n) ?_ ⟨rfl,Ext.refl _,rfl⟩;rintro k _ H1 X1 hk ih ⟨rfl,e1,hf⟩;rcases Nat.lt_or_ge k l.length with hlt | hge
 ·have hlt':decide ((k:Int)<l.length)=true:=decide_eq_true (by omega)
  obtain⟨b,o,f1,_,f2⟩:=uG (hv.mono e1) hlt;have hinc:=bN (i:=k) (by omega)
  rw[List.drop_eq_getElem_cons hlt]at hf;generalize l[k]=p at *;have hst:=sA p H1;have bp:=AH.get_new_self H1 (.cells p.cells none);have x1:Ext H1 (H1.new (.cells p.cells none)):=(Ext.refl _).new _;have c0:p.cells[0]? = some (u8 p.kind):=rfl;have c1:p.cells[1]? = some (vi p.to):=rfl;have q1:(.int .u8 1:Value)=u8 1#8:=rfl;simp only[F.f45_l1,aF,hlt',f1,f2,bE,hst,bp,c0,q1,aBY,aB];have hcons:fR (p :: l.drop (k+1)) n=if p.kind=1#8 then(if p.to=n then true else fR (l.drop (k+1)) n) else false:=rfl;rw[hcons]at hf
  by_cases o1:p.kind=1#8
  ·have hd:decide (p.kind≠1#8)=false:=decide_eq_false (by simpa using o1)
   rw[if_pos o1]at hf;simp only[hd,bp,c1,dU,aB]
   by_cases o2:p.to=n
   ·have hd2:decide (p.to=n)=true:=decide_eq_true o2
    rw[if_pos o2]at hf;rw[hf]at hQ;simp only[hd2,aB];exact hQ _ (e1.trans x1)
   ·have hd2:decide (p.to=n)=false:=decide_eq_false o2
    rw[if_neg o2]at hf;simp only[hd2,hinc,aB];exact ih hlt _ _ ⟨rfl,e1.trans x1,hf⟩
  ·have hd:decide (p.kind≠1#8)=true:=decide_eq_true o1
   rw[if_neg o1]at hf;rw[hf]at hQ;simp only[hd,aB];exact hQ _ (e1.trans x1)
 ·have hlt':decide ((k:Int)<l.length)=false:=decide_eq_false (by omega)
  rw[List.drop_eq_nil_of_le hge]at hf;rw[hf]at hQ;simp only[F.f45_l1,aF,hlt',aB];exact hQ _ e1
theorem dS.look_ints{r:Nat}{l:List (Int×Int)}(h:dS vi vi H r l)(a:Int):AM.look 0 (vi 0) true (.map (some r)) (vi a) H=some (.tuple #[vi ((bC a l).getD 0),.bool (bC a l).isSome]):=by
 have:=h.look (kd:=0) oP a (vi 0) true;cases hk:bC a l with
 | none=>unfold bC at hk;rw[hk]at this;rw[this];rfl
 | some n=>unfold bC at hk;rw[hk]at this;rw[this];rfl
theorem S.f44(hE:aW E){r:Nat}{m:List (Int×Int)}(hm:dS vi vi H r m)(hl:m.length<2 ^ 30)(n:Int)(hQ:Q (vi (bM m m.length n)) H):E.call 103 [.map (some r),vi n] H Q:=by
 apply hE.f44;have i0:vi 0=vi ((0:Nat):Int):=rfl;have hlm:=hm.len;simp only[F.f44,hlm,i0,aB];refine aY.count m.length (λk ls H'=>∃ x,ls=[.map (some r),vi x,vi m.length,vi k]/\H=H'/\bM m m.length n=bM m (m.length - k) x) ?_ ⟨n,rfl,rfl,rfl⟩;rintro k _ _ X1 hk ih ⟨x,rfl,rfl,hf⟩;rcases Nat.lt_or_ge k m.length with hlt | hge
 ·have hlt':decide ((k:Int)<m.length)=true:=decide_eq_true (by omega)
  have hlk:=hm.look_ints x;have hinc:=bN (i:=k) (by omega)
  obtain⟨f,hfe⟩:∃ f,m.length - k=f+1:=⟨m.length - k - 1,by omega⟩
  rw[hfe]at hf;have hsucc:bM m (f+1) x=match bC x m with | none=>x | some t=>bM m f t:=rfl
  rw[hsucc]at hf;simp only[F.f44_l1,aF,hlt',hlk,aB];cases ha:bC x m with
  | none =>
   rw[ha]at hf;have hf:bM m m.length n=x:=hf;simp only[Option.isSome_none,aB];rw[<- hf];exact hQ
  | some t =>
   rw[ha]at hf;have hf:bM m m.length n=bM m f t:=hf;simp only[Option.isSome_some,Option.getD_some,hinc,aB];exact ih hlt _ _ ⟨t,rfl,rfl,by rw[hf,show m.length - (k+1)=f by omega]⟩
 ·have hlt':decide ((k:Int)<m.length)=false:=decide_eq_false (by omega)
  have h0:m.length - k=0:=by omega
  rw[h0]at hf;have hf:bM m m.length n=x:=hf;simp only[F.f44_l1,aF,hlt',aB];rw[<- hf];exact hQ
end
end
section
set_option maxRecDepth 20000
def vO(o:Option (BitVec 32)):List Value:=[vb o.isSome,u32 (o.getD 0#32)]
section
variable {E:Sy}{H H' H0 Z:AH}{Q:Value->AH->Prop}{X:List Res}
theorem aMl(o:Option (BitVec 32))(k:BitVec 32):jM [2,0] .eql (.agg (vO o).toArray) (.agg [vb true,u32 k].toArray)=some (vb (decide (o=some k))):=by
 have hb:∀ a:Bool,bX 2 (vb a) (vb true)=some (a == true):=λ_=>rfl;simp only[jM,vO,List.toList_toArray,bF,hb,iA,Option.bind_some,Option.map_some];cases o with
 | none=>simp
 | some x=>simp
def peL(nb:Nat)(o:Option (BitVec 32))(ov:Value)(out:List aG):List Res:=[bJ nb (vO o),bB 7 ov (bH out)]
theorem Has.setNow{nb:Nat}{o:Option (BitVec 32)}{ov:Value}{out:List aG}(h:Has H0 Z H (peL nb o ov out++X))(o':Option (BitVec 32)):∃ H',aI 2 (ptr nb 0) (.agg (vO o').toArray) H=some H'/\Has H0 Z H' (peL nb o' ov out++X):=by
 have hb:=h.box (k:=0) (b:=nb) (c:=vO o) rfl;refine⟨H.put nb (.cells (vO o') none),by rw[cL,hb];rfl,h.put (k:=0) (b:=nb) (c:=vO o) rfl (vO o')⟩
theorem aKY{nb:Nat}{o:Option (BitVec 32)}{ov:Value}{out:List aG}(h:Has H0 Z H (peL nb o ov out++X))(hl:out.length<2 ^ 30)(p:aG):∃ v' H',app 7 32 ov (slc H.next 0 1 1) (H.new (.cells p.cells none))=some (v',H')/\Has H0 Z H' (peL nb o v' (out++[p])++X):=by
 obtain⟨v',H3,a1,a2,g⟩:=h.app1 (k:=1) (sz:=7) (v:=ov) (rows:=bH out) (bytes:=32) rfl p.cells rfl (by simp[aG.cells]) (by decide) (by decide) (by simp only[bH,List.length_map];omega)
 refine⟨v',H3,a1,?_⟩;have hr:bH (out++[p])=bH out++[p.cells]:=by simp[bH]
 show Has H0 Z H3 (bJ nb (vO o) :: bB 7 v' (bH (out++[p])) :: X)
 rw[hr];exact g
theorem aBD{b o:Nat}{p:aG}(e:Ext H0 H)(hr:(H0.get b).row o 7=some p.cells):aE 7 (ptr b o) H=some p.v:=by
 have:H.get b=H0.get b:=e.obj (o:=H0.get b) (λhd=>by rw[hd]at hr;cases hr) rfl
 rw[aL,this,hr];rfl
theorem S.f12(hE:aW E){v:Value}{l:List aG}(hv:Rows H 7 v (bH l))(hl:l.length<2 ^ 29)(hQ:∀ w H',Ext H H'->Rows H' 7 w (bH (dH l none))->Q w H'):E.call 28 [v] H Q:=by
 apply hE.f12;have i0:vi 0=vi ((0:Nat):Int):=rfl;have hlv:=hv.lenSlc;have hpl:(bH l).length=l.length:=by simp[bH]
 rw[hpl]at hlv;have g1:=((Has.begin (Ext.refl H) (Sub.refl H)).newbox [(.bool false),(.int .u32 0)]).nils 7;simp only[F.f12,bE,hlv,i0,aB];generalize H.new (.cells [(.bool false),(.int .u32 0)] none)=H2 at *;generalize H.next=nb at *;refine aY.count l.length (λk ls H'=>∃ ov out now,ls=[ov,ptr nb 0,v,vi l.length,vi k]/\Has H H H' (peL nb now ov out++[])/\out.length<=k/\out++dH (l.drop k) now=dH l none) ?_ ⟨cB,[],none,rfl,g1,Nat.le_refl _,rfl⟩;rintro k _ H3 X1 hk ih ⟨ov,out,now,rfl,g,hol,hpe⟩;rcases Nat.lt_or_ge k l.length with hlt | hge
 rotate_left
 ·have hlt':decide ((k:Int)<l.length)=false:=decide_eq_false (by omega)
  rw[List.drop_eq_nil_of_le hge]at hpe;have hpe:out=dH l none:=by rw[<- hpe];simp[dH]
  simp only[F.f12_l1,aF,hlt',aB];refine hQ _ _ g.ext ?_;rw[<- hpe];exact g.rows (k:=1) (sz:=7) (v:=ov) (rows:=bH out) rfl
 have hlt':decide ((k:Int)<l.length)=true:=decide_eq_true (by omega)
 obtain⟨b,o,f1,f2,_⟩:=uG hv hlt;have lo:=aBD g.ext f2;have hinc:=bN (i:=k) (by omega)
 rw[List.drop_eq_getElem_cons hlt]at hpe;generalize l[k]=p at *;have hst:=sA p H3;have bp:=AH.get_new_self H3 (.cells p.cells none);have g4:Has H H (H3.new (.cells p.cells none)) (peL nb now ov out++[bJ H3.next p.cells]):=g.newbox p.cells;have c0:p.cells[0]? = some (u8 p.kind):=rfl;have c3:p.cells[3]? = some (u16 p.insn.code):=rfl;have c6:p.cells[6]? = some (u32 p.insn.k):=rfl;have q1:(.int .u8 1:Value)=u8 1#8:=rfl;have q2:(.int .u8 2:Value)=u8 2#8:=rfl;have q32:(.int .u16 32:Value)=u16 32#16:=rfl;have hbv0:aK [(0,1),(1,1)] #[(.bool false),(.int .u32 0)] []=some (.agg (vO none).toArray):=rfl;have hbv1:aK [(0,1),(1,1)] #[(.bool false),(.int .u32 0)] [(0,(.bool true)),(1,u32 p.insn.k)]=some (.agg (vO (some p.insn.k)).toArray):=rfl;simp only[F.f12_l1,aF,hlt',f1,lo,bE,hst,bp,c0,q1,eB,aB];generalize H3.new (.cells p.cells none)=H4 at *;generalize H3.next=t at *
 have fin:∀ (now':Option (BitVec 32)) (K:AH),Has H H K (peL nb now' ov out++[bJ t p.cells])->(out++[p])++dH (l.drop (k+1)) now'=dH l none->F.f12_j1 E Q X1 ov (ptr nb 0) (ptr t 0) v (vi l.length) (vi k) K:=by
  intro now' K gk hk';have hbt:=gk.box (k:=2) (b:=t) (c:=p.cells) rfl;have lot:aE 7 (ptr t 0) K=some p.v:=by rw[aL,hbt,dF _ _ 7 rfl];rfl
  have hbS:bV 1 7 #[(.int .u8 0),vi 0,vi 0,(.int .u16 0),(.int .u8 0),(.int .u8 0),(.int .u32 0)] [(0,p.v)]=some (.cells p.cells none,fI 1 1):=cV 7 [u8 0#8,vi 0,vi 0,u16 0#16,u8 0#8,u8 0#8,u32 0#32] p.cells rfl rfl;obtain⟨w,K2,a1,g5⟩:=aKY gk (by omega) p
  simp only[F.f12_j1,lot,hbS,AM.aT,cT,a1,hinc,aB];exact ih hlt _ _ ⟨w,out++[p],now',rfl,Has.dropLast (L:=peL nb now' w (out++[p])) g5,by simp;omega,hk'⟩
 have hcons:dH (p :: l.drop (k+1)) now=if p.kind=1#8 then p :: dH (l.drop (k+1)) none
  else if p.kind=2#8/\p.insn.code=32#16 then(if now=some p.insn.k then dH (l.drop (k+1)) now else p :: dH (l.drop (k+1)) (some p.insn.k))
  else if p.kind=2#8 then p :: dH (l.drop (k+1)) none
  else p :: dH (l.drop (k+1)) now:=rfl
 rw[hcons]at hpe
 by_cases o1:p.kind=1#8
 ·have hd:decide (p.kind=1#8)=true:=decide_eq_true o1
  rw[if_pos o1]at hpe;obtain⟨K,s1,gk⟩:=g4.setNow none;simp only[hd,hbv0,s1,aB];exact fin none K gk (by rw[List.append_assoc];exact hpe)
 have hd1:decide (p.kind=1#8)=false:=decide_eq_false o1;rw[if_neg o1]at hpe;simp only[hd1,bp,c0,q2,eB,aB]
 by_cases o2:p.kind=2#8
 ·have hd:decide (p.kind=2#8)=true:=decide_eq_true o2
  simp only[hd,bp,c3,q32,cC,aB]
  by_cases o3:p.insn.code=32#16
  ·have hd3:decide (p.insn.code=32#16)=true:=decide_eq_true o3
   rw[if_pos ⟨o2,o3⟩]at hpe;have hbn:=g4.box (k:=0) (b:=nb) (c:=vO now) rfl;have lon:aE 2 (ptr nb 0) H4=some (.agg (vO now).toArray):=by rw[aL,hbn,dF _ _ 2 rfl];rfl
   have hsame:jM [2,0] .eql (.agg (vO now).toArray) (.agg (vO (some p.insn.k)).toArray)=some (vb (decide (now=some p.insn.k))):=aMl now p.insn.k;simp only[hd3,lon,bp,c6,hbv1,hsame,aB]
   by_cases o4:now=some p.insn.k
   ·have hd4:decide (now=some p.insn.k)=true:=decide_eq_true o4
    rw[if_pos o4]at hpe;simp only[hd4,hinc,aB];exact ih hlt _ _ ⟨ov,out,now,rfl,Has.dropLast (L:=peL nb now ov out) g4,by omega,hpe⟩
   ·have hd4:decide (now=some p.insn.k)=false:=decide_eq_false o4
    rw[if_neg o4]at hpe;obtain⟨K,s1,gk⟩:=g4.setNow (some p.insn.k);simp only[hd4,bp,c6,hbv1,s1,aB];exact fin (some p.insn.k) K gk (by rw[List.append_assoc];exact hpe)
  ·have hd3:decide (p.insn.code=32#16)=false:=decide_eq_false o3
   rw[if_neg (λh=>o3 h.2),if_pos o2]at hpe;obtain⟨K,s1,gk⟩:=g4.setNow none;simp only[hd3,hd,bp,c0,q2,eB,hbv0,s1,aB];exact fin none K gk (by rw[List.append_assoc];exact hpe)
 ·have hd:decide (p.kind=2#8)=false:=decide_eq_false o2
  rw[if_neg (λh=>o2 h.1),if_neg o2]at hpe;simp only[hd,bp,c0,q2,eB,aB];exact fin now H4 g4 (by rw[List.append_assoc];exact hpe)
end
end
section
set_option maxRecDepth 20000
def mQ:List aG->List aG
 | []=>[]
 | p :: l=>if p.kind=1#8 then mQ l else p :: l
def gG(p:aG)(l:List aG)(m:List (Int×Int)):List (Int×Int) :=
 if p.kind=1#8 then(match (mQ l).head? with
  | some q=>if q.kind=4#8 then fB p.to q.to m else m
  | none=>m) else m
def cM:List aG->List (Int×Int)->List (Int×Int)
 | [],m=>m
 | p :: l,m=>cM l (gG p l m)
section
variable {E:Sy}{H H' H0 Z:AH}{Q:Value->AH->Prop}{X:List Res}
theorem aGB(hE:aW E){v:Value}{l:List aG}(hv:Rows H0 7 v (bH l))(hl:l.length<2 ^ 29){k:Nat}(hk:k<l.length)(h1:l[k].kind=1#8){r t:Nat}{m:List (Int×Int)}(g:Has H0 Z H [dP vi vi r m,bJ t l[k].cells]){X0:List Value->AH->Prop}(next:∀ H',Has H0 Z H' [dP vi vi r (gG l[k] (l.drop (k+1)) m)]->X0 [v,.map (some r),v,vi l.length,vi ((k+1:Nat):Int)] H'):
  lp7 (F.f51_l2 E Q X0) [v,.map (some r),ptr t 0,vi k,v,vi l.length,vi k] H:=by
 have hlv:=hv.lenSlc;have hpl:(bH l).length=l.length:=by simp[bH]
 rw[hpl]at hlv;have hinck:=bN (i:=k) (by omega)
 have hth:gG l[k] (l.drop (k+1)) m=match (mQ (l.drop k)).head? with
  | some q=>if q.kind=4#8 then fB l[k].to q.to m else m
  | none=>m:=by
  have:mQ (l.drop k)=mQ (l.drop (k+1)):=by
   rw[List.drop_eq_getElem_cons hk]
   show(if l[k].kind=1#8 then _ else _)=_
   rw[if_pos h1]
  unfold gG;rw[if_pos h1,this]
 refine aY.ind (λn ls H'=>H=H'/\∃ j:Nat,n=l.length - j/\j<=l.length/\mQ (l.drop k)=mQ (l.drop j)/\ls=[v,.map (some r),ptr t 0,vi j,v,vi l.length,vi k]) ?_ (l.length - k) ⟨rfl,k,rfl,by omega,rfl,rfl⟩
 rintro n _ _ X1 ih ⟨rfl,j,rfl,hj,hs,rfl⟩;have q1:(.int .u8 1:Value)=u8 1#8:=rfl;have q4:(.int .u8 4:Value)=u8 4#8:=rfl;rcases Nat.lt_or_ge j l.length with hlt | hge
 ·have hlt':decide ((j:Int)<l.length)=true:=decide_eq_true (by omega)
  obtain⟨b,o,f1,f2,_⟩:=uG (hv.mono g.ext) hlt;have c0:((H.get b).cell o)=some (u8 l[j].kind):=by have:=mF f2 (j:=0) (by omega);simpa[aG.cells] using this
  have c1:((H.get b).cell (o+1))=some (vi l[j].to):=by have:=mF f2 (j:=1) (by omega);simpa[aG.cells] using this
  have hinc:=bN (i:=j) (by omega)
  have hdr:l.drop j=l[j] :: l.drop (j+1):=List.drop_eq_getElem_cons hlt;have hsk:mQ (l.drop j)=if l[j].kind=1#8 then mQ (l.drop (j+1)) else l[j] :: l.drop (j+1):=by rw[hdr];rfl
  generalize l[j]=p at *;simp only[F.f51_l2,hlv,aF,hlt',f1,c0,q1,eB,aB]
  by_cases o1:p.kind=1#8
  ·have hd:decide (p.kind=1#8)=true:=decide_eq_true o1
   rw[if_pos o1]at hsk;simp only[hd,hinc,aB];exact ih _ (by omega) _ _ ⟨rfl,j+1,rfl,by omega,by rw[hs,hsk],rfl⟩
  ·have hd:decide (p.kind=1#8)=false:=decide_eq_false o1
   rw[if_neg o1]at hsk;rw[hs,hsk]at hth;simp only[hd,hlv,aF,hlt',f1,c0,q4,eB,aB]
   by_cases o4:p.kind=4#8
   ·have hd4:decide (p.kind=4#8)=true:=decide_eq_true o4
    have hbt:=g.box (k:=1) (b:=t) (c:=l[k].cells) rfl;have ct:l[k].cells[1]? = some (vi l[k].to):=rfl;obtain⟨H2,m1,g2⟩:=g.mapset (n:=0) (r:=r) (l:=m) (fk:=vi) (fv:=vi) rfl oP l[k].to p.to;have hth:gG l[k] (l.drop (k+1)) m=fB l[k].to p.to m:=by rw[hth];show(if p.kind=4#8 then _ else _)=_;rw[if_pos o4]
    rw[hth]at next;simp only[hd4,hbt,ct,f1,c1,m1,hinck,aB];exact next _ (g2.drop 1)
   ·have hd4:decide (p.kind=4#8)=false:=decide_eq_false o4
    have hth:gG l[k] (l.drop (k+1)) m=m:=by rw[hth];show(if p.kind=4#8 then _ else _)=_;rw[if_neg o4]
    rw[hth]at next;simp only[hd4,hinck,aB];exact next _ (g.drop 1)
 ·have hlt':decide ((j:Int)<l.length)=false:=decide_eq_false (by omega)
  rw[hs,List.drop_eq_nil_of_le hge]at hth;have hth:gG l[k] (l.drop (k+1)) m=m:=hth;rw[hth]at next;simp only[F.f51_l2,hlv,aF,hlt',hinck,aB];exact next _ (g.drop 1)
theorem S.f51(hE:aW E){v:Value}{l:List aG}(hv:Rows H 7 v (bH l))(hl:l.length<2 ^ 29)(hQ:∀ r H',Has H H H' [dP vi vi r (cM l [])]->Q (.map (some r)) H'):E.call 102 [v] H Q:=by
 apply hE.f51;have hlv:=hv.lenSlc;have hpl:(bH l).length=l.length:=by simp[bH]
 rw[hpl]at hlv;have i0:vi 0=vi ((0:Nat):Int):=rfl;have hmw:∀ (H:AH) (K:Value->AH->Prop),mY H K=K (.map (some H.next)) (H.new (.map [] 0 true)):=λ_ _=>rfl;have g1:=(Has.begin (Ext.refl H) (Sub.refl H)).newmap vi vi;simp only[F.f51,hmw,hlv,i0,aB];generalize H.new (.map [] 0 true)=H1 at *;generalize H.next=r at *;refine aY.count l.length (λk ls H'=>ls=[v,.map (some r),v,vi l.length,vi k]/\∃ m,Has H H H' [dP vi vi r m]/\cM (l.drop k) m=cM l []) ?_ ⟨rfl,[],g1,rfl⟩;rintro k _ H2 X1 hk ih ⟨rfl,m,g,hm⟩;rcases Nat.lt_or_ge k l.length with hlt | hge
 ·have hlt':decide ((k:Int)<l.length)=true:=decide_eq_true (by omega)
  obtain⟨b,o,f1,f2,_⟩:=uG hv hlt;have lo:=aBD g.ext f2;have hinc:=bN (i:=k) (by omega)
  rw[List.drop_eq_getElem_cons hlt]at hm;have hm:cM (l.drop (k+1)) (gG l[k] (l.drop (k+1)) m)=cM l []:=hm;have hst:=sA l[k] H2;have bp:=AH.get_new_self H2 (.cells l[k].cells none);have g3:=g.newbox l[k].cells;have c0:l[k].cells[0]? = some (u8 l[k].kind):=rfl;have q1:(.int .u8 1:Value)=u8 1#8:=rfl;simp only[F.f51_l1,aF,hlt',f1,lo,bE,hst,bp,c0,q1,aBY,aB];generalize H2.new (.cells l[k].cells none)=H3 at *;generalize H2.next=t at *
  by_cases o1:l[k].kind=1#8
  ·have hd:decide (l[k].kind≠1#8)=false:=decide_eq_false (by simpa using o1)
   simp only[hd,aB];exact aGB hE hv hl hlt o1 g3 λH' g'=>ih hlt _ _ ⟨rfl,_,g',hm⟩
  ·have hd:decide (l[k].kind≠1#8)=true:=decide_eq_true o1
   have ht:gG l[k] (l.drop (k+1)) m=m:=by unfold gG;rw[if_neg o1]
   rw[ht]at hm;simp only[hd,hinc,aB];exact ih hlt _ _ ⟨rfl,m,g3.drop 1,hm⟩
 ·have hlt':decide ((k:Int)<l.length)=false:=decide_eq_false (by omega)
  rw[List.drop_eq_nil_of_le hge]at hm;have hm:m=cM l []:=hm;simp only[F.f51_l1,aF,hlt',aB];rw[hm]at g;exact hQ _ _ g
end
end
section
set_option maxRecDepth 20000
def cG(w:List (Int×Int))(p:aG):aG :=
 if p.kind=4#8 then { p with to:=bM w w.length p.to }
 else if p.kind=3#8 then { p with to:=bM w w.length p.to,els:=bM w w.length p.els }
 else p
def gU(u:List (Int×Bool))(p:aG):List (Int×Bool) :=
 if p.kind=4#8 then fB p.to true u
 else if p.kind=3#8 then fB p.els true (fB p.to true u)
 else u
def dG(u:List (Int×Bool)):List aG->Bool->List aG
 | [],_=>[]
 | p :: l,dead =>
  if p.kind=1#8 then(if(bC p.to u).getD false=true then p :: dG u l false else dG u l dead)
  else if dead=true\/(p.kind=4#8/\fR l p.to=true) then dG u l dead
  else p :: dG u l (decide (p.kind=4#8)||(decide (p.kind=2#8)&&decide (bR p.insn.code=6#16)))
def kY(l:List aG):List aG :=
 let out:=l.map (cG (cM l []))
 dG (out.foldl gU []) out false
section
variable {E:Sy}{H H' H0 Z:AH}{Q:Value->AH->Prop}{X:List Res}
theorem Has.bset{L:List Res}{n t k:Nat}{c c':List Value}{v:Value}(h:Has H0 Z H L)(hn:L[n]? = some (bJ t c))(hp:plain1 v=true)(hk:k<c.length)(hc:c.set k v=c'):∃ H',aZ (ptr t k) v H=some H'/\Has H0 Z H' (L.set n (bJ t c')):=by
 subst hc;have hb:=h.box hn;refine⟨H.put t (.cells (c.set k v) none),?_,h.put hn _⟩;rw[eX,if_pos hp,hb];simp only[hk,if_true]
def onL(r ur:Nat)(w:List (Int×Int))(u:List (Int×Bool))(ov:Value)(out:List aG):List Res:=[dP vi vi r w,dP vi vb ur u,bB 7 ov (bH out)]
theorem aD9(hE:aW E){r ur t:Nat}{w:List (Int×Int)}{u:List (Int×Bool)}{ov v:Value}{out:List aG}{p:aG}(g:Has H0 Z H (onL r ur w u ov out++[bJ t p.cells]))(hl:out.length<2 ^ 30){ln k:Nat}(hk:k<2 ^ 30){X0:List Value->AH->Prop}(next:∀ ov' H',Has H0 Z H' (onL r ur w u ov' (out++[p]))->X0 [.map (some r),.map (some ur),ov',v,vi ln,vi ((k+1:Nat):Int)] H'):F.f50_j1 E Q X0 (.map (some r)) (.map (some ur)) ov (ptr t 0) v (vi ln) (vi k) H:=by
 have hbt:=g.box (k:=3) (b:=t) (c:=p.cells) rfl;have lot:aE 7 (ptr t 0) H=some p.v:=by rw[aL,hbt,dF _ _ 7 rfl];rfl
 have hbS:bV 1 7 #[(.int .u8 0),vi 0,vi 0,(.int .u16 0),(.int .u8 0),(.int .u8 0),(.int .u32 0)] [(0,p.v)]=some (.cells p.cells none,fI 1 1):=cV 7 [u8 0#8,vi 0,vi 0,u16 0#16,u8 0#8,u8 0#8,u32 0#32] p.cells rfl rfl;have hinc:=bN (i:=k) (by omega)
 obtain⟨v',H3,a1,a2,g2⟩:=g.app1 (k:=2) (sz:=7) (v:=ov) (rows:=bH out) (bytes:=32) rfl p.cells rfl (by simp[aG.cells]) (by decide) (by decide) (by simp only[bH,List.length_map];omega)
 have hr:bH (out++[p])=bH out++[p.cells]:=by simp[bH]
 simp only[F.f50_j1,lot,hbS,AM.aT,cT,a1,hinc,aB];refine next v' H3 ?_
 show Has H0 Z H3 [dP vi vi r w,dP vi vb ur u,bB 7 v' (bH (out++[p]))]
 rw[hr];exact Has.dropLast (L:=[dP vi vi r w,dP vi vb ur u,bB 7 v' (bH out++[p.cells])]) g2
theorem aMC(hE:aW E){v:Value}{l:List aG}(hv:Rows H0 7 v (bH l))(hl:l.length<2 ^ 29){r ur:Nat}{w:List (Int×Int)}(hw:w.length<2 ^ 30)(g0:Has H0 Z H (onL r ur w [] cB [])){R:List Value->AH->Prop}(hR:∀ ov H',Has H0 Z H' (onL r ur w ((l.map (cG w)).foldl gU []) ov (l.map (cG w))) ->
   (opt (lenSlc ov) λv27=>lp7 (F.f50_l2 E Q) [.map (some ur),ov,(.slice none 0 0),(.bool false),ov,v27,vi 0] H')):
  lp6 (F.f50_l1 E Q) [.map (some r),.map (some ur),(.slice none 0 0),v,vi l.length,vi 0] H:=by
 have i0:vi 0=vi ((0:Nat):Int):=rfl;rw[i0];refine aY.count l.length (λk ls H'=>∃ ov,ls=[.map (some r),.map (some ur),ov,v,vi l.length,vi k]/\Has H0 Z H' (onL r ur w (((l.take k).map (cG w)).foldl gU []) ov ((l.take k).map (cG w)))) ?_ ⟨cB,rfl,g0⟩;rintro k _ H1 X1 hk ih ⟨ov,rfl,g⟩;rcases Nat.lt_or_ge k l.length with hlt | hge
 rotate_left
 ·have hke:k=l.length:=by omega
  subst hke;have hlt':decide ((l.length:Int)<l.length)=false:=decide_eq_false (by omega)
  rw[List.take_length]at g;simp only[F.f50_l1,aF,hlt',aB];exact hR _ _ g
 have hlt':decide ((k:Int)<l.length)=true:=decide_eq_true (by omega)
 obtain⟨b,o,f1,f2,_⟩:=uG hv hlt;have lo:=aBD g.ext f2
 have htk:(l.take (k+1)).map (cG w)=(l.take k).map (cG w)++[cG w l[k]]:=by
  rw[List.take_succ,List.getElem?_eq_getElem hlt,List.map_append];rfl
 have hlen:((l.take k).map (cG w)).length<2 ^ 30:=by rw[List.length_map,List.length_take];omega
 have hus:((l.take (k+1)).map (cG w)).foldl gU []=gU (((l.take k).map (cG w)).foldl gU []) (cG w l[k]):=by rw[htk,List.foldl_append];rfl
 have ih:=ih hlt;rw[htk]at ih;rw[htk]at hus;generalize l[k]=p at *;rw[hus]at ih;generalize (l.take k).map (cG w)=out at *;generalize out.foldl gU []=u at *;have hst:=sA p H1;have g2:=g.newbox p.cells;have bp:=AH.get_new_self H1 (.cells p.cells none);have c0:p.cells[0]? = some (u8 p.kind):=rfl;have c1:p.cells[1]? = some (vi p.to):=rfl;have c2:p.cells[2]? = some (vi p.els):=rfl;have q4:(.int .u8 4:Value)=u8 4#8:=rfl;have q3:(.int .u8 3:Value)=u8 3#8:=rfl;simp only[F.f50_l1,aF,hlt',f1,lo,bE,hst,bp,c0,q4,eB,aB];generalize H1.new (.cells p.cells none)=H2 at *;generalize H1.next=t at *;have hmw:dS vi vi H2 r w:=g2.mapAt (k:=0) rfl
 by_cases o4:p.kind=4#8
 ·have hd:decide (p.kind=4#8)=true:=decide_eq_true o4
  have hrd:cG w p={ p with to:=bM w w.length p.to }:=by unfold cG;rw[if_pos o4]
  have hu1:gU u (cG w p)=fB (bM w w.length p.to) true u:=by rw[hrd];unfold gU;rw[if_pos (show aG.kind { p with to:=bM w w.length p.to }=4#8 from o4)]
  rw[hu1,hrd]at ih;simp only[hd,bp,c1,aB];refine S.f44 hE hmw hw p.to ?_;obtain⟨H4,s4,g4⟩:=g2.bset (n:=3) (t:=t) (k:=1) (c:=p.cells) (c':=aG.cells { p with to:=bM w w.length p.to }) (v:=vi (bM w w.length p.to)) rfl rfl (by simp[aG.cells]) rfl
  have b4:=g4.box (k:=3) (b:=t) (c:=aG.cells { p with to:=bM w w.length p.to }) rfl
  have d1:(aG.cells { p with to:=bM w w.length p.to })[1]? = some (vi (bM w w.length p.to)):=rfl
  obtain⟨H5,m5,g5⟩:=g4.mapset (n:=1) (r:=ur) (l:=u) (fk:=vi) (fv:=vb) rfl oP (bM w w.length p.to) true;have m5:eD 0 (.map (some ur)) (vi (bM w w.length p.to)) (.bool true) H4=some H5:=m5;simp only[s4,b4,d1,m5,aB];exact aD9 hE (p:={ p with to:=bM w w.length p.to }) g5 hlen (by omega) λov' H' g'=>ih _ _ ⟨ov',rfl,g'⟩
 have hd4:decide (p.kind=4#8)=false:=decide_eq_false o4;simp only[hd4,q3,eB,aB]
 by_cases o3:p.kind=3#8
 ·have hd:decide (p.kind=3#8)=true:=decide_eq_true o3
  have hrd:cG w p={ p with to:=bM w w.length p.to,els:=bM w w.length p.els }:=by unfold cG;rw[if_neg o4,if_pos o3]
  have hu1:gU u (cG w p)=fB (bM w w.length p.els) true (fB (bM w w.length p.to) true u):=by
   rw[hrd];unfold gU;rw[if_neg (show ¬ aG.kind { p with to:=bM w w.length p.to,els:=bM w w.length p.els }=4#8 from o4),if_pos (show aG.kind { p with to:=bM w w.length p.to,els:=bM w w.length p.els }=3#8 from o3)]
  rw[hu1,hrd]at ih;simp only[hd,bp,c1,c2,aB];refine S.f44 hE hmw hw p.to ?_;refine⟨rfl,?_⟩;simp only[aB];refine S.f44 hE hmw hw p.els ?_;obtain⟨H4,s4,g4⟩:=g2.bset (n:=3) (t:=t) (k:=1) (c:=p.cells) (c':=aG.cells { p with to:=bM w w.length p.to }) (v:=vi (bM w w.length p.to)) rfl rfl (by simp[aG.cells]) rfl
  obtain⟨H5,s5,g5⟩:=g4.bset (n:=3) (t:=t) (k:=2) (c:=aG.cells { p with to:=bM w w.length p.to }) (c':=aG.cells { p with to:=bM w w.length p.to,els:=bM w w.length p.els }) (v:=vi (bM w w.length p.els)) rfl rfl (by simp[aG.cells]) rfl
  have b5:=g5.box (k:=3) (b:=t) (c:=aG.cells { p with to:=bM w w.length p.to,els:=bM w w.length p.els }) rfl
  have d1:(aG.cells { p with to:=bM w w.length p.to,els:=bM w w.length p.els })[1]? = some (vi (bM w w.length p.to)):=rfl
  have d2:(aG.cells { p with to:=bM w w.length p.to,els:=bM w w.length p.els })[2]? = some (vi (bM w w.length p.els)):=rfl
  obtain⟨H6,m6,g6⟩:=g5.mapset (n:=1) (r:=ur) (l:=u) (fk:=vi) (fv:=vb) rfl oP (bM w w.length p.to) true;have m6:eD 0 (.map (some ur)) (vi (bM w w.length p.to)) (.bool true) H5=some H6:=m6;have b6:=g6.box (k:=3) (b:=t) (c:=aG.cells { p with to:=bM w w.length p.to,els:=bM w w.length p.els }) rfl
  obtain⟨H7,m7,g7⟩:=g6.mapset (n:=1) (r:=ur) (l:=fB (bM w w.length p.to) true u) (fk:=vi) (fv:=vb) rfl oP (bM w w.length p.els) true;have m7:eD 0 (.map (some ur)) (vi (bM w w.length p.els)) (.bool true) H6=some H7:=m7;simp only[s4,s5,b5,d1,d2,m6,aB];refine⟨by rw[b6];rfl,?_⟩
  simp only[m7,aB];exact aD9 hE (p:={ p with to:=bM w w.length p.to,els:=bM w w.length p.els }) g7 hlen (by omega) λov' H' g'=>ih _ _ ⟨ov',rfl,g'⟩
 ·have hd:decide (p.kind=3#8)=false:=decide_eq_false o3
  have hrd:cG w p=p:=by unfold cG;rw[if_neg o4,if_neg o3]
  have hu1:gU u p=u:=by unfold gU;rw[if_neg o4,if_neg o3]
  rw[hrd,hu1]at ih;simp only[hd,aB];exact aD9 hE (p:=p) g2 hlen (by omega) λov' H' g'=>ih _ _ ⟨ov',rfl,g'⟩
end
end
section
set_option maxRecDepth 20000
section
variable {E:Sy}{H H' H0 Z:AH}{Q:Value->AH->Prop}{X:List Res}
theorem dS.look_bool{r:Nat}{l:List (Int×Bool)}(h:dS vi vb H r l)(a:Int):AM.look 0 (.bool false) false (.map (some r)) (vi a) H=some (vb ((bC a l).getD false)):=by
 have:=h.look (kd:=0) oP a (.bool false) false;cases hk:bC a l with
 | none=>unfold bC at hk;rw[hk]at this;rw[this];rfl
 | some n=>unfold bC at hk;rw[hk]at this;rw[this];rfl
def kpL(ur:Nat)(u:List (Int×Bool))(ov:Value)(out:List aG)(kv:Value)(kept:List aG):List Res:=[dP vi vb ur u,bB 7 ov (bH out),bB 7 kv (bH kept)]
theorem aNz(hE:aW E){ur t:Nat}{u:List (Int×Bool)}{ov kv:Value}{out kept:List aG}{p:aG}(g:Has H0 Z H (kpL ur u ov out kv kept++[bJ t p.cells]))(hl:kept.length<2 ^ 30){t9 t56:Value}{ln k:Nat}(hk:k<2 ^ 30)(dead:Value){X0:List Value->AH->Prop}(next:∀ kv' H',Has H0 Z H' (kpL ur u ov out kv' (kept++[p]))->X0 [.map (some ur),ov,kv',dead,t56,vi ln,vi ((k+1:Nat):Int)] H'):F.f50_j2 E Q X0 (.map (some ur)) ov kv dead (ptr t 0) t56 (vi ln) (vi k) H:=by
 have hbt:=g.box (k:=3) (b:=t) (c:=p.cells) rfl;have lot:aE 7 (ptr t 0) H=some p.v:=by rw[aL,hbt,dF _ _ 7 rfl];rfl
 have hbS:bV 1 7 #[(.int .u8 0),vi 0,vi 0,(.int .u16 0),(.int .u8 0),(.int .u8 0),(.int .u32 0)] [(0,p.v)]=some (.cells p.cells none,fI 1 1):=cV 7 [u8 0#8,vi 0,vi 0,u16 0#16,u8 0#8,u8 0#8,u32 0#32] p.cells rfl rfl;have hinc:=bN (i:=k) (by omega)
 obtain⟨v',H3,a1,a2,g2⟩:=g.app1 (k:=2) (sz:=7) (v:=kv) (rows:=bH kept) (bytes:=32) rfl p.cells rfl (by simp[aG.cells]) (by decide) (by decide) (by simp only[bH,List.length_map];omega)
 have hr:bH (kept++[p])=bH kept++[p.cells]:=by simp[bH]
 simp only[F.f50_j2,lot,hbS,AM.aT,cT,a1,hinc,aB];refine next v' H3 ?_
 show Has H0 Z H3 [dP vi vb ur u,bB 7 ov (bH out),bB 7 v' (bH (kept++[p]))]
 rw[hr];exact Has.dropLast (L:=[dP vi vb ur u,bB 7 ov (bH out),bB 7 v' (bH kept++[p.cells])]) g2
theorem aMA(hE:aW E){ur:Nat}{u:List (Int×Bool)}{ov:Value}{out:List aG}(hl:out.length<2 ^ 29)(g0:Has H0 Z H (kpL ur u ov out cB []))(hQ:∀ w H',Ext H0 H'->Rows H' 7 w (bH (dG u out false))->Q w H'):
  lp7 (F.f50_l2 E Q) [.map (some ur),ov,(.slice none 0 0),(.bool false),ov,vi out.length,vi 0] H:=by
 have i0:vi 0=vi ((0:Nat):Int):=rfl;rw[i0];refine aY.count out.length (λk ls H'=>∃ kv kept dead,ls=[.map (some ur),ov,kv,vb dead,ov,vi out.length,vi k]/\Has H0 Z H' (kpL ur u ov out kv kept)/\kept.length<=k/\kept++dG u (out.drop k) dead=dG u out false) ?_ ⟨cB,[],false,rfl,g0,Nat.le_refl _,rfl⟩;rintro k _ H1 X1 hk ih ⟨kv,kept,dead,rfl,g,hkl,hkp⟩;rcases Nat.lt_or_ge k out.length with hlt | hge
 rotate_left
 ·have hlt':decide ((k:Int)<out.length)=false:=decide_eq_false (by omega)
  rw[List.drop_eq_nil_of_le hge]at hkp;have hkp:kept=dG u out false:=by rw[<- hkp];simp[dG]
  simp only[F.f50_l2,aF,hlt',aB];refine hQ _ _ g.ext ?_;rw[<- hkp];exact g.rows (k:=2) (sz:=7) (v:=kv) (rows:=bH kept) rfl
 have hlt':decide ((k:Int)<out.length)=true:=decide_eq_true (by omega)
 have hrw:=g.rows (k:=1) (sz:=7) (v:=ov) (rows:=bH out) rfl;obtain⟨b,o,f1,_,lo⟩:=uG hrw hlt;have hinc:=bN (i:=k) (by omega)
 have ih:=ih hlt;have hpo:(bH out).length=out.length:=by simp[bH]
 have hdt:((bH out).take out.length).drop (k+1)=bH (out.drop (k+1)):=by
  rw[<- hpo,List.take_length];simp[bH]
 rw[List.drop_eq_getElem_cons hlt]at hkp;generalize out[k]=p at *;have hst:=sA p H1;have g2:=g.newbox p.cells;have bp:=AH.get_new_self H1 (.cells p.cells none);have c0:p.cells[0]? = some (u8 p.kind):=rfl;have c1:p.cells[1]? = some (vi p.to):=rfl;have c3:p.cells[3]? = some (u16 p.insn.code):=rfl;have q1:(.int .u8 1:Value)=u8 1#8:=rfl;have q2:(.int .u8 2:Value)=u8 2#8:=rfl;have q4:(.int .u8 4:Value)=u8 4#8:=rfl;have q6:(.int .u16 6:Value)=u16 6#16:=rfl;simp only[F.f50_l2,aF,hlt',f1,lo,bE,hst,bp,c0,q1,eB,aB];generalize H1.new (.cells p.cells none)=H2 at *;generalize H1.next=t at *;have skip:∀ {K:AH},Has H0 Z K (kpL ur u ov out kv kept++[bJ t p.cells])->kept++dG u (out.drop (k+1)) dead=dG u out false->X1 [.map (some ur),ov,kv,vb dead,ov,vi out.length,vi ((k+1:Nat):Int)] K:=λgK h=>ih _ _ ⟨kv,kept,dead,rfl,Has.dropLast (L:=kpL ur u ov out kv kept) gK,by omega,h⟩
 have push:∀ {K:AH} (d':Bool),Has H0 Z K (kpL ur u ov out kv kept++[bJ t p.cells])->(kept++[p])++dG u (out.drop (k+1)) d'=dG u out false->F.f50_j2 E Q X1 (.map (some ur)) ov kv (vb d') (ptr t 0) ov (vi out.length) (vi k) K:=λd' gK h =>
  aNz hE gK (by omega) (t9:=cB) (by omega) (vb d') λkv' H' g'=>ih _ _ ⟨kv',kept++[p],d',rfl,g',by simp;omega,h⟩
 have hcons:dG u (p :: out.drop (k+1)) dead=if p.kind=1#8 then(if(bC p.to u).getD false=true then p :: dG u (out.drop (k+1)) false else dG u (out.drop (k+1)) dead)
  else if dead=true\/(p.kind=4#8/\fR (out.drop (k+1)) p.to=true) then dG u (out.drop (k+1)) dead
  else p :: dG u (out.drop (k+1)) (decide (p.kind=4#8)||(decide (p.kind=2#8)&&decide (bR p.insn.code=6#16))):=rfl
 rw[hcons]at hkp
 by_cases o1:p.kind=1#8
 ·have hd:decide (p.kind=1#8)=true:=decide_eq_true o1
  have hlk:=(g2.mapAt (k:=0) (fk:=vi) (fv:=vb) (r:=ur) (l:=u) rfl).look_bool p.to;rw[if_pos o1]at hkp;simp only[hd,bp,c1,hlk,aB];cases hu:(bC p.to u).getD false with
  | true =>
   rw[hu,if_pos rfl]at hkp;simp only[aB];exact push false g2 (by rw[List.append_assoc];exact hkp)
  | false =>
   rw[hu,if_neg (by decide)]at hkp
   simp only[hinc,aB];exact skip g2 hkp
 have hd1:decide (p.kind=1#8)=false:=decide_eq_false o1;rw[if_neg o1]at hkp;simp only[hd1,aB]
 have stay:∀ {K:AH},Has H0 Z K (kpL ur u ov out kv kept++[bJ t p.cells])->¬ (dead=true\/(p.kind=4#8/\fR (out.drop (k+1)) p.to=true))->F.f50_j3 E Q X1 (.map (some ur)) ov kv (vb dead) (ptr t 0) ov (vi out.length) (vi k) (vb false) K:=by
  intro K gK hn;rw[if_neg hn]at hkp;have bK:=gK.box (k:=3) (b:=t) (c:=p.cells) rfl;simp only[F.f50_j3,bK,c0,q4,eB,aB]
  by_cases o4:p.kind=4#8
  ·have hd4:decide (p.kind=4#8)=true:=decide_eq_true o4
   rw[hd4,Bool.true_or]at hkp;simp only[hd4,aB];exact push true gK (by rw[List.append_assoc];exact hkp)
  ·have hd4:decide (p.kind=4#8)=false:=decide_eq_false o4
   rw[hd4,Bool.false_or]at hkp;simp only[hd4,bK,c0,q2,eB,aB]
   by_cases o2:p.kind=2#8
   ·have hd2:decide (p.kind=2#8)=true:=decide_eq_true o2
    rw[hd2,Bool.true_and]at hkp;simp only[hd2,bK,c3,aB];refine S.f13 hE _ ?_;simp only[q6,cC,hd4,hd2,aB];exact push _ gK (by rw[List.append_assoc];exact hkp)
   ·have hd2:decide (p.kind=2#8)=false:=decide_eq_false o2
    rw[hd2,Bool.false_and]at hkp;simp only[hd2,hd4,aB];exact push false gK (by rw[List.append_assoc];exact hkp)
 have go:∀ {K:AH},Has H0 Z K (kpL ur u ov out kv kept++[bJ t p.cells])->(dead=true\/(p.kind=4#8/\fR (out.drop (k+1)) p.to=true))->F.f50_j3 E Q X1 (.map (some ur)) ov kv (vb dead) (ptr t 0) ov (vi out.length) (vi k) (vb true) K:=by
  intro K gK hy;rw[if_pos hy]at hkp;simp only[F.f50_j3,hinc,aB];exact skip gK hkp
 cases dead with
 | true =>
  simp only[aB];exact go g2 (.inl rfl)
 | false =>
  simp only[bp,c0,q4,eB,aB]
  by_cases o4:p.kind=4#8
  ·have hd4:decide (p.kind=4#8)=true:=decide_eq_true o4
   have i1:(.int .i64 1:Value)=vi 1:=rfl;obtain⟨sl,rl⟩:=(g2.rows (k:=1) (sz:=7) (v:=ov) (rows:=bH out) rfl).slice' (lo:=some (vi ((k+1:Nat):Int))) (hi:=none) (i:=k+1) (j:=out.length) (.inl rfl) (.inr ⟨rfl,hpo.symm⟩) (by omega) (by omega)
   rw[hdt]at rl;simp only[hd4,hinc,sl,bp,c1,aB];refine S.f45 hE rl (by rw[List.length_drop];omega) p.to λH3 e3 =>?_
   have g3:=g2.grow e3;cases hf:fR (out.drop (k+1)) p.to with
   | true =>
    simp only[hd4,aB];exact go g3 (.inr ⟨o4,hf⟩)
   | false =>
    simp only[hd4,aB];exact stay g3 (λh=>h.elim (λh=>by cases h) λh=>by rw[hf]at h;cases h.2)
  ·have hd4:decide (p.kind=4#8)=false:=decide_eq_false o4
   simp only[hd4,aB];exact stay g2 (λh=>h.elim (λh=>by cases h) λh=>o4 h.1)
end
end
section
set_option maxRecDepth 20000
def qB:Nat->List aG->List aG
 | 0,l=>l
 | f+1,l=>if(kY l).length=l.length then kY l else qB f (kY l)
theorem aCN(u:List (Int×Bool)):∀ (l:List aG) (d:Bool),(dG u l d).length<=l.length
 | [],_=>Nat.le_refl _
 | p :: l,d=>by
  unfold dG;have h:=aCN u l
  split
  ·split
   ·have:=h false;simp only[List.length_cons];omega
   ·have:=h d;simp only[List.length_cons];omega
  ·split
   ·have:=h d;simp only[List.length_cons];omega
   ·have:=h (decide (p.kind=4#8)||(decide (p.kind=2#8)&&decide (bR p.insn.code=6#16)));simp only[List.length_cons];omega
theorem aDA(l:List aG):(kY l).length<=l.length:=by
 unfold kY;have:=aCN ((l.map (cG (cM l []))).foldl gU []) (l.map (cG (cM l []))) false;rw[List.length_map]at this;exact this
theorem aFM{K V:Type}[DecidableEq K](k:K)(v:V):∀ l:List (K×V),(fB k v l).length<=l.length+1
 | []=>by simp[fB]
 | p :: l=>by
  simp only[fB]
  split
  ·simp
  ·have:=aFM k v l;simp only[List.length_cons];omega
theorem yP:∀ (l:List aG) (m:List (Int×Int)),(cM l m).length<=m.length+l.length
 | [],_=>Nat.le_refl _
 | p :: l,m=>by
  have h1:=yP l (gG p l m)
  have h2:(gG p l m).length<=m.length+1:=by
   unfold gG
   split
   ·split
    ·split
     ·exact aFM _ _ _
     ·exact Nat.le_succ _
    ·exact Nat.le_succ _
   ·exact Nat.le_succ _
  show(cM l (gG p l m)).length<=_
  simp only[List.length_cons];omega
section
variable {E:Sy}{H H' H0 Z:AH}{Q:Value->AH->Prop}{X:List Res}
theorem S.f50(hE:aW E){v:Value}{l:List aG}(hv:Rows H 7 v (bH l))(hl:l.length<2 ^ 29)(hQ:∀ w H',Ext H H'->Rows H' 7 w (bH (kY l))->Q w H'):E.call 71 [v] H Q:=by
 apply hE.f50;have hlv:=hv.lenSlc;have hpl:(bH l).length=l.length:=by simp[bH]
 rw[hpl]at hlv;have hmw:∀ (H:AH) (K:Value->AH->Prop),mY H K=K (.map (some H.next)) (H.new (.map [] 0 true)):=λ_ _=>rfl;simp only[F.f50,aB];refine S.f51 hE hv hl λr H1 g1 =>?_;have g2:=(g1.newmap vi vb).nils 7;simp only[hmw,hlv,aB];generalize H1.new (.map [] 0 true)=H2 at *;generalize H1.next=ur at *;have hwl:=yP l [];simp only[List.length_nil,Nat.zero_add]at hwl;refine aMC hE hv hl (by omega) g2 (R:=λ_ _=>True) λov H3 g3 =>?_
 have hlo:=(g3.rows (k:=2) (sz:=7) (v:=ov) (rows:=bH (l.map (cG (cM l [])))) rfl).lenSlc;have hpo:(bH (l.map (cG (cM l [])))).length=(l.map (cG (cM l []))).length:=by simp[bH]
 rw[hpo]at hlo;simp only[hlo,aB];exact aMA hE (by rw[List.length_map];exact hl) ((g3.drop 0).nils 7) hQ
theorem S.f43(hE:aW E){v:Value}{l:List aG}(hv:Rows H 7 v (bH l))(hl:l.length<2 ^ 29)(hQ:∀ w H',Ext H H'->Rows H' 7 w (bH (qB (l.length+1) l))->Q w H'):E.call 32 [v] H Q:=by
 apply hE.f43;simp only[F.f43,aB];refine aY.ind (λn ls H'=>∃ tv l',ls=[tv]/\n=l'.length/\Ext H H'/\Rows H' 7 tv (bH l')/\l'.length<=l.length/\∃ f,l'.length<f/\qB f l'=qB (l.length+1) l) ?_ l.length ⟨v,l,rfl,rfl,Ext.refl _,hv,Nat.le_refl _,l.length+1,Nat.lt_succ_self _,rfl⟩;rintro n _ H1 X1 ih ⟨tv,l',rfl,rfl,e1,hr,hll,f,hf,ht⟩;obtain⟨f,rfl⟩:∃ g,f=g+1:=⟨f - 1,by omega⟩
 have hts:qB (f+1) l'=if(kY l').length=l'.length then kY l' else qB f (kY l'):=rfl;rw[hts]at ht;have hol:=aDA l';have hlv:=hr.lenSlc;have hpl:∀ l:List aG,(bH l).length=l.length:=λl=>by simp[bH]
 rw[hpl]at hlv;simp only[F.f43_l1,aB];refine S.f50 hE hr (by omega) λw H2 e2 hw =>?_
 have hlw:=hw.lenSlc;rw[hpl]at hlw;simp only[hlw,hlv,dU,aB]
 by_cases he:(kY l').length=l'.length
 ·have hd:decide (((kY l').length:Int)=(l'.length:Int))=true:=decide_eq_true (by omega)
  rw[if_pos he]at ht;rw[ht]at hw;simp only[hd,aB];exact hQ _ _ (e1.trans e2) hw
 ·have hd:decide (((kY l').length:Int)=(l'.length:Int))=false:=decide_eq_false (by omega)
  rw[if_neg he]at ht;simp only[hd,aB];exact ih (kY l').length (by omega) _ _ ⟨w,kY l',rfl,rfl,e1.trans e2,hw,by omega,f,by omega,ht⟩
end
end
section
set_option maxRecDepth 20000
def MkD.okM(s:MkD):Prop:=s.out.length<2 ^ 27/\∀ n,(bC n s.places).getD 0<=s.out.length
section
variable {E:Sy}{H H' H0 Z:AH}{Q:Value->AH->Prop}{X:List Res}{mb pm:Nat}{s:MkD}
theorem aBj(x:bL)(H:AH):aI 4 (ptr H.next 0) x.v (H.new (.cells [(.int .u16 0),(.int .u8 0),(.int .u8 0),(.int .u32 0)] none))=some (H.new (.cells x.cells none)):=by
 rw[cL,AH.get_new_self];have h3:AM.aQ [(.int .u16 0),(.int .u8 0),(.int .u8 0),(.int .u32 0)] 0 x.cells=x.cells:=rfl;have h4:x.cells.all plain1=true:=rfl;have h5:x.cells.length=4:=rfl;simp only[List.size_toArray,List.toList_toArray,h4,h5,List.length_cons,List.length_nil,Nat.zero_add,Nat.le_refl,and_self,if_true,h3,AH.new_put]
theorem aDn{c c':List Value}{k:Nat}{v:Value}(H:AH)(hp:plain1 v=true)(hk:k<c.length)(he:c.set k v=c'):aZ (ptr H.next k) v (H.new (.cells c none))=some (H.new (.cells c' none)):=by
 subst he;rw[eX,if_pos hp,AH.get_new_self];simp only[hk,if_true,AH.new_put]
theorem aBF(hE:aW E){p:aG}{t:Nat}(h:Mk H0 Z H mb pm s (X++[bJ t p.cells]))(hl:s.out.length<2 ^ 29)(to els:Int)(hQ:∀ H',Mk H0 Z H' mb pm (s.cmp2 p.insn to els) X->Q (vi 0) H'):F.f47_j2 E Q (ptr mb 0) (ptr t 0) (vi to) (vi els) H:=by
 have hb:=h.box;have lo:aE 4 (ptr t 3) H=some p.insn.v:=by rw[aL,hb];rfl
 have s1:=aBj p.insn H;have s2:=aDn (c:=p.insn.cells) (c':=[u16 p.insn.code,u8 (BitVec.ofInt 8 to),u8 p.insn.jf,u32 p.insn.k]) (k:=1) (v:=u8 (BitVec.ofInt 8 to)) H rfl (by simp[bL.cells]) rfl
 have s3:=aDn (c:=[u16 p.insn.code,u8 (BitVec.ofInt 8 to),u8 p.insn.jf,u32 p.insn.k]) (c':=bL.cells ⟨p.insn.code,BitVec.ofInt 8 to,BitVec.ofInt 8 els,p.insn.k⟩) (k:=2) (v:=u8 (BitVec.ofInt 8 els)) H rfl (by simp) rfl
 generalize hx:(⟨p.insn.code,BitVec.ofInt 8 to,BitVec.ofInt 8 els,p.insn.k⟩:bL)=x at *;have b1:=AH.get_new_self H (.cells x.cells none);have g:=h.newbox x.cells;obtain⟨ov,hbx,hlv⟩:=g.cells;have lo2:aE 4 (ptr H.next 0) (H.new (.cells x.cells none))=some x.v:=by rw[aL,b1,dF _ _ 4 rfl];rfl
 have hbS:bV 1 4 #[(.int .u16 0),(.int .u8 0),(.int .u8 0),(.int .u32 0)] [(0,x.v)]=some (.cells x.cells none,fI 1 1):=cV 4 [u16 0#16,u8 0#8,u8 0#8,u32 0#32] x.cells rfl rfl;obtain⟨v',H2,a1,H3,a2,g2⟩:=g.push (by omega) x hbx
 simp only[F.f47_j2,lo,bE,s1,s2,s3,aIQ,hbx,lo2,hbS,AM.aT,cT,aB];have a1:app 4 8 ov (slc (H.next+1) 0 1 1) ((H.new (.cells x.cells none)).new (.cells x.cells none))=some (v',H2):=a1;simp only[a1,a2,aB];refine hQ _ ?_;unfold MkD.cmp2;rw[hx];exact g2.dropLast.dropLast
theorem aCj(hE:aW E){p:aG}{t:Nat}(h:Mk H0 Z H mb pm s (X++[bJ t p.cells]))(hl:s.out.length<2 ^ 28)(to els:Int)(h1:els<2 ^ 40)(h2 : -2 ^ 40<els)(hQ:∀ H',Mk H0 Z H' mb pm (s.cmp1 p.insn to els) X->Q (vi 0) H'):F.f47_j1 E Q (ptr mb 0) (ptr t 0) (vi to) (vi els) H:=by
 have k253:(.int .i64 253:Value)=vi 253:=rfl;have i0:(.int .i64 0:Value)=vi 0:=rfl;have i1:(.int .i64 1:Value)=vi 1:=rfl;simp only[F.f47_j1,k253,cN,aB];unfold MkD.cmp1 at hQ
 by_cases hg:253<to
 ·have hd:decide ((253:Int)<to)=true:=decide_eq_true hg
  rw[if_pos hg]at hQ;simp only[hd,aB];refine S.f48 hE h (by omega) to λH1 g =>?_
  have ha:aA .add (vi els) (vi 1)=some (vi (els+1)):=eL (by omega) (by omega)
  simp only[i1,i0,ha,aB];refine aBF hE g ?_ 0 (els+1) hQ
  show(pG to :: s.out).length<_
  rw[List.length_cons];omega
 ·have hd:decide ((253:Int)<to)=false:=decide_eq_false hg
  rw[if_neg hg]at hQ;simp only[hd,aB];exact aBF hE h (by omega) to els hQ
theorem S.f47(hE:aW E)(h:Mk H0 Z H mb pm s X)(ok:s.okM)(p:aG)(hB:∀ e H',(bR p.insn.code≠5#16\/p.insn.code=5#16)->e=210->Ext H0 H'->Q (vi e) H')(hJ:∀ e H',¬ (bR p.insn.code≠5#16\/p.insn.code=5#16)->((bC p.to s.places).isSome=false\/(bC p.els s.places).isSome=false)->e=207->Ext H0 H'->Q (vi e) H')(hQ:∀ H',¬ (bR p.insn.code≠5#16\/p.insn.code=5#16)->¬ ((bC p.to s.places).isSome=false\/(bC p.els s.places).isSome=false)->Mk H0 Z H' mb pm (s.cmp0 p.insn (s.away p.to) (s.away p.els)) X->Q (vi 0) H'):
  E.call 101 [ptr mb 0,p.v] H Q:=by
 apply hE.f47;have g:=h.newbox p.cells;have b1:=AH.get_new_self H (.cells p.cells none);have c1:p.cells[1]? = some (vi p.to):=rfl;have c2:p.cells[2]? = some (vi p.els):=rfl;have c3:p.cells[3]? = some (u16 p.insn.code):=rfl;have k5:(.int .u16 5:Value)=u16 5#16:=rfl;have i0:(.int .i64 0:Value)=vi 0:=rfl;have i1:(.int .i64 1:Value)=vi 1:=rfl;have k253:(.int .i64 253:Value)=vi 253:=rfl;have p1:=ok.2 p.to;have p2:=ok.2 p.els;have p0:=ok.1;have aw1:s.away p.to=(s.out.length:Int) - ((bC p.to s.places).getD 0:Nat):=rfl;have aw2:s.away p.els=(s.out.length:Int) - ((bC p.els s.places).getD 0:Nat):=rfl;simp only[F.f47,aX,AM.aT,aR,List.toList_toArray,b1,c1,aB];generalize H.new (.cells p.cells none)=H1 at *;generalize H.next=t at *;refine S.f46 hE g (by omega) p.to (by omega) ?_
 simp only[b1,c2,aB];refine S.f46 hE g (by omega) p.els (by omega) ?_
 simp only[b1,c3,aB];refine S.f13 hE _ ?_;simp only[k5,yN,aB]
 by_cases hc1:bR p.insn.code=5#16
 rotate_left
 ·have hd:decide (bR p.insn.code≠5#16)=true:=decide_eq_true hc1
  simp only[hd,aB];exact hB 210 _ (.inl hc1) rfl g.ext
 have hd:decide (bR p.insn.code≠5#16)=false:=decide_eq_false (by simpa using hc1)
 simp only[hd,b1,c3,k5,cC,aB]
 by_cases hc2:p.insn.code=5#16
 ·have hd2:decide (p.insn.code=5#16)=true:=decide_eq_true hc2
  simp only[hd,hd2,aB];exact hB 210 _ (.inr hc2) rfl g.ext
 have hd2:decide (p.insn.code=5#16)=false:=decide_eq_false hc2
 have hcc:¬ (bR p.insn.code≠5#16\/p.insn.code=5#16):=by
  rintro(h | h)
  ·exact h hc1
  ·exact hc2 h
 simp only[hd,hd2,aB];cases ho1:(bC p.to s.places).isSome with
 | false =>
  simp only[aB];exact hJ 207 _ hcc (.inl ho1) rfl g.ext
 | true =>
  cases ho2:(bC p.els s.places).isSome with
  | false =>
   simp only[aB];exact hJ 207 _ hcc (.inr ho2) rfl g.ext
  | true =>
   have hoo:¬ ((bC p.to s.places).isSome=false\/(bC p.els s.places).isSome=false):=by rw[ho1,ho2];simp
   have hQ:=λH' h=>hQ H' hcc hoo h;unfold MkD.cmp0 at hQ;simp only[k253,cN,aB]
   by_cases hg:253<s.away p.els
   ·have hd:decide ((253:Int)<s.away p.els)=true:=decide_eq_true hg
    rw[if_pos hg]at hQ;have ha:aA .add (vi (s.away p.to)) (vi 1)=some (vi (s.away p.to+1)):=eL (by omega) (by omega)
    simp only[hd,aB];refine S.f48 hE g (by omega) _ λH2 g2 =>?_
    simp only[i1,i0,ha,aB];refine aCj hE g2 ?_ _ 0 (by omega) (by omega) hQ
    show(pG _ :: s.out).length<_
    rw[List.length_cons];omega
   ·have hd:decide ((253:Int)<s.away p.els)=false:=decide_eq_false hg
    rw[if_neg hg]at hQ;simp only[hd,aB];exact aCj hE g (by omega) _ _ (by omega) (by omega) hQ
end
end
section
set_option maxRecDepth 20000
section
variable {E:Sy}{H H' H0 Z:AH}{Q:Value->AH->Prop}{X:List Res}{mb pm:Nat}{s:MkD}
theorem S.f49(hE:aW E)(h:Mk H0 Z H mb pm s X)(ok:s.okM)(p:aG)(hB:∀ e H',s.part p = .inl e->e≠0->Ext H0 H'->Q (vi e) H')(hQ:∀ t H',s.part p = .inr t->Mk H0 Z H' mb pm t X->Q (vi 0) H'):
  E.call 70 [ptr mb 0,p.v] H Q:=by
 apply hE.f49;have g:=h.newbox p.cells;have b1:=AH.get_new_self H (.cells p.cells none);have c0:p.cells[0]? = some (u8 p.kind):=rfl;have c1:p.cells[1]? = some (vi p.to):=rfl;have c3:p.cells[3]? = some (u16 p.insn.code):=rfl;have q1:(.int .u8 1:Value)=u8 1#8:=rfl;have q2:(.int .u8 2:Value)=u8 2#8:=rfl;have q3:(.int .u8 3:Value)=u8 3#8:=rfl;have q4:(.int .u8 4:Value)=u8 4#8:=rfl;have k5:(.int .u16 5:Value)=u16 5#16:=rfl;have p1:=ok.2 p.to;have p0:=ok.1;have lo:aE 7 (ptr H.next 0) (H.new (.cells p.cells none))=some p.v:=by rw[aL,b1,dF _ _ 7 rfl];rfl
 have lo3:aE 4 (ptr H.next 3) (H.new (.cells p.cells none))=some p.insn.v:=by rw[aL,b1];rfl
 simp only[F.f49,aX,AM.aT,aR,List.toList_toArray,b1,c0,q1,eB,aB];generalize H.new (.cells p.cells none)=H1 at *;generalize H.next=t at *;unfold MkD.part at hB hQ
 by_cases o1:p.kind=1#8
 ·have hd:decide (p.kind=1#8)=true:=decide_eq_true o1
  simp only[if_pos o1]at hB hQ;obtain⟨ov,hbx,hlv⟩:=g.cells;have hlk:=g.look p.to;simp only[hd,hbx,b1,c1,hlk,aB];cases hs:(bC p.to s.places).isSome with
  | true =>
   rw[hs]at hB hQ;simp only[aB];exact hB 206 _ rfl (by decide) g.ext
  | false =>
   rw[hs]at hB hQ;obtain⟨H2,m1,g2⟩:=g.setPlace p.to s.out.length;simp only[hbx,b1,c1,hlv,m1,aB];exact hQ _ _ rfl g2.dropLast
 have hd1:decide (p.kind=1#8)=false:=decide_eq_false o1;simp only[if_neg o1]at hB hQ;simp only[hd1,q2,eB,aB]
 by_cases o2:p.kind=2#8
 ·have hd:decide (p.kind=2#8)=true:=decide_eq_true o2
  simp only[if_pos o2]at hB hQ;simp only[hd,b1,c3,aB];refine S.f13 hE _ ?_;simp only[k5,cC,aB]
  by_cases hc:bR p.insn.code=5#16
  ·have hd:decide (bR p.insn.code=5#16)=true:=decide_eq_true hc
   simp only[if_pos hc]at hB;simp only[hd,aB];exact hB 210 _ rfl (by decide) g.ext
  ·have hd:decide (bR p.insn.code=5#16)=false:=decide_eq_false hc
   simp only[if_neg hc]at hQ;obtain⟨ov,hbx,hlv⟩:=g.cells;have hbS:bV 1 4 #[(.int .u16 0),(.int .u8 0),(.int .u8 0),(.int .u32 0)] [(0,p.insn.v)]=some (.cells p.insn.cells none,fI 1 1):=cV 4 [u16 0#16,u8 0#8,u8 0#8,u32 0#32] p.insn.cells rfl rfl;obtain⟨v',H2,a1,H3,a2,g2⟩:=g.push (by omega) p.insn hbx
   simp only[hd,hbx,lo3,hbS,AM.aT,cT,a1,a2,aB];exact hQ _ _ rfl g2.dropLast
 have hd2:decide (p.kind=2#8)=false:=decide_eq_false o2;simp only[if_neg o2]at hB hQ;simp only[hd2,q4,eB,aB]
 by_cases o4:p.kind=4#8
 ·have hd:decide (p.kind=4#8)=true:=decide_eq_true o4
  simp only[if_pos o4]at hB hQ;simp only[hd,b1,c1,aB];refine S.f46 hE g (by omega) p.to (by omega) ?_
  cases hs:(bC p.to s.places).isSome with
  | false =>
   rw[hs]at hB hQ;simp only[aB];exact hB 207 _ rfl (by decide) g.ext
  | true =>
   rw[hs]at hB hQ;simp only[aB];refine S.f48 hE g (by omega) _ λH2 g2 =>?_
   exact hQ _ _ rfl g2.dropLast
 have hd4:decide (p.kind=4#8)=false:=decide_eq_false o4;simp only[if_neg o4]at hB hQ;simp only[hd4,q3,eB,aB]
 by_cases o3:p.kind=3#8
 ·have hd:decide (p.kind=3#8)=true:=decide_eq_true o3
  simp only[if_pos o3]at hB hQ;simp only[hd,lo,aB];refine S.f47 hE g ok p (λe H' h1 he e1 =>?_) (λe H' h1 h2 he e1 =>?_) λH' h1 h2 g2 =>?_
  ·subst he
   exact hB 210 _ (if_pos h1) (by decide) e1
  ·subst he
   exact hB 207 _ (by rw[if_neg h1,if_pos h2]) (by decide) e1
  ·exact hQ _ _ (by rw[if_neg h1,if_neg h2]) g2.dropLast
 have hd3:decide (p.kind=3#8)=false:=decide_eq_false o3;simp only[if_neg o3]at hB;simp only[hd3,aB];exact hB 210 _ rfl (by decide) g.ext
end
end
section
set_option maxRecDepth 20000
theorem eS{K V:Type}[DecidableEq K](k n:K)(v:V):∀ l:List (K×V),bC n (fB k v l)=if n=k then some v else bC n l
 | []=>by simp only[fB,eC]
 | p :: l=>by
  simp only[fB]
  by_cases h:p.1=k
  ·rw[if_pos h,eC,eC]
   by_cases hn:n=k
   ·rw[if_pos hn,if_pos hn]
   ·rw[if_neg hn,if_neg hn,if_neg (by rw[h];exact hn)]
  ·rw[if_neg h,eC,eC,eS k n v l]
   by_cases hn:n=p.1
   ·rw[if_pos hn,if_neg (by rw[hn];exact h),if_pos hn]
   ·rw[if_neg hn,if_neg hn]
def MkD.okP(s:MkD):Prop:=∀ n k,bC n s.places=some k->k<=s.out.length
theorem MkD.okP.getD{s:MkD}(h:s.okP)(n:Int):(bC n s.places).getD 0<=s.out.length:=by
 cases hk:bC n s.places with
 | none=>exact Nat.zero_le _
 | some k=>exact h n k hk
theorem MkD.okP.push{s:MkD}(h:s.okP)(x:bL):MkD.okP ⟨x :: s.out,s.places⟩:=λn k hk=>Nat.le_succ_of_le (h n k hk)
theorem aFR(s:MkD)(x:bL)(a b:Int):(s.cmp0 x a b).places=s.places:=by
 unfold MkD.cmp0 MkD.cmp1 MkD.cmp2
 split<;>split<;>rfl
theorem aLW(s:MkD)(x:bL)(a b:Int):s.out.length<(s.cmp0 x a b).out.length/\(s.cmp0 x a b).out.length<=s.out.length+3:=by
 unfold MkD.cmp0 MkD.cmp1 MkD.cmp2 MkD.hop
 split<;>split<;>simp<;>omega
theorem aHT{s t:MkD}{p:aG}(h:s.okP)(e:s.part p = .inr t):t.okP/\s.out.length<=t.out.length/\t.out.length<=s.out.length+3:=by
 unfold MkD.part at e
 split at e
 ·split at e
  ·cases e
  ·cases e
   refine⟨λn k hk =>?_,Nat.le_refl _,Nat.le_add_right _ _⟩;simp only[eS]at hk
   split at hk
   ·cases hk;exact Nat.le_refl _
   ·exact h n k hk
 ·split at e
  ·split at e
   ·cases e
   ·cases e
    exact⟨h.push _,by simp,by simp⟩
  ·split at e
   ·split at e
    ·cases e
     exact⟨h.push _,by simp[MkD.hop],by simp[MkD.hop]⟩
    ·cases e
   ·split at e
    ·split at e
     ·cases e
     ·split at e
      ·cases e
      ·cases e
       have h2:=aLW s p.insn (s.away p.to) (s.away p.els);refine⟨λn k hk =>?_,by omega,h2.2⟩
       rw[aFR]at hk;exact Nat.le_trans (h n k hk) (by omega)
    ·cases e
theorem tK:∀ {l:List aG} {s:MkD},eG l = .inr s->s.okP/\s.out.length<=4096
 | [],s,e=>by
  cases e;exact⟨λn k hk=>by simp[bC]at hk,Nat.zero_le _⟩
 | p :: l,s,e=>by
  unfold eG at e
  split at e
  ·cases e
  ·rename_i s1 h1
   have ih:=tK h1
   split at e
   ·cases e
   ·rename_i t h2
    split at e
    ·cases e
    ·cases e
     exact⟨(aHT ih.1 h2).1,by omega⟩
theorem aC2{e:Int}{b:List aG}(h:eG b = .inl e):∀ a:List aG,eG (a++b) = .inl e
 | []=>h
 | p :: a=>by
  show eG (p :: (a++b))=_
  unfold eG;rw[aC2 h a]
theorem aDk{e:Int}{l:List aG}(k:Nat)(h:eG (l.drop k) = .inl e):eG l = .inl e:=by
 have:=aC2 h (l.take k)
 rwa [List.take_append_drop]at this
section
variable {E:Sy}{H H' H0 Z:AH}{Q:Value->AH->Prop}{X:List Res}{mb pm:Nat}{s:MkD}
theorem Has.newroomc{L:List Res}(h:Has H0 Z H L)(sz n:Nat)(c:List Value)(hc:c.length=n*sz):Has H0 Z (H.new (.cells c none)) (L++[bB sz (slc H.next 0 0 n) []]) :=
 h.add _ ((Ext.refl H).new _) (dL.room (nQ _) (AH.get_new_self _ _) hc) (by simp[bB,mA,blk]) (by simp[bB,mA,blk])
theorem aNd(hE:aW E){ov rv:Value}(h:Has H0 Z H (mkL mb pm ov s++[bB 4 rv []]))(hl:s.out.length<=4096)(hQ:∀ v H',Ext H0 H'->Rows H' 4 v (cJ s.out)->Q (.tuple #[v,vi 0]) H'):
  lp3 (F.f42_l2 E Q) [ptr mb 0,rv,vi ((s.out.length:Int) - 1)] H:=by
 refine aY.count s.out.length (λk ls H'=>∃ rv,ls=[ptr mb 0,rv,vi ((s.out.length:Int) - 1 - k)]/\Has H0 Z H' (mkL mb pm ov s++[bB 4 rv (cJ (s.out.take k))])) ?_ ⟨rv,by simp,by simpa[cJ] using h⟩
 rintro k _ H1 X1 hk ih ⟨rv,rfl,g⟩;have i0:(.int .i64 0:Value)=vi 0:=rfl;have i1:(.int .i64 1:Value)=vi 1:=rfl;rcases Nat.lt_or_ge k s.out.length with hlt | hge
 ·have hbx:=g.box (k:=0) (b:=mb) (c:=[ov,.map (some pm)]) rfl
  have hrw:=g.rows (k:=1) (sz:=4) (v:=ov) (rows:=cJ s.out.reverse) rfl;have he:(s.out.length:Int) - 1 - k=((s.out.length - 1 - k:Nat):Int):=by omega
  have hd:decide ((0:Int)<=(s.out.length:Int) - 1 - k)=true:=decide_eq_true (by omega)
  have hs:aA .sub (vi ((s.out.length:Int) - 1 - k)) (vi 1)=some (vi ((s.out.length:Int) - 1 - (k+1:Nat))):=by
   rw[gY (by omega) (by omega)];congr 2;omega
  have hjl:s.out.length - 1 - k<(cJ s.out.reverse).length:=by simp only[cJ,List.length_map,List.length_reverse];omega
  obtain⟨bb,o,f1,f2⟩:=hrw.ix (i:=s.out.length - 1 - k) hjl
  have hrow:(cJ s.out.reverse)[s.out.length - 1 - k]=s.out[k].cells:=by
   simp only[cJ,List.getElem_map,List.getElem_reverse]
   congr 2
   omega
  rw[hrow]at f2;have lo:aE 4 (ptr bb o) H1=some s.out[k].v:=by rw[aL,f2];rfl
  rw[<- he]at f1;have hbS:bV 1 4 #[(.int .u16 0),(.int .u8 0),(.int .u8 0),(.int .u32 0)] [(0,s.out[k].v)]=some (.cells s.out[k].cells none,fI 1 1):=cV 4 [u16 0#16,u8 0#8,u8 0#8,u32 0#32] s.out[k].cells rfl rfl;obtain⟨v',H2,a1,a2,g2⟩:=g.app1 (k:=3) (sz:=4) (v:=rv) (rows:=cJ (s.out.take k)) (bytes:=8) rfl s.out[k].cells rfl rfl (by decide) (by decide) (by simp only[cJ,List.length_map,List.length_take];omega)
  have hst:s.out.take (k+1)=s.out.take k++[s.out[k]]:=by rw[List.take_succ,List.getElem?_eq_getElem hlt];rfl
  simp only[F.f42_l2,i0,i1,dV,hd,hbx,f1,lo,hbS,AM.aT,cT,a1,hs,aB];refine ih hlt _ _ ⟨v',rfl,?_⟩;rw[hst];have:cJ (s.out.take k++[s.out[k]])=cJ (s.out.take k)++[s.out[k].cells]:=by unfold cJ;rw[List.map_append];rfl
  rw[this];exact g2
 ·have hke:k=s.out.length:=by omega
  subst hke;have hd:decide ((0:Int)<=(s.out.length:Int) - 1 - (s.out.length:Nat))=false:=decide_eq_false (by omega)
  rw[List.take_length]at g;simp only[F.f42_l2,i0,dV,hd,aB];exact hQ _ _ g.ext (g.rows (k:=3) (sz:=4) (v:=rv) (rows:=cJ s.out) rfl)
theorem S.f42(hE:aW E){v:Value}{l:List aG}(hv:Rows H 7 v (bH l))(hl:l.length<2 ^ 26)(hQ:∀ H',Ext H H'->(∀ e,eG l = .inl e->e≠0->Q (.tuple #[cB,vi e]) H')/\(∀ s w,eG l = .inr s->Rows H' 4 w (cJ s.out)->Q (.tuple #[w,vi 0]) H')):E.call 31 [v] H Q:=by
 apply hE.f42;have hmw:∀ (H:AH) (K:Value->AH->Prop),mY H K=K (.map (some H.next)) (H.new (.map [] 0 true)):=λ_ _=>rfl;have hlv:=hv.lenSlc;have hpl:(bH l).length=l.length:=by simp[bH]
 rw[hpl]at hlv;have i0:(.int .i64 0:Value)=vi 0:=rfl;have i1:(.int .i64 1:Value)=vi 1:=rfl;have hbv:∀ n:Nat,aK [(0,1),(1,1)] #[(.slice none 0 0),(.map none)] [(1,.map (some n))]=some (.agg [cB,.map (some n)].toArray):=λ_=>rfl;have hs:aA .sub (vi (l.length:Int)) (vi 1)=some (vi ((l.length:Int) - 1)):=gY (by omega) (by omega)
 simp only[F.f42,hmw,hbv,aX,AM.aT,aR,List.toList_toArray,hlv,i1,hs,aB];have g1:=(Has.begin (Ext.refl H) (Sub.refl H)).newmap vi jI;have hn2:H.next+1=(H.new (.map [] 0 true)).next:=rfl;rw[hn2];generalize H.new (.map [] 0 true)=H2 at *;generalize H.next=pm at *;clear hn2;have g2:=(g1.newbox [cB,.map (some pm)]).nils 4;generalize H2.new (.cells [cB,.map (some pm)] none)=H3 at *;generalize H2.next=mb at *;have g3:Mk H H H3 mb pm ⟨[],[]⟩ []:=⟨cB,g2.perm ((List.Perm.swap _ _ _).trans ((List.Perm.swap _ _ _).cons _))⟩;refine aY.ind (λn ls H'=>∃ s,n<=l.length/\ls=[v,ptr mb 0,vi ((n:Int) - 1)]/\eG (l.drop n) = .inr s/\Mk H H H' mb pm s []) ?_ l.length ⟨⟨[],[]⟩,Nat.le_refl _,rfl,by rw[List.drop_length];rfl,g3⟩
 rintro n _ H4 X1 ih ⟨s,hn,rfl,hm,g⟩;have hok:=tK hm;have hmk:s.okM:=⟨by omega,hok.1.getD⟩
 have i4096:(.int .i64 4096:Value)=vi 4096:=rfl;rcases Nat.eq_zero_or_pos n with h0 | h0
 ·subst h0
  rw[List.drop_zero]at hm;have hd:decide ((0:Int)<=((0:Nat):Int) - 1)=false:=rfl;obtain⟨ov,g⟩:=g;have hbx:=g.box (k:=0) (b:=mb) (c:=[ov,.map (some pm)]) rfl;have hlo:=(g.rows (k:=1) (sz:=4) (v:=ov) (rows:=cJ s.out.reverse) rfl).lenSlc;simp only[cJ,List.length_map,List.length_reverse]at hlo;have hms:=aG7 4 8 s.out.length [(.int .u16 0),(.int .u8 0),(.int .u8 0),(.int .u32 0)] rfl (by omega) (by omega)
  have hms:tB 4 8 #[(.int .u16 0),(.int .u8 0),(.int .u8 0),(.int .u32 0)] (vi 0) (vi s.out.length)=some (.cells (List.replicate s.out.length [(.int .u16 0),(.int .u8 0),(.int .u8 0),(.int .u32 0)]).flatten none,λb=>slc b 0 0 s.out.length):=hms;have g5:=g.newroomc 4 s.out.length (List.replicate s.out.length [(.int .u16 0),(.int .u8 0),(.int .u8 0),(.int .u32 0)]).flatten (by simp[List.length_flatten,List.map_replicate,List.sum_replicate_nat])
  have hb5:=g5.box (k:=0) (b:=mb) (c:=[ov,.map (some pm)]) rfl;have hs2:aA .sub (vi (s.out.length:Int)) (vi 1)=some (vi ((s.out.length:Int) - 1)):=gY (by omega) (by omega)
  simp only[F.f42_l1,i0,dV,hd,i1,hbx,hlo,hms,AM.aT,hb5,hs2,aB];exact aNd hE g5 hok.2 λw H' e' r'=>(hQ H' e').2 s w hm r'
 ·have hd:decide ((0:Int)<=(n:Int) - 1)=true:=decide_eq_true (by omega)
  have hj:n - 1<l.length:=by omega
  have he:(n:Int) - 1=((n - 1:Nat):Int):=by omega
  have hv4:=hv.mono g.ext;obtain⟨bb,o,f1,f2⟩:=hv4.ix (i:=n - 1) (by omega)
  have hrow:(bH l)[n - 1]'(by omega)=l[n - 1].cells:=by simp[bH]
  rw[hrow]at f2;have lo:aE 7 (ptr bb o) H4=some l[n - 1].v:=by rw[aL,f2];rfl
  rw[<- he]at f1
  have hdr:l.drop (n - 1)=l[n - 1] :: l.drop n:=by
   rw[List.drop_eq_getElem_cons hj,show n - 1+1=n by omega]
  have hs1:aA .sub (vi ((n:Int) - 1)) (vi 1)=some (vi (((n - 1:Nat):Int) - 1)):=by
   rw[gY (by omega) (by omega)];congr 2;omega
  generalize l[n - 1]=p at *;simp only[F.f42_l1,i0,dV,hd,f1,lo,aB];refine S.f49 hE g hmk p (λe H5 h1 h2 e5 =>?_) λt H5 h1 g5 =>?_
  ·have hd:decide (e≠0)=true:=decide_eq_true h2
   simp only[i0,fJ,hd,aB];refine(hQ H5 e5).1 e (aDk (n - 1) ?_) h2;rw[hdr];unfold eG;simp only[hm,h1]
  ·have hd:decide ((0:Int)≠0)=false:=rfl
   obtain⟨ov,hbx,hlo⟩:=g5.cells;simp only[i0,fJ,hd,hbx,hlo,i4096,cN,aB]
   by_cases hbig:4096<t.out.length
   ·have hd:decide ((4096:Int)<t.out.length)=true:=decide_eq_true (by omega)
    simp only[hd,aB];refine(hQ H5 g5.ext).1 205 (aDk (n - 1) ?_) (by decide)
    rw[hdr];unfold eG;simp only[hm,h1,if_pos hbig]
   ·have hd:decide ((4096:Int)<t.out.length)=false:=decide_eq_false (by omega)
    simp only[hd,i1,hs1,aB];refine ih (n - 1) (by omega) _ _ ⟨t,by omega,rfl,?_,g5⟩
    rw[hdr];unfold eG;simp only[hm,h1,if_neg hbig]
end
end
section
set_option maxRecDepth 20000
def okI(x:bL)(left:Nat):Prop :=
 (x.code=32#16/\x.k.toNat % 4=0/\x.k.toNat<=60)\/x.code=84#16\/(x.code=5#16/\x.k.toNat<left) \/
 (x.code=21#16/\x.jt.toNat<left/\x.jf.toNat<left)\/(x.code=37#16/\x.jt.toNat<left/\x.jf.toNat<left)\/(x.code=53#16/\x.jt.toNat<left/\x.jf.toNat<left)\/x.code=6#16
def cH(r:aU)(x:bL)(a:BitVec 32):BitVec 32×Nat×Option (BitVec 32) :=
 if x.code=32#16 then((kP r x.k).1,0,none)
 else if x.code=84#16 then(a&&&x.k,0,none)
 else if x.code=5#16 then(a,x.k.toNat,none)
 else if x.code=21#16 then(a,if a=x.k then x.jt.toNat else x.jf.toNat,none)
 else if x.code=37#16 then(a,if x.k.toNat<a.toNat then x.jt.toNat else x.jf.toNat,none)
 else if x.code=53#16 then(a,if x.k.toNat<=a.toNat then x.jt.toNat else x.jf.toNat,none)
 else(a,0,some x.k)
def gM(r:aU):Nat->List bL->BitVec 32->BitVec 32
 | 0,_,_=>2147483648#32
 | _+1,[],_=>2147483648#32
 | f+1,x :: c,a=>match (cH r x a).2.2 with
  | some o=>o
  | none=>gM r f (c.drop (cH r x a).2.1) (cH r x a).1
def mC(a:BitVec 32)(at_:Nat)(act:BitVec 32)(e:Bool)(rc:List Value):List Value :=
 u32 a :: u32 0#32 :: u32 0#32 :: u32 0#32 :: u32 0#32 :: u32 0#32 :: u32 0#32 :: u32 0#32 :: u32 0#32 :: u32 0#32 :: u32 0#32 :: u32 0#32 :: u32 0#32 :: u32 0#32 :: u32 0#32 :: u32 0#32 :: u32 0#32 :: u32 0#32 :: vi at_ :: (rc++[u32 act,vb e])
theorem aD2{rc:List Value}(h:rc.length=9):∃ c0 c1 c2 c3 c4 c5 c6 c7 c8,rc=[c0,c1,c2,c3,c4,c5,c6,c7,c8]:=by
 match rc,h with
 | [c0,c1,c2,c3,c4,c5,c6,c7,c8],_=>exact⟨c0,c1,c2,c3,c4,c5,c6,c7,c8,rfl⟩
theorem gN{r:aU}(h:r.ok):r.cells.length=9:=by
 unfold aU.ok at h;simp[aU.cells,h]
section
variable {E:Sy}{H H' H0 Z:AH}{Q:Value->AH->Prop}{X:List Res}{mb:Nat}
theorem S.f136(hE:aW E)(p:Value)(x:bL)(hx:x.code&&&8#16=0#16)(hQ:∀ H',Ext H H'->Q (u32 x.k) H'):E.call 85 [p,x.v] H Q:=by
 apply hE.f136;have b1:=AH.get_new_self H (.cells x.cells none);have c0:x.cells[0]? = some (u16 x.code):=rfl;have c3:x.cells[3]? = some (u32 x.k):=rfl;have k8:(.int .u16 8:Value)=u16 8#16:=rfl;have k0:(.int .u16 0:Value)=u16 0#16:=rfl;have hd:decide (x.code&&&8#16≠0#16)=false:=decide_eq_false (by simpa using hx)
 simp only[F.f136,aX,AM.aT,aR,List.toList_toArray,b1,c0,c3,k8,k0,aHF,yN,hd,aB];exact hQ _ ((Ext.refl H).new _)
theorem S.f135(hE:aW E){r:aU}(hr:r.ok){a act:BitVec 32}{at_:Nat}(hb:H.get mb = .cells (mC a at_ act false r.cells) none)(x:bL)(hx:x.code=32#16)(hQ:∀ H',Ext H H'->Q (u32 (kP r x.k).1) H'):E.call 48 [ptr mb 0,x.v] H Q:=by
 apply hE.f135;have b1:=AH.get_new_self H (.cells x.cells none);have x1:Ext H (H.new (.cells x.cells none)):=(Ext.refl _).new _;have bm:=x1.cells hb;have c0:x.cells[0]? = some (u16 32#16):=by rw[<- hx];rfl
 have c3:x.cells[3]? = some (u32 x.k):=rfl;have k7:(.int .u16 7:Value)=u16 7#16:=rfl;have k32:(.int .u16 32:Value)=u16 32#16:=rfl;have hd:decide (32#16 &&& ~~~7#16=32#16)=true:=by decide
 have lo:aE 9 (ptr mb 19) (H.new (.cells x.cells none))=some r.v:=by
  rw[aL,bm];obtain⟨c0,c1,c2,c3,c4,c5,c6,c7,c8,hc⟩:=aD2 (gN hr);unfold aU.v;rw[hc];rfl
 simp only[F.f135,aX,AM.aT,aR,List.toList_toArray,b1,c0,c3,k7,k32,iS,cC,hd,lo,aB];refine S.f92 hE r hr x.k λH2 e2 =>?_;simp only[aB];exact hQ _ (x1.trans e2)
end
end
section
set_option maxRecDepth 20000
section
variable {E:Sy}{H H' H0 Z:AH}{Q:Value->AH->Prop}{X:List Res}{mb:Nat}
theorem aHr(a:BitVec 32)(at_:Nat)(act:BitVec 32)(e:Bool)(rc:List Value)(n:Nat):(mC a at_ act e rc).set 18 (vi n)=mC a n act e rc:=rfl
theorem aPe(a b:BitVec 32)(at_:Nat)(act:BitVec 32)(e:Bool)(rc:List Value):(mC a at_ act e rc).set 0 (u32 b)=mC b at_ act e rc:=rfl
theorem kZ{a:BitVec 32}{at_:Nat}{act:BitVec 32}{e:Bool}{rc:List Value}(h:rc.length=9):(mC a at_ act e rc)[0]? = some (u32 a)/\(mC a at_ act e rc)[18]? = some (vi at_)/\(mC a at_ act e rc)[28]? = some (u32 act)/\(mC a at_ act e rc)[29]? = some (vb e) /\
  (mC a at_ act e rc).set 29 (vb true)=mC a at_ act true rc/\(∀ b,(mC a at_ act e rc).set 28 (u32 b)=mC a at_ b e rc)/\(mC a at_ act e rc).length=30:=by
 obtain⟨c0,c1,c2,c3,c4,c5,c6,c7,c8,rfl⟩:=aD2 h;exact⟨rfl,rfl,rfl,rfl,rfl,λ_=>rfl,rfl⟩
abbrev mR(mb:Nat)(a:BitVec 32)(at_:Nat)(act:BitVec 32)(e:Bool)(r:aU):Res:=bJ mb (mC a at_ act e r.cells)
theorem Has.mset{a act:BitVec 32}{at_:Nat}{e:Bool}{r:aU}(hr:r.ok)(h:Has H0 Z H (mR mb a at_ act e r :: X)){k:Nat}{v:Value}(hv:plain1 v=true){a' act':BitVec 32}{at':Nat}{e':Bool}(hk:k<30)(hs:(mC a at_ act e r.cells).set k v=mC a' at' act' e' r.cells):
  ∃ H',aZ (ptr mb k) v H=some H'/\Has H0 Z H' (mR mb a' at' act' e' r :: X):=by
 have hb:=h.box (k:=0) (b:=mb) (c:=mC a at_ act e r.cells) rfl;have g:=h.put (k:=0) (b:=mb) (c:=mC a at_ act e r.cells) rfl (mC a' at' act' e' r.cells);refine⟨_,?_,g⟩;rw[eX,if_pos hv,hb];have hl:=(kZ (a:=a) (at_:=at_) (act:=act) (e:=e) (gN hr)).2.2.2.2.2.2;simp only[hl,hk,if_true,hs]
theorem S.f137(hE:aW E){r:aU}(hr:r.ok){a act:BitVec 32}{at_:Nat}(h:Has H0 Z H (mR mb a at_ act false r :: X))(x:bL)(hx:x.code=84#16)(hQ:∀ H',Has H0 Z H' (mR mb (a&&&x.k) at_ act false r :: X)->Q (.tuple #[]) H'):E.call 49 [ptr mb 0,x.v] H Q:=by
 apply hE.f137;have b1:=AH.get_new_self H (.cells x.cells none);have c0:x.cells[0]? = some (u16 84#16):=by rw[<- hx];rfl
 have lo:aE 4 (ptr H.next 0) (H.new (.cells x.cells none))=some x.v:=by rw[aL,b1,dF _ _ 4 rfl];rfl
 have k15:(.int .u16 15:Value)=u16 15#16:=rfl;have k0:(.int .u16 0:Value)=u16 0#16:=rfl;have k16:(.int .u16 16:Value)=u16 16#16:=rfl;have k32:(.int .u16 32:Value)=u16 32#16:=rfl;have k48:(.int .u16 48:Value)=u16 48#16:=rfl;have k64:(.int .u16 64:Value)=u16 64#16:=rfl;have k80:(.int .u16 80:Value)=u16 80#16:=rfl;have d0:decide (84#16 &&& ~~~15#16=0#16)=false:=by decide
 have d16:decide (84#16 &&& ~~~15#16=16#16)=false:=by decide
 have d32:decide (84#16 &&& ~~~15#16=32#16)=false:=by decide
 have d48:decide (84#16 &&& ~~~15#16=48#16)=false:=by decide
 have d64:decide (84#16 &&& ~~~15#16=64#16)=false:=by decide
 have d80:decide (84#16 &&& ~~~15#16=80#16)=true:=by decide
 have g:=h.new (.cells x.cells none);simp only[F.f137,aX,AM.aT,aR,List.toList_toArray,lo,aB];generalize H.new (.cells x.cells none)=H1 at *;generalize H.next=t at *;refine S.f136 hE _ x (by rw[hx];decide) λH2 e2 =>?_
 have b2:=e2.cells b1;have g2:=g.grow e2;have bm:=g2.box (k:=0) (b:=mb) (c:=mC a at_ act false r.cells) rfl;have hc:=kZ (a:=a) (at_:=at_) (act:=act) (e:=false) (gN hr);have cm:=hc.1;obtain⟨H3,s3,g3⟩:=g2.mset hr (k:=0) (v:=u32 (a&&&x.k)) rfl (by decide) (aPe a (a&&&x.k) at_ act false r.cells)
 simp only[b2,c0,k15,iS,k0,k16,k32,k48,k64,k80,cC,d0,d16,d32,d48,d64,d80,bm,cm,aHM,s3,aB];exact hQ _ g3
theorem aEi(hE:aW E){r:aU}(hr:r.ok){a act:BitVec 32}{at_ t:Nat}(hat:at_<2 ^ 40){x:bL}(h:Has H0 Z H (mR mb a at_ act false r :: X))(hb:H.get t = .cells x.cells none)(b:Bool)(hQ:∀ H',Has H0 Z H' (mR mb a (at_+if b=true then x.jt.toNat else x.jf.toNat) act false r :: X)->Q (.tuple #[]) H'):F.f134_j1 E Q (ptr mb 0) (ptr t 0) (vb b) H:=by
 have bm:=h.box (k:=0) (b:=mb) (c:=mC a at_ act false r.cells) rfl;have hc:=kZ (a:=a) (at_:=at_) (act:=act) (e:=false) (gN hr);have cm:=hc.2.1;have c1:x.cells[1]? = some (u8 x.jt):=rfl;have c2:x.cells[2]? = some (u8 x.jf):=rfl;have l1:=x.jt.isLt;have l2:=x.jf.isLt;cases b with
 | true =>
  have ha:aA .add (vi at_) (vi x.jt.toNat)=some (vi ((at_+x.jt.toNat:Nat):Int)):=by rw[eL (by omega) (by omega)];congr 2
  obtain⟨H3,s3,g3⟩:=h.mset hr (k:=18) (v:=vi ((at_+x.jt.toNat:Nat):Int)) rfl (by decide) (aHr a at_ act false r.cells _)
  simp only[F.f134_j1,bm,cm,hb,c1,pN,ha,s3,aB];exact hQ _ g3
 | false =>
  have ha:aA .add (vi at_) (vi x.jf.toNat)=some (vi ((at_+x.jf.toNat:Nat):Int)):=by rw[eL (by omega) (by omega)];congr 2
  obtain⟨H3,s3,g3⟩:=h.mset hr (k:=18) (v:=vi ((at_+x.jf.toNat:Nat):Int)) rfl (by decide) (aHr a at_ act false r.cells _)
  simp only[F.f134_j1,bm,cm,hb,c2,pN,ha,s3,aB];exact hQ _ g3
theorem S.f134(hE:aW E){r:aU}(hr:r.ok){a act:BitVec 32}{at_:Nat}(hat:at_<2 ^ 40)(h:Has H0 Z H (mR mb a at_ act false r :: X))(x:bL)(hx:x.code=5#16\/x.code=21#16\/x.code=37#16\/x.code=53#16)(hQ:∀ H',Has H0 Z H' (mR mb a (at_+(cH r x a).2.1) act false r :: X)->Q (.tuple #[]) H'):E.call 50 [ptr mb 0,x.v] H Q:=by
 apply hE.f134;have b1:=AH.get_new_self H (.cells x.cells none);have c0:x.cells[0]? = some (u16 x.code):=rfl;have c3:x.cells[3]? = some (u32 x.k):=rfl;have lo:aE 4 (ptr H.next 0) (H.new (.cells x.cells none))=some x.v:=by rw[aL,b1,dF _ _ 4 rfl];rfl
 have k15:(.int .u16 15:Value)=u16 15#16:=rfl;have k0:(.int .u16 0:Value)=u16 0#16:=rfl;have k16:(.int .u16 16:Value)=u16 16#16:=rfl;have k32:(.int .u16 32:Value)=u16 32#16:=rfl;have k48:(.int .u16 48:Value)=u16 48#16:=rfl;have g:=h.new (.cells x.cells none);have l3:=x.k.isLt;simp only[F.f134,aX,AM.aT,aR,List.toList_toArray,lo,aB];generalize H.new (.cells x.cells none)=H1 at *;generalize H.next=t at *;refine S.f136 hE _ x (by rcases hx with h | h | h | h<;>rw[h]<;>decide) λH2 e2 =>?_
 have b2:=e2.cells b1;have g2:=g.grow e2;have bm:=g2.box (k:=0) (b:=mb) (c:=mC a at_ act false r.cells) rfl;have hc:=kZ (a:=a) (at_:=at_) (act:=act) (e:=false) (gN hr);have cm:=hc.1;have cm2:=hc.2.1;rcases hx with hx | hx | hx | hx
 ·have hs:(cH r x a).2.1=x.k.toNat:=by unfold cH;rw[if_neg (by rw[hx];decide),if_neg (by rw[hx];decide),if_pos hx]
  rw[hs]at hQ;have d0:decide (5#16 &&& ~~~15#16=0#16)=true:=by decide
  have ha:aA .add (vi at_) (vi x.k.toNat)=some (vi ((at_+x.k.toNat:Nat):Int)):=by rw[eL (by omega) (by omega)];congr 2
  obtain⟨H3,s3,g3⟩:=g2.mset hr (k:=18) (v:=vi ((at_+x.k.toNat:Nat):Int)) rfl (by decide) (aHr a at_ act false r.cells _)
  simp only[b2,c0,hx,k15,iS,k0,cC,d0,bm,cm2,c3,aBb,ha,s3,aB];exact hQ _ g3
 ·have hs:(cH r x a).2.1=if decide (a=x.k)=true then x.jt.toNat else x.jf.toNat:=by unfold cH;rw[if_neg (by rw[hx];decide),if_neg (by rw[hx];decide),if_neg (by rw[hx];decide),if_pos hx];simp only[decide_eq_true_eq]
  rw[hs]at hQ;have d0:decide (21#16 &&& ~~~15#16=0#16)=false:=by decide
  have d16:decide (21#16 &&& ~~~15#16=16#16)=true:=by decide
  simp only[b2,c0,hx,k15,iS,k0,k16,cC,d0,d16,bm,cm,oS,aB];exact aEi hE hr hat g2 b2 _ hQ
 ·have hs:(cH r x a).2.1=if decide (x.k.toNat<a.toNat)=true then x.jt.toNat else x.jf.toNat:=by unfold cH;rw[if_neg (by rw[hx];decide),if_neg (by rw[hx];decide),if_neg (by rw[hx];decide),if_neg (by rw[hx];decide),if_pos hx];simp only[decide_eq_true_eq]
  rw[hs]at hQ;have d0:decide (37#16 &&& ~~~15#16=0#16)=false:=by decide
  have d16:decide (37#16 &&& ~~~15#16=16#16)=false:=by decide
  have d32:decide (37#16 &&& ~~~15#16=32#16)=true:=by decide
  simp only[b2,c0,hx,k15,iS,k0,k16,k32,cC,d0,d16,d32,bm,cm,aEg,aB];exact aEi hE hr hat g2 b2 _ hQ
 ·have hs:(cH r x a).2.1=if decide (x.k.toNat<=a.toNat)=true then x.jt.toNat else x.jf.toNat:=by unfold cH;rw[if_neg (by rw[hx];decide),if_neg (by rw[hx];decide),if_neg (by rw[hx];decide),if_neg (by rw[hx];decide),if_neg (by rw[hx];decide),if_pos hx];simp only[decide_eq_true_eq]
  rw[hs]at hQ;have d0:decide (53#16 &&& ~~~15#16=0#16)=false:=by decide
  have d16:decide (53#16 &&& ~~~15#16=16#16)=false:=by decide
  have d32:decide (53#16 &&& ~~~15#16=32#16)=false:=by decide
  have d48:decide (53#16 &&& ~~~15#16=48#16)=true:=by decide
  simp only[b2,c0,hx,k15,iS,k0,k16,k32,k48,cC,d0,d16,d32,d48,bm,cm,aHN,aB];exact aEi hE hr hat g2 b2 _ hQ
end
end
section
set_option maxRecDepth 20000
section
variable {E:Sy}{H H' H0 Z:AH}{Q:Value->AH->Prop}{X:List Res}{mb:Nat}
theorem Has.lastBox{L:List Res}{t:Nat}{c:List Value}(h:Has H0 Z H (L++[bJ t c])):H.get t = .cells c none:=(h.all (bJ t c) (by simp)).1
theorem uL{x:bL}{t:Nat}(hb:H.get t = .cells x.cells none):aE 4 (ptr t 0) H=some x.v:=by rw[aL,hb,dF _ _ 4 rfl];rfl
theorem S.f138(hE:aW E){r:aU}(hr:r.ok){a act:BitVec 32}{at_:Nat}(hat:at_<2 ^ 39)(h:Has H0 Z H (mR mb a at_ act false r :: X))(x:bL){left:Nat}(hx:okI x left)(hQ:∀ H',Has H0 Z H' (mR mb (cH r x a).1 (at_+1+(cH r x a).2.1) (((cH r x a).2.2).getD act) ((cH r x a).2.2).isSome r :: X)->Q (.tuple #[]) H'):E.call 26 [ptr mb 0,x.v] H Q:=by
 apply hE.f138;have g:=h.newbox x.cells;have bm:=g.box (k:=0) (b:=mb) (c:=mC a at_ act false r.cells) rfl;have hc:=kZ (a:=a) (at_:=at_) (act:=act) (e:=false) (gN hr);have cm2:=hc.2.1;have hinc:=bN (i:=at_) (by omega)
 obtain⟨H2,s2,g2⟩:=Has.mset (X:=X++[bJ H.next x.cells]) hr g (k:=18) (v:=vi ((at_+1:Nat):Int)) rfl (by decide) (aHr a at_ act false r.cells _)
 have b2:=Has.lastBox (L:=mR mb a (at_+1) act false r :: X) g2;have c0:x.cells[0]? = some (u16 x.code):=rfl;have c3:x.cells[3]? = some (u32 x.k):=rfl;have k0:(.int .u16 0:Value)=u16 0#16:=rfl;have k1:(.int .u16 1:Value)=u16 1#16:=rfl;have k2:(.int .u16 2:Value)=u16 2#16:=rfl;have k3:(.int .u16 3:Value)=u16 3#16:=rfl;have k4:(.int .u16 4:Value)=u16 4#16:=rfl;have k5:(.int .u16 5:Value)=u16 5#16:=rfl;have k6:(.int .u16 6:Value)=u16 6#16:=rfl;have k22:(.int .u16 22:Value)=u16 22#16:=rfl;have l2:=uL b2;have g2':Has H0 Z H2 (mR mb a (at_+1) act false r :: (X++[bJ H.next x.cells])):=g2;simp only[F.f138,aX,AM.aT,aR,List.toList_toArray,bm,cm2,hinc,s2,b2,c0,aB];generalize H.next=t at *;refine S.f13 hE _ ?_;have hcc:=kZ (a:=a) (at_:=at_+1) (act:=act) (e:=false) (gN hr);rcases hx with ⟨hx,_,_⟩ | hx | ⟨hx,_⟩ | ⟨hx,_⟩ | ⟨hx,_⟩ | ⟨hx,_⟩ | hx
 ·have hs:cH r x a=((kP r x.k).1,0,none):=by unfold cH;rw[if_pos hx]
  rw[hs]at hQ;have d0:decide (bR x.code=0#16)=true:=by rw[hx];decide
  simp only[k0,cC,d0,l2,aB];have bm2:=g2'.box (k:=0) (b:=mb) (c:=mC a (at_+1) act false r.cells) rfl;refine S.f135 hE hr bm2 x hx λH3 e3 =>?_;obtain⟨H4,s4,g4⟩:=Has.mset hr (g2'.grow e3) (k:=0) (v:=u32 (kP r x.k).1) rfl (by decide) (aPe a _ (at_+1) act false r.cells)
  simp only[s4,aB];exact hQ _ (Has.dropLast (L:=_ :: X) g4)
 ·have hs:cH r x a=(a&&&x.k,0,none):=by unfold cH;rw[if_neg (by rw[hx];decide),if_pos hx]
  rw[hs]at hQ;have d0:decide (bR x.code=0#16)=false:=by rw[hx];decide
  have d1:decide (bR x.code=1#16)=false:=by rw[hx];decide
  have d2:decide (bR x.code=2#16)=false:=by rw[hx];decide
  have d3:decide (bR x.code=3#16)=false:=by rw[hx];decide
  have d4:decide (bR x.code=4#16)=true:=by rw[hx];decide
  simp only[k0,k1,k2,k3,k4,cC,d0,d1,d2,d3,d4,l2,aB];refine S.f137 hE hr g2' x hx λH4 g4 =>?_;exact hQ _ (Has.dropLast (L:=_ :: X) g4)
 all_goals try
  have d0:decide (bR x.code=0#16)=false:=by rw[hx];decide
  have d1:decide (bR x.code=1#16)=false:=by rw[hx];decide
  have d2:decide (bR x.code=2#16)=false:=by rw[hx];decide
  have d3:decide (bR x.code=3#16)=false:=by rw[hx];decide
  have d4:decide (bR x.code=4#16)=false:=by rw[hx];decide
  have d5:decide (bR x.code=5#16)=true:=by rw[hx];decide
  have hs:(cH r x a).1=a/\(cH r x a).2.2=none:=by unfold cH;rw[hx];exact⟨rfl,rfl⟩
  rw[hs.1,hs.2]at hQ;simp only[k0,k1,k2,k3,k4,k5,cC,d0,d1,d2,d3,d4,d5,l2,aB];refine S.f134 hE hr (by omega) g2' x (by rw[hx];decide) λH4 g4 =>?_
  exact hQ _ (Has.dropLast (L:=_ :: X) g4)
 have d0:decide (bR x.code=0#16)=false:=by rw[hx];decide
 have d1:decide (bR x.code=1#16)=false:=by rw[hx];decide
 have d2:decide (bR x.code=2#16)=false:=by rw[hx];decide
 have d3:decide (bR x.code=3#16)=false:=by rw[hx];decide
 have d4:decide (bR x.code=4#16)=false:=by rw[hx];decide
 have d5:decide (bR x.code=5#16)=false:=by rw[hx];decide
 have d6:decide (bR x.code=6#16)=true:=by rw[hx];decide
 have hs:cH r x a=(a,0,some x.k):=by unfold cH;rw[hx];rfl
 rw[hs]at hQ;obtain⟨H3,s3,g3⟩:=Has.mset hr g2' (k:=29) (v:=vb true) rfl (by decide) hcc.2.2.2.2.1
 have b3:=Has.lastBox (L:=mR mb a (at_+1) act true r :: X) g3;obtain⟨H4,s4,g4⟩:=Has.mset hr g3 (k:=28) (v:=u32 x.k) rfl (by decide) ((kZ (a:=a) (at_:=at_+1) (act:=act) (e:=true) (gN hr)).2.2.2.2.2.1 x.k)
 have b4:=Has.lastBox (L:=mR mb a (at_+1) x.k true r :: X) g4;have s3:aZ (ptr mb 29) (.bool true) H2=some H3:=s3;have d22:decide (x.code=22#16)=false:=by rw[hx];decide
 simp only[k0,k1,k2,k3,k4,k5,k6,cC,d0,d1,d2,d3,d4,d5,d6,b2,c3,s3,aB];refine⟨by rw[b3];rfl,?_⟩
 simp only[s4,b4,c0,k22,cC,d22,aB];exact hQ _ (Has.dropLast (L:=_ :: X) g4)
end
end
section
set_option maxRecDepth 20000
def iK(c:List bL):Prop:=∀ k (h:k<c.length),okI c[k] (c.length - k - 1)
def Fil(H0 Z H:AH)(fb:Nat)(c:List bL)(X:List Res):Prop:=∃ lv n1 n2,Has H0 Z H (bJ fb [lv,vi n1,vi n2] :: bB 4 lv (cJ c) :: X)
section
variable {E:Sy}{H H' H0 Z:AH}{Q:Value->AH->Prop}{X:List Res}{fb:Nat}
theorem Fil.grow{c:List bL}(h:Fil H0 Z H fb c X)(e:Ext H H'):Fil H0 Z H' fb c X:=by
 obtain⟨lv,n1,n2,h⟩:=h;exact⟨lv,n1,n2,h.grow e⟩
theorem Fil.ext{c:List bL}(h:Fil H0 Z H fb c X):Ext H0 H:=by
 obtain⟨lv,n1,n2,h⟩:=h;exact h.ext
theorem S.sync_atomic_Int64_Add_at(hE:aW E){b o:Nat}{c:List Value}{n d:Int}(hb:H.get b = .cells c none)(hc:c[o]? = some (vi n))(hQ:∀ v,Q v (H.put b (.cells (c.set o (vi (IntKind.i64.wrap (n+d)))) none))):E.call 27 [ptr b o,vi d] H Q:=by
 apply hE.f129;simp only[F.f129,aDV,gS,aS];rw[qQ,aS];apply hE.f128;have hc:c[o+0]? = some (.int .i64 n):=hc;simp only[lT,ptr,vi,hb,hc];exact hQ _
theorem pO(r:aU):∀ (f:Nat) (a:BitVec 32),gM r f [] a=2147483648#32
 | 0,_=>rfl
 | _+1,_=>rfl
theorem S.f132(hE:aW E){r:aU}(hr:r.ok){c:List bL}(hok:iK c)(hlen:c.length<=4096)(h:Fil H0 Z H fb c X)(hQ:∀ n H',n<=c.length->Fil H0 Z H' fb c X->Q (.tuple #[u32 (gM r c.length c 0#32),vi (n:Nat)]) H'):E.call 10 [ptr fb 0,r.v] H Q:=by
 apply hE.f132;obtain⟨lv,n1,n2,h⟩:=h;have g:=h.new (.cells r.cells none);have b1:=AH.get_new_self H (.cells r.cells none);have lo:aE 9 (ptr H.next 0) (H.new (.cells r.cells none))=some r.v:=by rw[aL,b1,dF _ _ 9 (gN hr)];rfl
 obtain⟨c0,c1,c2,c3,c4,c5,c6,c7,c8,hrc⟩:=aD2 (gN hr);have hp:r.cells.all plain1=true:=by simp[aU.cells]
 have hbv:aK [(0,1),(1,1),(2,16),(18,1),(19,9),(28,1),(29,1)] #[(.int .u32 0),(.int .u32 0),(.int .u32 0),(.int .u32 0),(.int .u32 0),(.int .u32 0),(.int .u32 0),(.int .u32 0),(.int .u32 0),(.int .u32 0),(.int .u32 0),(.int .u32 0),(.int .u32 0),(.int .u32 0),(.int .u32 0),(.int .u32 0),(.int .u32 0),(.int .u32 0),vi 0,(.int .u32 0),(.int .u32 0),(.int .u64 0),(.int .u64 0),(.int .u64 0),(.int .u64 0),(.int .u64 0),(.int .u64 0),(.int .u64 0),(.int .u32 0),(.bool false)] [(4,r.v)]=some (.agg (mC 0#32 0 0#32 false r.cells).toArray):=by
  unfold aU.v;rw[iF,hrc];rfl
 simp only[F.f132,aX,AM.aT,aR,List.toList_toArray,kL,lo,hbv,bE,aB];have hn1:H.next+1=(H.new (.cells r.cells none)).next:=rfl;rw[hn1];clear hn1;generalize H.new (.cells r.cells none)=H1 at *
 have hst:aI 30 (ptr H1.next 0) (.agg (mC 0#32 0 0#32 false r.cells).toArray) (H1.new (.cells [(.int .u32 0),(.int .u32 0),(.int .u32 0),(.int .u32 0),(.int .u32 0),(.int .u32 0),(.int .u32 0),(.int .u32 0),(.int .u32 0),(.int .u32 0),(.int .u32 0),(.int .u32 0),(.int .u32 0),(.int .u32 0),(.int .u32 0),(.int .u32 0),(.int .u32 0),(.int .u32 0),vi 0,(.int .u32 0),(.int .u32 0),(.int .u64 0),(.int .u64 0),(.int .u64 0),(.int .u64 0),(.int .u64 0),(.int .u64 0),(.int .u64 0),(.int .u32 0),(.bool false)] none))=some (H1.new (.cells (mC 0#32 0 0#32 false r.cells) none)):=by
  rw[cL,AH.get_new_self];have hl:=(kZ (a:=0#32) (at_:=0) (act:=0#32) (e:=false) (gN hr)).2.2.2.2.2.2;have hpl:(mC 0#32 0 0#32 false r.cells).all plain1=true:=by simp[mC,hp]
  have hsp:∀ z:List Value,z.length=30->AM.aQ z 0 (mC 0#32 0 0#32 false r.cells)=mC 0#32 0 0#32 false r.cells:=λz hz=>by simp[aQ,hz,hl]
  simp only[List.size_toArray,List.toList_toArray,hl,hpl,List.length_cons,List.length_nil,Nat.zero_add,Nat.le_refl,and_self,if_true];rw[hsp _ rfl,AH.new_put]
 have g2:Has H0 Z (H1.new (.cells (mC 0#32 0 0#32 false r.cells) none)) (mR H1.next 0#32 0 0#32 false r :: bJ fb [lv,vi n1,vi n2] :: bB 4 lv (cJ c) :: X):=(g.newbox (mC 0#32 0 0#32 false r.cells)).perm (List.perm_append_singleton _ _);simp only[hst,aB];generalize H1.new (.cells (mC 0#32 0 0#32 false r.cells) none)=H2 at *;generalize H1.next=mb at *;have i0:vi 0=vi ((0:Nat):Int):=rfl;have i1:(.int .i64 1:Value)=vi 1:=rfl;have kK:(.int .u32 2147483648:Value)=u32 2147483648#32:=rfl;rw[i0]
 refine aY.ind (λm ls H'=>∃ (a:BitVec 32) (at_:Nat) (act:BitVec 32) (e:Bool) (n:Nat),ls=[ptr fb 0,ptr mb 0,vi n]/\Has H0 Z H' (mR mb a at_ act e r :: bJ fb [lv,vi n1,vi n2] :: bB 4 lv (cJ c) :: X)/\at_<=c.length/\n<=at_ /\
   (e=true->m=0/\act=gM r c.length c 0#32)/\(e=false->m=c.length - at_+1/\∃ f,c.length - at_<=f/\gM r f (c.drop at_) a=gM r c.length c 0#32)) ?_ (c.length+1)
  ⟨0#32,0,0#32,false,0,rfl,g2,Nat.zero_le _,Nat.le_refl _,by simp,λ_=>⟨by omega,c.length,by omega,by rw[List.drop_zero]⟩⟩
 rintro m _ H3 X1 ih ⟨a,at_,act,e,n,rfl,g3,hat,hn,he1,he2⟩;have bm:=g3.box (k:=0) (b:=mb) (c:=mC a at_ act e r.cells) rfl;have bf:=g3.box (k:=1) (b:=fb) (c:=[lv,vi n1,vi n2]) rfl;have hc:=kZ (a:=a) (at_:=at_) (act:=act) (e:=e) (gN hr);have hlv:=(g3.rows (k:=2) (sz:=4) (v:=lv) (rows:=cJ c) rfl).lenSlc;have hil:(cJ c).length=c.length:=by simp[cJ]
 rw[hil]at hlv
 have fin:∀ res:BitVec 32,res=gM r c.length c 0#32->(e=true->act=res)->(e=false->res=2147483648#32) ->
   E.call 27 [ptr fb 1,vi 1] H3 λv24 H10 =>
    opt (aN (ptr fb 0)) λv25=>opt (aC v25 2) λv26 =>
    E.call 27 [v26,vi n] H10 λv27 H11 =>
    opt (aC (ptr mb 0) 29) λv28=>opt (aD v28 H11) λv29=>opt (un .not v29) λv30 =>
    ifB v30 (Q (.tuple #[(.int .u32 2147483648),vi n]) H11) (opt (aC (ptr mb 0) 28) λv31=>opt (aD v31 H11) λv32=>Q (.tuple #[v32,vi n]) H11):=by
  intro res hres ha hb;refine S.sync_atomic_Int64_Add_at hE bf (n:=n1) rfl λ_ =>?_;have g4:=g3.put (k:=1) (b:=fb) (c:=[lv,vi n1,vi n2]) rfl [lv,vi (IntKind.i64.wrap (n1+1)),vi n2];have bf4:=g4.box (k:=1) (b:=fb) (c:=[lv,vi (IntKind.i64.wrap (n1+1)),vi n2]) rfl;simp only[aB];refine S.sync_atomic_Int64_Add_at hE bf4 (n:=n2) rfl λ_ =>?_;have g5:=g4.put (k:=1) (b:=fb) (c:=[lv,vi (IntKind.i64.wrap (n1+1)),vi n2]) rfl [lv,vi (IntKind.i64.wrap (n1+1)),vi (IntKind.i64.wrap (n2+n))];have bm5:=g5.box (k:=0) (b:=mb) (c:=mC a at_ act e r.cells) rfl;have g6:=g5.drop 0;have hq:=hQ n _ (Nat.le_trans hn hat) ⟨lv,_,_,g6⟩;rw[<- hres]at hq;have bm5':=bm5;simp only[List.set_cons_succ,List.set_cons_zero]at bm5' hq ⊢;simp only[bm5',hc.2.2.2.1,aB];cases e with
  | true =>
   rw[ha rfl]at hc bm5';simp only[bm5',hc.2.2.1,aB];exact hq
  | false =>
   rw[hb rfl]at hq;simp only[kK,aB];exact hq
 cases e with
 | true =>
  obtain⟨_,hact⟩:=he1 rfl;simp only[F.f132_l1,bm,hc.2.2.2.1,i1,aB];exact fin _ rfl (λ_=>hact) (λh=>by cases h)
 | false =>
  obtain⟨hm,f,hf,hrun⟩:=he2 rfl;rcases Nat.lt_or_ge at_ c.length with hlt | hge
  ·have hlt':decide ((at_:Int)<c.length)=true:=decide_eq_true (by omega)
   obtain⟨bb,o,f1,f2⟩:=(g3.rows (k:=2) (sz:=4) (v:=lv) (rows:=cJ c) rfl).ix (i:=at_) (by omega)
   have hrow:(cJ c)[at_]'(by omega)=c[at_].cells:=by simp[cJ]
   rw[hrow]at f2;have lo3:aE 4 (ptr bb o) H3=some c[at_].v:=by rw[aL,f2];rfl
   have hokx:=hok at_ hlt;have hinc:=bN (i:=n) (by omega)
   have hdr:c.drop at_=c[at_] :: c.drop (at_+1):=List.drop_eq_getElem_cons hlt
   have hskip:at_+1+(cH r c[at_] a).2.1<=c.length:=by
    unfold cH;rcases hokx with ⟨hx,_,_⟩ | hx | ⟨hx,h1⟩ | ⟨hx,h1,h2⟩ | ⟨hx,h1,h2⟩ | ⟨hx,h1,h2⟩ | hx<;>rw[hx]<;>simp only[BitVec.reduceEq,if_true,if_false,Nat.add_zero]<;>try omega
    all_goals split<;>omega
   rw[hdr]at hrun;generalize c[at_]=x at *;simp only[F.f132_l1,bm,bf,hc.2.1,hc.2.2.2.1,hlv,aF,hlt',f1,lo3,aB];refine S.f138 hE hr (by omega) g3 x hokx λH4 g4 =>?_
   simp only[hinc,aB];obtain⟨f,rfl⟩:∃ f',f=f'+1:=⟨f - 1,by omega⟩
   have hrun:(match (cH r x a).2.2 with | some o=>o | none=>gM r f ((c.drop (at_+1)).drop (cH r x a).2.1) (cH r x a).1)=gM r c.length c 0#32:=hrun
   cases ho:(cH r x a).2.2 with
   | some res =>
    rw[ho]at hrun g4;have hrun:res=_:=hrun;exact ih 0 (by omega) _ _ ⟨_,_,_,true,n+1,rfl,g4,hskip,by omega,λ_=>⟨rfl,hrun⟩,λh=>by cases h⟩
   | none =>
    rw[ho]at hrun g4;have hrun:gM r f ((c.drop (at_+1)).drop (cH r x a).2.1) (cH r x a).1=_:=hrun;rw[List.drop_drop]at hrun;exact ih (c.length - (at_+1+(cH r x a).2.1)+1) (by omega) _ _ ⟨_,_,_,false,n+1,rfl,g4,hskip,by omega,(λh=>by cases h),λ_=>⟨rfl,f,by omega,hrun⟩⟩
  ·have hlt':decide ((at_:Int)<c.length)=false:=decide_eq_false (by omega)
   rw[List.drop_eq_nil_of_le hge,pO]at hrun;simp only[F.f132_l1,bm,bf,hc.2.1,hc.2.2.2.1,hlv,aF,hlt',i1,aB];exact fin _ hrun.symm.symm (λh=>by cases h) (λ_=>rfl)
end
end
section
set_option maxRecDepth 20000
def aMJ(a b:BitVec 8):BitVec 8:=if a.toNat<b.toNat then b else a
section
variable {E:Sy}{H H' H0 Z:AH}{Q:Value->AH->Prop}{X:List Res}
theorem aOH(a b:BitVec 8):nT max2 [u8 a,u8 b]=some (u8 (aMJ a b)):=by
 unfold aMJ;have h0:nT max2 [u8 a,u8 b]=some (.int .u8 (if(b.toNat:Int) > (a.toNat:Int) then(b.toNat:Int) else(a.toNat:Int))):=by simp only[fX];rfl
 rw[h0]
 by_cases h:a.toNat<b.toNat
 ·rw[if_pos h,if_pos (by omega),fX]
 ·rw[if_neg h,if_neg (by omega),fX]
theorem S.f4(hE:aW E)(c:BitVec 16)(h1:c≠96#16)(h2:c≠97#16)(h3:c≠2#16)(h4:c≠3#16)(hQ:Q (vb false) H):E.call 78 [u16 c] H Q:=by
 apply hE.f4;have k1:(.int .u16 96:Value)=u16 96#16:=rfl;have k2:(.int .u16 97:Value)=u16 97#16:=rfl;have k3:(.int .u16 2:Value)=u16 2#16:=rfl;have k4:(.int .u16 3:Value)=u16 3#16:=rfl;simp only[F.f4,F.f4_j1,k1,k2,k3,k4,cC,decide_eq_false h1,decide_eq_false h2,decide_eq_false h3,decide_eq_false h4,aB];exact hQ
theorem S.f3(hE:aW E)(x:bL){at_ n:Nat}(hx:okI x (n - at_ - 1))(hat:at_<n)(hn:n<=4096)(hQ:∀ H',Ext H H'->Q (vi 0) H'):E.call 39 [x.v,vi at_,vi n] H Q:=by
 apply hE.f3;have b1:=AH.get_new_self H (.cells x.cells none);have x1:Ext H (H.new (.cells x.cells none)):=(Ext.refl _).new _;have c0:x.cells[0]? = some (u16 x.code):=rfl;have c1:x.cells[1]? = some (u8 x.jt):=rfl;have c2:x.cells[2]? = some (u8 x.jf):=rfl;have c3:x.cells[3]? = some (u32 x.k):=rfl;have k1:(.int .i64 1:Value)=vi 1:=rfl;have k5:(.int .u16 5:Value)=u16 5#16:=rfl;have k32:(.int .u16 32:Value)=u16 32#16:=rfl;have k52:(.int .u16 52:Value)=u16 52#16:=rfl;have k100:(.int .u16 100:Value)=u16 100#16:=rfl;have k116:(.int .u16 116:Value)=u16 116#16:=rfl;have q4:(.int .u32 4:Value)=u32 4#32:=rfl;have q0:(.int .u32 0:Value)=u32 0#32:=rfl;have q60:(.int .u32 60:Value)=u32 60#32:=rfl;have s1:aA .sub (vi (n:Int)) (vi (at_:Int))=some (vi ((n:Int) - at_)):=gY (by omega) (by omega)
 have s2:aA .sub (vi ((n:Int) - at_)) (vi 1)=some (vi ((n - at_ - 1:Nat):Int)):=by rw[gY (by omega) (by omega)];congr 2;omega
 have hrem:aA .rem (u32 x.k) (u32 4#32)=some (u32 (x.k % 4#32)):=aNc _ _ (by decide)
 have hln:n - at_ - 1<4096:=by omega
 have known:aGm.contains x.code||aA0 x.code:=by
  rcases hx with ⟨h,_⟩ | h | ⟨h,_⟩ | ⟨h,_⟩ | ⟨h,_⟩ | ⟨h,_⟩ | h<;>rw[h]<;>decide +kernel
 have e52:decide (x.code=52#16)=false:=by rcases hx with ⟨h,_⟩ | h | ⟨h,_⟩ | ⟨h,_⟩ | ⟨h,_⟩ | ⟨h,_⟩ | h<;>rw[h]<;>decide
 have e100:decide (x.code=100#16)=false:=by rcases hx with ⟨h,_⟩ | h | ⟨h,_⟩ | ⟨h,_⟩ | ⟨h,_⟩ | ⟨h,_⟩ | h<;>rw[h]<;>decide
 have e116:decide (x.code=116#16)=false:=by rcases hx with ⟨h,_⟩ | h | ⟨h,_⟩ | ⟨h,_⟩ | ⟨h,_⟩ | ⟨h,_⟩ | h<;>rw[h]<;>decide
 have e96:x.code≠96#16:=by rcases hx with ⟨h,_⟩ | h | ⟨h,_⟩ | ⟨h,_⟩ | ⟨h,_⟩ | ⟨h,_⟩ | h<;>rw[h]<;>decide
 have e97:x.code≠97#16:=by rcases hx with ⟨h,_⟩ | h | ⟨h,_⟩ | ⟨h,_⟩ | ⟨h,_⟩ | ⟨h,_⟩ | h<;>rw[h]<;>decide
 have e2:x.code≠2#16:=by rcases hx with ⟨h,_⟩ | h | ⟨h,_⟩ | ⟨h,_⟩ | ⟨h,_⟩ | ⟨h,_⟩ | h<;>rw[h]<;>decide
 have e3:x.code≠3#16:=by rcases hx with ⟨h,_⟩ | h | ⟨h,_⟩ | ⟨h,_⟩ | ⟨h,_⟩ | ⟨h,_⟩ | h<;>rw[h]<;>decide
 simp only[F.f3,aX,AM.aT,aR,List.toList_toArray,k1,s1,s2,b1,c0,aB];generalize H.new (.cells x.cells none)=H1 at *;generalize H.next=t at *;refine S.f15 hE _ ?_;rw[known];have tail:∀ (Q':Prop),(Q (vi 0) H1->Q')->Q':=λQ' f=>f (hQ _ x1)
 have ec32:∀ b:Bool,decide (x.code=32#16)=b->(b=true->decide (x.k % 4#32≠0#32)=false/\decide ((60#32).toNat<x.k.toNat)=false):=by
  intro b hb ht;subst ht;have h32:x.code=32#16:=of_decide_eq_true hb;rcases hx with ⟨_,h1,h2⟩ | h | ⟨h,_⟩ | ⟨h,_⟩ | ⟨h,_⟩ | ⟨h,_⟩ | h
  rotate_left
  all_goals first
   | (rw[h32]at h;exact absurd h (by decide))
   | skip
  refine⟨decide_eq_false ?_,decide_eq_false ?_⟩
  ·intro hne
   apply hne;apply BitVec.eq_of_toNat_eq;rw[BitVec.toNat_umod];exact h1
  ·show ¬ 60<_
   omega
 have fin:∀ b:Bool,decide (x.code=32#16)=b->Q (vi 0) H1:=λ_ _=>hQ _ x1;rcases hx with ⟨hc,h1,h2⟩ | hc | ⟨hc,h1⟩ | ⟨hc,h1,h2⟩ | ⟨hc,h1,h2⟩ | ⟨hc,h1,h2⟩ | hc
 ·
  have a5:decide (x.code=5#16)=false:=by rw[hc];decide
  have cl:decide (bR x.code=5#16)=false:=by rw[hc];decide
  have c32:decide (x.code=32#16)=true:=by rw[hc];decide
  obtain⟨m1,m2⟩:=ec32 _ c32 rfl;simp only[b1,c0,k5,cC,a5,aB];refine S.f13 hE _ ?_;simp only[k5,cC,cl,b1,c0,c3,k32,c32,q4,q0,q60,hrem,wY,aEg,m1,m2,aB];refine S.f4 hE _ e96 e97 e2 e3 ?_;simp only[b1,c0,k52,k100,k116,cC,e52,e100,e116,aB];exact hQ _ x1
 all_goals try
  have a5:decide (x.code=5#16)=false:=by rw[hc];decide
  have n5:decide (x.code≠5#16)=true:=by rw[hc];decide
  have cl:decide (bR x.code=5#16)=true:=by rw[hc];decide
  have c32:decide (x.code=32#16)=false:=by rw[hc];decide
  have hmx:decide (((n - at_ - 1:Nat):Int)<=((aMJ x.jt x.jf).toNat:Int))=false:=decide_eq_false (by
   unfold aMJ
   split<;>omega)
  simp only[b1,c0,k5,cC,a5,aB];refine S.f13 hE _ ?_;simp only[k5,cC,yN,cl,n5,b1,c0,c1,c2,aOH,pN,dV,hmx,k32,c32,aB];refine S.f4 hE _ e96 e97 e2 e3 ?_;simp only[b1,c0,k52,k100,k116,cC,e52,e100,e116,aB];exact hQ _ x1
 ·have a5:decide (x.code=5#16)=false:=by rw[hc];decide
  have cl:decide (bR x.code=5#16)=false:=by rw[hc];decide
  have c32:decide (x.code=32#16)=false:=by rw[hc];decide
  simp only[b1,c0,k5,cC,a5,aB];refine S.f13 hE _ ?_;simp only[k5,cC,cl,b1,c0,k32,c32,aB];refine S.f4 hE _ e96 e97 e2 e3 ?_;simp only[b1,c0,k52,k100,k116,cC,e52,e100,e116,aB];exact hQ _ x1
 ·have a5:decide (x.code=5#16)=true:=by rw[hc];decide
  have n5:decide (x.code≠5#16)=false:=by rw[hc];decide
  have cl:decide (bR x.code=5#16)=true:=by rw[hc];decide
  have c32:decide (x.code=32#16)=false:=by rw[hc];decide
  have hlt:decide ((BitVec.ofInt 64 ((n - at_ - 1:Nat):Int)).toNat<=(x.k.setWidth 64).toNat)=false:=decide_eq_false (by
   have:=x.k.isLt;rw[BitVec.toNat_setWidth,BitVec.ofInt_natCast,BitVec.toNat_ofNat,Nat.mod_eq_of_lt (by omega),Nat.mod_eq_of_lt (by omega)]
   omega)
  simp only[b1,c0,c3,k5,cC,a5,aHa,jZ,aEw,hlt,aB];refine S.f13 hE _ ?_;simp only[k5,cC,yN,cl,n5,b1,c0,k32,c32,aB];refine S.f4 hE _ e96 e97 e2 e3 ?_;simp only[b1,c0,k52,k100,k116,cC,e52,e100,e116,aB];exact hQ _ x1
 ·have a5:decide (x.code=5#16)=false:=by rw[hc];decide
  have cl:decide (bR x.code=5#16)=false:=by rw[hc];decide
  have c32:decide (x.code=32#16)=false:=by rw[hc];decide
  simp only[b1,c0,k5,cC,a5,aB];refine S.f13 hE _ ?_;simp only[k5,cC,cl,b1,c0,k32,c32,aB];refine S.f4 hE _ e96 e97 e2 e3 ?_;simp only[b1,c0,k52,k100,k116,cC,e52,e100,e116,aB];exact hQ _ x1
end
end
section
set_option maxRecDepth 20000
section
variable {E:Sy}{H H' H0 Z:AH}{Q:Value->AH->Prop}{X:List Res}
theorem aA1(b n c k:Nat)(hk:k<n):aH 1 (slc b 0 n c) (vi k)=some (ptr b k):=by
 simp only[aH,slc,vi,ptr];have h1:(0:Int)<=(k:Int)/\(k:Int).toNat<n:=⟨by omega,by omega⟩
 simp[Addr.add,hk];exact λh=>h.symm
def aAM(l:List Nat):List (List Value):=l.map λk=>[vi (k:Nat)]
theorem Has.newnats{L:List Res}(h:Has H0 Z H L){n:Nat}(l:List Nat)(hn:l.length=n){cs:List Value}(hc:(aAM l).flatten=cs):Has H0 Z (H.new (.cells cs none)) (L++[bB 1 (slc H.next 0 n n) (aAM l)]) :=
 h.add _ ((Ext.refl H).new _) (dL.made (f:=none) (nQ _) (by rw[AH.get_new_self,hc]) (.inl rfl) (by simp[aAM,hn]) (by intro r hr;obtain⟨x,_,rfl⟩:=List.mem_map.1 hr;exact⟨rfl,rfl⟩)) (by simp[bB,mA,blk]) (by simp[bB,mA,blk])
theorem S.f1(hE:aW E)(x:bL)(hQ:∀ H',Ext H H'->Q (vb (decide (bR x.code=6#16))) H'):E.call 40 [x.v] H Q:=by
 apply hE.f1;have b1:=AH.get_new_self H (.cells x.cells none);have x1:Ext H (H.new (.cells x.cells none)):=(Ext.refl _).new _;have c0:x.cells[0]? = some (u16 x.code):=rfl;have k6:(.int .u16 6:Value)=u16 6#16:=rfl;simp only[F.f1,aX,AM.aT,aR,List.toList_toArray,b1,c0,aB];refine S.f13 hE _ ?_;simp only[k6,cC,aB];exact hQ _ x1
theorem S.f5(hE:aW E)(x:bL){at_ n:Nat}(hx:okI x (n - at_ - 1))(hat:at_<n)(hn:n<=4096)(hl:x.code=6#16\/at_+1<n){L:List Res}(h:Has H0 Z H L)(hQ:∀ v (l:List Nat) H',Has H0 Z H' (L++[bB 1 v (aAM l)])->(∀ k∈l,k<n)->l.length<=2->Q v H'):E.call 79 [x.v,vi at_] H Q:=by
 apply hE.f5;have b1:=AH.get_new_self H (.cells x.cells none);have x1:Ext H (H.new (.cells x.cells none)):=(Ext.refl _).new _;have lo:=uL b1;have c0:x.cells[0]? = some (u16 x.code):=rfl;have c1:x.cells[1]? = some (u8 x.jt):=rfl;have c2:x.cells[2]? = some (u8 x.jf):=rfl;have c3:x.cells[3]? = some (u32 x.k):=rfl;have k5:(.int .u16 5:Value)=u16 5#16:=rfl;have hinc:=bN (i:=at_) (by omega)
 simp only[F.f5,aX,AM.aT,aR,List.toList_toArray,lo,aB];generalize H.new (.cells x.cells none)=H1 at *;generalize H.next=t at *;refine S.f1 hE x λH2 e2 =>?_;have b2:=e2.cells b1;have x2:=x1.trans e2;have lone:∀ m:Nat,bV 1 1 #[vi 0] [(0,vi m)]=some (.cells [vi m] none,fI 1 1):=λm=>cV 1 [vi 0] [vi m] rfl rfl;have ltwo:∀ m k:Nat,bV 2 1 #[vi 0] [(0,vi m),(1,vi k)]=some (.cells [vi m,vi k] none,fI 2 2):=λm k=>pE 2 1 [vi 0] [(0,vi m),(1,vi k)] [vi m,vi k] rfl rfl rfl rfl (by simp)
 have g2:=h.grow x2
 have one:∀ m:Nat,m<n->Q (slc H2.next 0 1 1) (H2.new (.cells [vi m] none)):=λm hm =>
  hQ _ [m] _ (g2.newnats [m] rfl rfl) (by simpa using hm) (by simp)
 have two:∀ m k:Nat,m<n->k<n->Q (slc H2.next 0 2 2) (H2.new (.cells [vi m,vi k] none)):=λm k hm hk =>
  hQ _ [m,k] _ (g2.newnats [m,k] rfl rfl) (by simp[hm,hk]) (by simp)
 rcases hx with ⟨hc,_⟩ | hc | ⟨hc,h1⟩ | ⟨hc,h1,h2⟩ | ⟨hc,h1,h2⟩ | ⟨hc,h1,h2⟩ | hc
 rotate_left 6
 ·have a6:decide (bR x.code=6#16)=true:=by rw[hc];decide
  simp only[a6,aB];exact hQ cB [] _ (g2.nils 1) (by simp) (by simp)
 ·have a6:decide (bR x.code=6#16)=false:=by rw[hc];decide
  have a5:decide (x.code=5#16)=false:=by rw[hc];decide
  have cl:decide (bR x.code=5#16)=false:=by rw[hc];decide
  have hl:at_+1<n:=hl.resolve_left (by rw[hc];decide)
  simp only[a6,b2,c0,k5,cC,a5,aB];refine S.f13 hE _ ?_;simp only[k5,cC,cl,hinc,lone,AM.aT,cT,aB];exact one _ hl
 ·have a6:decide (bR x.code=6#16)=false:=by rw[hc];decide
  have a5:decide (x.code=5#16)=false:=by rw[hc];decide
  have cl:decide (bR x.code=5#16)=false:=by rw[hc];decide
  have hl:at_+1<n:=hl.resolve_left (by rw[hc];decide)
  simp only[a6,b2,c0,k5,cC,a5,aB];refine S.f13 hE _ ?_;simp only[k5,cC,cl,hinc,lone,AM.aT,cT,aB];exact one _ hl
 ·have a6:decide (bR x.code=6#16)=false:=by rw[hc];decide
  have a5:decide (x.code=5#16)=true:=by rw[hc];decide
  have ha:aA .add (vi ((at_+1:Nat):Int)) (vi x.k.toNat)=some (vi ((at_+1+x.k.toNat:Nat):Int)):=by rw[eL (by omega) (by omega)];congr 2
  simp only[a6,b2,c0,c3,k5,cC,a5,hinc,aBb,ha,lone,AM.aT,cT,aB];exact one _ (by omega)
 all_goals
  have a6:decide (bR x.code=6#16)=false:=by rw[hc];decide
  have a5:decide (x.code=5#16)=false:=by rw[hc];decide
  have cl:decide (bR x.code=5#16)=true:=by rw[hc];decide
  have ha1:aA .add (vi ((at_+1:Nat):Int)) (vi x.jt.toNat)=some (vi ((at_+1+x.jt.toNat:Nat):Int)):=by rw[eL (by omega) (by omega)];congr 2
  have ha2:aA .add (vi ((at_+1:Nat):Int)) (vi x.jf.toNat)=some (vi ((at_+1+x.jf.toNat:Nat):Int)):=by rw[eL (by omega) (by omega)];congr 2
  simp only[a6,b2,c0,k5,cC,a5,aB];refine S.f13 hE _ ?_;simp only[k5,cC,cl,b2,c1,c2,hinc,pN,ha1,ha2,ltwo,AM.aT,cT,aB];exact two _ _ (by omega) (by omega)
end
end
section
set_option maxRecDepth 20000
def wW(c:List bL):Prop:=∃ h:0<c.length,(c[c.length - 1]'(by omega)).code=6#16
section
variable {E:Sy}{H H' H0 Z:AH}{Q:Value->AH->Prop}{X:List Res}
abbrev qI(ws:List (BitVec 16)):List Value:=ws.map u16
theorem Has.setW{sb k:Nat}{ws:List (BitVec 16)}{wb:Nat}{wc:List Value}(h:Has H0 Z H (bJ wb wc :: bJ sb (qI ws) :: X))(hk:k<ws.length)(w:BitVec 16):∃ H',aZ (ptr sb k) (u16 w) H=some H'/\Has H0 Z H' (bJ wb wc :: bJ sb (qI (ws.set k w)) :: X):=by
 have hb:=h.box (k:=1) (b:=sb) (c:=qI ws) rfl;refine⟨H.put sb (.cells (qI (ws.set k w)) none),?_,h.put (k:=1) (b:=sb) (c:=qI ws) rfl _⟩;rw[eX,if_pos (show plain1 (u16 w)=true from rfl),hb];simp only[qI,List.length_map,hk,if_true,List.map_set]
theorem S.f2(hE:aW E){v:Value}{c:List bL}(hv:Rows H 4 v (cJ c))(hok:iK c)(hend:wW c)(hlen:c.length<=4096)(hQ:∀ H',Ext H H'->Q (.agg #[vi 0,vi 0]) H'):E.call 41 [v] H Q:=by
 apply hE.f2;obtain⟨h0,hend⟩:=hend;have hlv:=hv.lenSlc;have hil:(cJ c).length=c.length:=by simp[cJ]
 rw[hil]at hlv;have hms:=aC7 1 2 c.length [u16 0#16] rfl (by omega) (by omega)
 rw[aEk]at hms;have hms:tB 1 2 #[(.int .u16 0)] (vi c.length) (vi c.length)=some (.cells (qI (List.replicate c.length 0#16)) none,λb=>slc b 0 c.length c.length):=by rw[qI,List.map_replicate];exact hms
 have i0:vi 0=vi ((0:Nat):Int):=rfl;have q0:(.int .u16 0:Value)=u16 0#16:=rfl;have qf:(.int .u16 65535:Value)=u16 65535#16:=rfl;have g:=((Has.begin (Ext.refl H) (Sub.refl H)).newbox [vi 0,vi 0]).newbox (qI (List.replicate c.length 0#16));have hls:∀ b n m,lenSlc (slc b 0 n m)=some (vi n):=λ_ _ _=>rfl;simp only[F.f2,bE,hlv,hms,AM.aT,hls,aB];have hn1:H.next+1=(H.new (.cells [vi 0,vi 0] none)).next:=rfl;rw[hn1];clear hn1;generalize (H.new (.cells [vi 0,vi 0] none)).new (.cells (qI (List.replicate c.length 0#16)) none)=H2 at *;generalize (H.new (.cells [vi 0,vi 0] none)).next=sb at *;generalize H.next=wb at *;rw[i0];refine aY.count c.length (λk ls H'=>ls=[v,ptr wb 0,slc sb 0 c.length c.length,vi c.length,vi k]/\∃ ws:List (BitVec 16),ws.length=c.length/\Has H H H' [bJ wb [vi 0,vi 0],bJ sb (qI ws)]) ?_ ⟨rfl,_,by simp,g⟩
 rintro k _ H3 X1 hk ih ⟨rfl,ws,hws,g3⟩;rcases Nat.lt_or_ge k c.length with hlt | hge
 ·have hlt':decide ((k:Int)<c.length)=true:=decide_eq_true (by omega)
  have hix:=aA1 sb c.length c.length k hlt;have hinc:=bN (i:=k) (by omega)
  obtain⟨H4,s4,g4⟩:=g3.setW (k:=k) (by omega) 65535#16
  simp only[F.f2_l1,aF,hlt',hix,qf,s4,hinc,aB];exact ih hlt _ _ ⟨rfl,_,by simp[hws],g4⟩
 have hke:k=c.length:=by omega
 subst hke;have hlt':decide ((c.length:Int)<c.length)=false:=decide_eq_false (by omega)
 have hix0:aH 1 (slc sb 0 c.length c.length) (vi 0)=some (ptr sb 0):=aA1 sb c.length c.length 0 h0;obtain⟨H4,s4,g4⟩:=g3.setW (k:=0) (by omega) 0#16
 simp only[F.f2_l1,aF,hlt',hix0,q0,s4,hlv,aB];have hw4:(ws.set 0 0#16).length=c.length:=by simp[hws]
 generalize ws.set 0 0#16=ws at *;rw[i0];refine aY.count c.length (λk ls H'=>ls=[ptr wb 0,slc sb 0 c.length c.length,v,vi c.length,vi k]/\∃ ws:List (BitVec 16),ws.length=c.length/\Has H H H' [bJ wb [vi 0,vi 0],bJ sb (qI ws)]) ?_ ⟨rfl,ws,hw4,g4⟩;clear g4 g3 ih s4 hw4 hws ws;rintro k _ H5 X2 hk ih ⟨rfl,ws,hws,g5⟩;rcases Nat.lt_or_ge k c.length with hlt | hge
 rotate_left
 ·have hke:k=c.length:=by omega
  subst hke;have hb:=g5.box (k:=0) (b:=wb) (c:=[vi 0,vi 0]) rfl;have hbv:aK [(0,1),(1,1)] #[vi 0,vi 0] []=some (.agg #[vi 0,vi 0]):=rfl
  have hst:aI 2 (ptr wb 0) (.agg #[vi 0,vi 0]) H5=some (H5.put wb (.cells [vi 0,vi 0] none)):=by
   rw[cL,hb];rfl
  have g6:=g5.put (k:=0) (b:=wb) (c:=[vi 0,vi 0]) rfl [vi 0,vi 0];have hb6:=g6.box (k:=0) (b:=wb) (c:=[vi 0,vi 0]) rfl;have lo6:aE 2 (ptr wb 0) (H5.put wb (.cells [vi 0,vi 0] none))=some (.agg #[vi 0,vi 0]):=by rw[aL,hb6];rfl
  simp only[F.f2_l2,aF,hlt',hbv,hst,lo6,aB];exact hQ _ g6.ext
 have hlt':decide ((k:Int)<c.length)=true:=decide_eq_true (by omega)
 obtain⟨bb,o,f1,f2⟩:=hv.ix (i:=k) (by omega)
 have hrow:(cJ c)[k]'(by omega)=c[k].cells:=by simp[cJ]
 rw[hrow]at f2
 have f2:(H5.get bb).row o 4=some c[k].cells:=by
  have:H5.get bb=H.get bb:=g5.ext.obj (o:=H.get bb) (λhd=>by rw[hd]at f2;cases f2) rfl
  rw[this];exact f2
 have lo:aE 4 (ptr bb o) H5=some c[k].v:=by rw[aL,f2];rfl
 have hokx:=hok k hlt
 have hl6:c[k].code=6#16\/k+1<c.length:=by
  rcases Nat.lt_or_ge (k+1) c.length with h | h
  ·exact .inr h
  ·have:k=c.length - 1:=by omega
   subst this;exact .inl hend
 have hix:=aA1 sb c.length c.length k hlt;have hinc:=bN (i:=k) (by omega)
 generalize c[k]=x at *;have hst:=aBj x H5;have g6:=g5.new (.cells x.cells none);have bx:=AH.get_new_self H5 (.cells x.cells none);have bs:=g6.box (k:=1) (b:=sb) (c:=qI ws) rfl;have cx:x.cells[0]? = some (u16 x.code):=rfl;have cs:(qI ws)[k]? = some (u16 (ws[k]'(by omega))):=by simp[qI,List.getElem?_eq_getElem (show k<ws.length by omega)]
 have k96:(.int .u16 96:Value)=u16 96#16:=rfl;have k97:(.int .u16 97:Value)=u16 97#16:=rfl;have k2:(.int .u16 2:Value)=u16 2#16:=rfl;have k3:(.int .u16 3:Value)=u16 3#16:=rfl;have e96:decide (x.code=96#16)=false:=by rcases hokx with ⟨h,_⟩ | h | ⟨h,_⟩ | ⟨h,_⟩ | ⟨h,_⟩ | ⟨h,_⟩ | h<;>rw[h]<;>decide
 have e97:decide (x.code=97#16)=false:=by rcases hokx with ⟨h,_⟩ | h | ⟨h,_⟩ | ⟨h,_⟩ | ⟨h,_⟩ | ⟨h,_⟩ | h<;>rw[h]<;>decide
 have e2:decide (x.code=2#16)=false:=by rcases hokx with ⟨h,_⟩ | h | ⟨h,_⟩ | ⟨h,_⟩ | ⟨h,_⟩ | ⟨h,_⟩ | h<;>rw[h]<;>decide
 have e3:decide (x.code=3#16)=false:=by rcases hokx with ⟨h,_⟩ | h | ⟨h,_⟩ | ⟨h,_⟩ | ⟨h,_⟩ | ⟨h,_⟩ | h<;>rw[h]<;>decide
 have lox:=uL bx;generalize ws[k]'(by omega)=w at *
 simp only[F.f2_l2,aF,hlt',f1,lo,bE,hst,hix,bs,cs,bx,cx,k96,k97,cC,e96,e97,F.f2_j2,F.f2_j3,F.f2_j1,k2,k3,e2,e3,lox,aB];generalize H5.new (.cells x.cells none)=H6 at *;refine S.f5 hE x hokx hlt hlen hl6 g6 λwv l H7 g7 hl hl2 =>?_;have hwl:=(g7.rows (k:=2) (sz:=1) (v:=wv) (rows:=aAM l) rfl).lenSlc;have hnl:(aAM l).length=l.length:=by simp[aAM]
 rw[hnl]at hwl;simp only[hwl,i0,aB];refine aY.count l.length (λq ls H'=>ls=[ptr wb 0,slc sb 0 c.length c.length,u16 w,v,vi c.length,vi k,wv,vi l.length,vi q]/\∃ ws:List (BitVec 16),ws.length=c.length/\Has H H H' (bJ wb [vi 0,vi 0] :: bJ sb (qI ws) :: [bB 1 wv (aAM l)])) ?_ ⟨rfl,ws,hws,g7⟩;rintro q _ H8 X3 hq ih2 ⟨rfl,ws,hws,g8⟩;rcases Nat.lt_or_ge q l.length with hql | hqg
 ·have hql':decide ((q:Int)<l.length)=true:=decide_eq_true (by omega)
  obtain⟨b3,o3,n1,n2⟩:=(g8.rows (k:=2) (sz:=1) (v:=wv) (rows:=aAM l) rfl).ix (i:=q) (by omega)
  have hnr:(aAM l)[q]'(by omega)=[vi (l[q]:Nat)]:=by simp[aAM]
  rw[hnr]at n2;have hce:((H8.get b3).cell o3)=some (vi (l[q]:Nat)):=by have:=mF n2 (j:=0) (by omega);simpa using this
  have hlq:=hl l[q] (List.getElem_mem hql);have hqi:=bN (i:=q) (by omega)
  generalize l[q]=y at *;have hiy:=aA1 sb c.length c.length y hlq;have bs:=g8.box (k:=1) (b:=sb) (c:=qI ws) rfl;have cs:(qI ws)[y]? = some (u16 (ws[y]'(by omega))):=by simp[qI,List.getElem?_eq_getElem (show y<ws.length by omega)]
  obtain⟨H9,s9,g9⟩:=Has.setW (X:=[bB 1 wv (aAM l)]) g8 (k:=y) (by omega) ((ws[y]'(by omega))&&&w)
  simp only[F.f2_l3,aF,hql',n1,hce,hiy,bs,cs,aHF,s9,hqi,aB];exact ih2 hql _ _ ⟨rfl,_,by simp[hws],g9⟩
 ·have hql':decide ((q:Int)<l.length)=false:=decide_eq_false (by omega)
  simp only[F.f2_l3,aF,hql',hinc,aB];exact ih hlt _ _ ⟨rfl,ws,hws,Has.dropLast (L:=[_,_]) g8⟩
theorem S.f0(hE:aW E){v:Value}{c:List bL}(hv:Rows H 4 v (cJ c))(hok:iK c)(hend:wW c)(hlen:c.length<=4096)(hQ:∀ H',Ext H H'->Q (.agg #[vi 0,vi 0]) H'):E.call 16 [v] H Q:=by
 apply hE.f0;have hend':=hend;obtain⟨h0,hend⟩:=hend;have hlv:=hv.lenSlc;have hil:(cJ c).length=c.length:=by simp[cJ]
 rw[hil]at hlv;have i0:vi 0=vi ((0:Nat):Int):=rfl;have i1:(.int .i64 1:Value)=vi 1:=rfl;have i4096:(.int .i64 4096:Value)=vi 4096:=rfl;have d0:decide ((c.length:Int)=((0:Nat):Int))=false:=decide_eq_false (by omega)
 have d1:decide ((4096:Int)<c.length)=false:=decide_eq_false (by omega)
 have g:=(Has.begin (Ext.refl H) (Sub.refl H)).newbox [vi 0,vi 0];simp only[F.f0,bE,hlv,i0,i4096,dU,cN,d0,d1,aB];have g:Has H H (H.new (.cells [vi ((0:Nat):Int),vi ((0:Nat):Int)] none)) [bJ H.next [vi 0,vi 0]]:=g;generalize H.new (.cells [vi ((0:Nat):Int),vi ((0:Nat):Int)] none)=H1 at *;generalize H.next=wb at *;refine aY.count c.length (λk ls H'=>ls=[v,ptr wb 0,v,vi c.length,vi k]/\Has H H H' [bJ wb [vi 0,vi 0]]) ?_ ⟨rfl,g⟩;clear g;rintro k _ H5 X2 hk ih ⟨rfl,g5⟩;have hv5:=hv.mono g5.ext
 have row:∀ j (hj:j<c.length),∃ bb o,aH 4 v (vi j)=some (ptr bb o)/\aE 4 (ptr bb o) H5=some c[j].v:=by
  intro j hj;obtain⟨bb,o,f1,f2⟩:=hv5.ix (i:=j) (by omega)
  have hrow:(cJ c)[j]'(by omega)=c[j].cells:=by simp[cJ]
  rw[hrow]at f2;exact⟨bb,o,f1,by rw[aL,f2];rfl⟩
 have hw:∀ {H':AH},Has H H H' [bJ wb [vi 0,vi 0]]->∃ H'',aI 2 (ptr wb 0) (.agg #[vi 0,vi 0]) H'=some H''/\aE 2 (ptr wb 0) H''=some (.agg #[vi 0,vi 0])/\Ext H H'':=by
  intro H' g';have hb:=g'.box (k:=0) (b:=wb) (c:=[vi 0,vi 0]) rfl;have g6:=g'.put (k:=0) (b:=wb) (c:=[vi 0,vi 0]) rfl [vi 0,vi 0];have hb6:=g6.box (k:=0) (b:=wb) (c:=[vi 0,vi 0]) rfl;exact⟨_,by rw[cL,hb];rfl,by rw[aL,hb6];rfl,g6.ext⟩
 rcases Nat.lt_or_ge k c.length with hlt | hge
 ·have hlt':decide ((k:Int)<c.length)=true:=decide_eq_true (by omega)
  obtain⟨bb,o,f1,lo⟩:=row k hlt;have hokx:=hok k hlt;have hinc:=bN (i:=k) (by omega)
  generalize c[k]=x at *;have hst:=aBj x H5;have g6:=g5.new (.cells x.cells none);have lox:=uL (AH.get_new_self H5 (.cells x.cells none));simp only[F.f0_l1,aF,hlt',f1,lo,bE,hst,lox,hlv,aB];generalize H5.new (.cells x.cells none)=H6 at *;refine S.f3 hE x hokx hlt hlen λH7 e7 =>?_;have d7:decide (((0:Nat):Int)≠((0:Nat):Int))=false:=rfl;simp only[i0,fJ,d7,hinc,aB];exact ih hlt _ _ ⟨rfl,g6.grow e7⟩
 ·have hke:k=c.length:=by omega
  subst hke;have hlt':decide ((c.length:Int)<c.length)=false:=decide_eq_false (by omega)
  obtain⟨bb,o,f1,lo⟩:=row (c.length - 1) (by omega)
  have hs:aA .sub (vi (c.length:Int)) (vi 1)=some (vi ((c.length - 1:Nat):Int)):=by rw[gY (by omega) (by omega)];congr 2;omega
  have he6:decide (bR (c[c.length - 1]'(by omega)).code=6#16)=true:=by rw[hend];decide
  simp only[F.f0_l1,aF,hlt',hlv,i1,hs,f1,lo,aB];refine S.f1 hE _ λH6 e6 =>?_;rw[he6];simp only[aB];have g6:=g5.grow e6;refine S.f2 hE (hv.mono g6.ext) hok hend' hlen λH7 e7 =>?_;obtain⟨H8,s8,l8,e8⟩:=hw (g6.grow e7);simp only[s8,l8,aB];exact hQ _ e8
theorem S.f133(hE:aW E){v:Value}{c:List bL}(hv:Rows H 4 v (cJ c))(hok:iK c)(hend:wW c)(hlen:c.length<=4096)(hQ:∀ fb H',Fil H H H' fb c []->Q (.tuple #[ptr fb 0,.agg #[vi 0,vi 0]]) H'):E.call 25 [v] H Q:=by
 apply hE.f133;have g1:=(Has.begin (Ext.refl H) (Sub.refl H)).newbox [vi 0,vi 0];have x1:Ext H (H.new (.cells [vi 0,vi 0] none)):=(Ext.refl H).new _;simp only[F.f133,bE,aB];generalize H.new (.cells [vi 0,vi 0] none)=H1 at *;generalize H.next=wb at *;refine S.f0 hE (hv.mono x1) hok hend hlen λH2 e2 =>?_;have g2:=g1.grow e2;have s2:aI 2 (ptr H2.next 0) (.agg #[vi 0,vi 0]) (H2.new (.cells [vi 0,vi 0] none))=some (H2.new (.cells [vi 0,vi 0] none)):=pU (z:=[vi 0,vi 0]) (c:=[vi 0,vi 0]) rfl rfl rfl;have l2:aE 2 (ptr H2.next 0) (H2.new (.cells [vi 0,vi 0] none))=some (.agg #[vi 0,vi 0]):=by rw[aL,AH.get_new_self];rfl
 have hbv:aK [(0,1),(1,1)] #[vi 0,vi 0] []=some (.agg #[vi 0,vi 0]):=rfl;have hne:jM [0,0] .neq (.agg #[vi 0,vi 0]) (.agg #[vi 0,vi 0])=some (vb false):=rfl;have g3:=g2.new (.cells [vi 0,vi 0] none);simp only[bE,s2,l2,hbv,hne,aB];generalize H2.new (.cells [vi 0,vi 0] none)=H3 at *;have g4:=g3.newroom 4;have hbS:bV 0 4 #[(.int .u16 0),(.int .u8 0),(.int .u8 0),(.int .u32 0)] []=some (.cells [] none,fI 0 0):=aHU 4 [u16 0#16,u8 0#8,u8 0#8,u32 0#32] rfl;obtain⟨lv,H5,a1,a2,g5⟩:=g4.app (k:=1) (sz:=4) (v:=slc H3.next 0 0 0) (rows:=[]) (new:=cJ c) (x:=v) (bytes:=8) rfl (hv.mono g4.ext) (by intro r hr;obtain⟨y,_,rfl⟩:=List.mem_map.1 hr;rfl) (by decide) (by decide) (by simp[cJ];omega) (by simp[cJ];omega)
 have hbv2:aK [(0,1),(1,1),(2,1)] #[(.slice none 0 0),vi 0,vi 0] [(0,lv)]=some (.agg #[lv,vi 0,vi 0]):=by
  have:=(g5.rows (k:=1) (sz:=4) (v:=lv) (rows:=[]++cJ c) rfl).at_;rcases this with ⟨_,c',rfl⟩ | ⟨b,o,c',rfl,_⟩<;>rfl
 have g6:=g5.newbox [lv,vi 0,vi 0];simp only[hbS,AM.aT,cT,a1,hbv2,aX,aR,List.toList_toArray,aB];generalize H5.new (.cells [lv,vi 0,vi 0] none)=H6 at *;generalize H5.next=fb at *;have hb6:=g6.box (k:=0) (b:=wb) (c:=[vi 0,vi 0]) rfl;have g7:=g6.put (k:=0) (b:=wb) (c:=[vi 0,vi 0]) rfl [vi 0,vi 0];have s7:aI 2 (ptr wb 0) (.agg #[vi 0,vi 0]) H6=some (H6.put wb (.cells [vi 0,vi 0] none)):=by rw[cL,hb6];rfl
 have b7:=g7.box (k:=0) (b:=wb) (c:=[vi 0,vi 0]) rfl;have l7:aE 2 (ptr wb 0) (H6.put wb (.cells [vi 0,vi 0] none))=some (.agg #[vi 0,vi 0]):=by rw[aL,b7];rfl
 simp only[hbv,s7,l7,aB];exact hQ _ _ ⟨lv,0,0,(g7.drop 0).perm (List.Perm.swap _ _ _)⟩
end
end
section
set_option maxRecDepth 20000
abbrev Beh:=BitVec 32->BitVec 32
def aKg:Beh:=λ_=>2147483648#32
def mI(env:List (Int×Beh))(n:Int):Beh:=(bC n env).getD aKg
def mT(x:bL)(a:BitVec 32):Bool:=if x.code=21#16 then decide (a=x.k) else if x.code=37#16 then decide (x.k.toNat<a.toNat) else decide (x.k.toNat<=a.toNat)
def fU(r:aU)(p:aG)(d:List (Int×Beh)×Beh):List (Int×Beh)×Beh :=
 if p.kind=1#8 then((p.to,d.2) :: d.1,d.2)
 else if p.kind=4#8 then(d.1,mI d.1 p.to)
 else if p.kind=3#8 then(d.1,λa=>if mT p.insn a=true then mI d.1 p.to a else mI d.1 p.els a)
 else(d.1,λa=>match (cH r p.insn a).2.2 with
  | some o=>o
  | none=>d.2 (cH r p.insn a).1)
def den(r:aU)(l:List aG):List (Int×Beh)×Beh:=l.foldr (fU r) ([],aKg)
def dK(p:aG):Prop :=
 p.kind=1#8\/p.kind=4#8\/(p.kind=2#8/\((p.insn.code=32#16/\p.insn.k.toNat % 4=0/\p.insn.k.toNat<=60)\/p.insn.code=84#16\/p.insn.code=6#16)) \/
 (p.kind=3#8/\(p.insn.code=21#16\/p.insn.code=37#16\/p.insn.code=53#16))
theorem nI(r:aU)(f:Nat)(x:bL)(c:List bL)(a:BitVec 32):gM r (f+1) (x :: c) a=match (cH r x a).2.2 with
  | some o=>o
  | none=>gM r f (c.drop (cH r x a).2.1) (cH r x a).1:=rfl
theorem aLA(r:aU)(n:Nat)(hn:n<2 ^ 32)(a:BitVec 32):cH r (pG n) a=(a,n,none):=by
 have h:(pG (n:Int)).k.toNat=n:=by
  show(BitVec.ofInt 32 (n:Int)).toNat=n
  rw[BitVec.ofInt_natCast,BitVec.toNat_ofNat,Nat.mod_eq_of_lt hn]
 unfold cH;rw[h];rfl
theorem aKC(r:aU){x:bL}(hx:x.code=21#16\/x.code=37#16\/x.code=53#16)(a:BitVec 32):cH r x a=(a,if mT x a=true then x.jt.toNat else x.jf.toNat,none):=by
 unfold cH mT;rcases hx with h | h | h<;>rw[h]<;>simp
theorem tV(r:aU)(f n:Nat)(hn:n<2 ^ 32)(c:List bL)(a:BitVec 32):gM r (f+1) (pG n :: c) a=gM r f (c.drop n) a:=by
 rw[nI,aLA r n hn a]
theorem uD{x:bL}{c:List bL}(h:okI x c.length)(hc:iK c):iK (x :: c):=by
 intro k hk;cases k with
 | zero=>simpa using h
 | succ k =>
  have:=hc k (by simpa using hk)
  simp only[List.getElem_cons_succ,List.length_cons];have e:c.length+1 - (k+1) - 1=c.length - k - 1:=by omega
  rw[e];exact this
theorem aKR{x:bL}{c:List bL}(h:wW c):wW (x :: c):=by
 obtain⟨h0,h1⟩:=h;refine⟨by simp,?_⟩
 have:(x :: c)[(x :: c).length - 1]'(by simp)=c[c.length - 1]'(by omega):=by
  simp only[List.length_cons,Nat.add_sub_cancel];rw[List.getElem_cons,dif_neg (by omega)]
 rw[this];exact h1
theorem aJL{n m:Nat}(h:n<m)(hm:m<2 ^ 32):okI (pG n) m:=by
 refine .inr (.inr (.inl ⟨rfl,?_⟩))
 show(BitVec.ofInt 32 (n:Int)).toNat<m
 rw[BitVec.ofInt_natCast,BitVec.toNat_ofNat,Nat.mod_eq_of_lt (by omega)]
 exact h
structure rX(r:aU)(s:MkD)(d:List (Int×Beh)×Beh):Prop where
 pos:0<s.out.length
 run:∀ f a,s.out.length<=f->gM r f s.out a=d.2 a
 places:∀ n k,bC n s.places=some k->0<k/\k<=s.out.length/\∀ f a,k<=f->gM r f (s.out.drop (s.out.length - k)) a=mI d.1 n a
 names:∀ n,(bC n s.places).isSome=(bC n d.1).isSome
 ok:iK s.out
 end_ : wW s.out
theorem rX.push{r:aU}{s:MkD}{d:List (Int×Beh)×Beh}(h:rX r s d)(x:bL)(k:Beh)(hr:∀ f a,s.out.length<=f->gM r (f+1) (x :: s.out) a=k a)(hx:okI x s.out.length):rX r ⟨x :: s.out,s.places⟩ (d.1,k):=by
 refine⟨by simp,λf a hf =>?_,λn j hj =>?_,h.names,uD hx h.ok,aKR h.end_⟩
 ·simp only[List.length_cons]at hf
  obtain⟨f,rfl⟩:∃ g,f=g+1:=⟨f - 1,by omega⟩
  exact hr f a (by omega)
 ·obtain⟨h1,h2,h3⟩:=h.places n j hj
  refine⟨h1,by simp;omega,λf a hf =>?_⟩
  have:(x :: s.out).drop ((x :: s.out).length - j)=s.out.drop (s.out.length - j):=by
   simp only[List.length_cons];rw[show s.out.length+1 - j=(s.out.length - j)+1 by omega,List.drop_succ_cons]
  simp only[this];exact h3 f a hf
theorem rX.away{r:aU}{s:MkD}{d:List (Int×Beh)×Beh}(h:rX r s d){n:Int}(hs:(bC n s.places).isSome=true):∃ t:Nat,s.away n=t/\t<s.out.length/\∀ f a,s.out.length<=f+t->gM r f (s.out.drop t) a=mI d.1 n a:=by
 obtain⟨k,hk⟩:=Option.isSome_iff_exists.1 hs;obtain⟨h1,h2,h3⟩:=h.places n k hk;refine⟨s.out.length - k,?_,by omega,λf a hf=>h3 f a (by omega)⟩
 unfold MkD.away;rw[hk]
 show(s.out.length:Int) - (k:Int)=_
 omega
theorem rX.cmp{r:aU}{s:MkD}{d:List (Int×Beh)×Beh}(h:rX r s d)(hl:s.out.length<=4096){x:bL}(hx:x.code=21#16\/x.code=37#16\/x.code=53#16){t e:Nat}(ht:t<s.out.length)(he:e<s.out.length){kt ke:Beh}(rt:∀ f a,s.out.length<=f+t->gM r f (s.out.drop t) a=kt a)(re:∀ f a,s.out.length<=f+e->gM r f (s.out.drop e) a=ke a):
  rX r (s.cmp0 x t e) (d.1,λa=>if mT x a=true then kt a else ke a):=by
 have hop:∀ (s:MkD) (d:List (Int×Beh)×Beh) (n:Nat),rX r s d->n<s.out.length->s.out.length<=5000->rX r (s.hop n) (d.1,λa=>gM r s.out.length (s.out.drop n) a):=by
  intro s d n h hn h5;refine h.push (pG n) _ (λf a hf =>?_) (aJL hn (by omega))
  rw[tV r f n (by omega)]
  have fuel:∀ (f g:Nat) (c:List bL) (a:BitVec 32),c.length<=f->c.length<=g->gM r f c a=gM r g c a:=by
   intro f
   induction f with
   | zero=>intro g c a h1 h2;have:c=[]:=List.eq_nil_of_length_eq_zero (by omega);subst this;rw[pO,pO]
   | succ f ih =>
    intro g c a h1 h2;cases c with
    | nil=>rw[pO,pO]
    | cons y c =>
     obtain⟨g,rfl⟩:∃ g',g=g'+1:=⟨g - 1,by simp at h2;omega⟩
     rw[nI,nI];cases (cH r y a).2.2 with
     | some o=>rfl
     | none=>exact ih g _ _ (by simp at h1 ⊢; omega) (by simp at h2 ⊢; omega)
  exact fuel _ _ _ _ (by rw[List.length_drop];omega) (by rw[List.length_drop];omega)
 have c8:∀ n:Nat,n<256->(BitVec.ofInt 8 (n:Int)).toNat=n:=λn hn=>by rw[BitVec.ofInt_natCast,BitVec.toNat_ofNat,Nat.mod_eq_of_lt hn]
 have near:∀ (s:MkD) (d:List (Int×Beh)×Beh) (t e:Nat) (kt ke:Beh),rX r s d->t<256->e<256->t<s.out.length->e<s.out.length ->
   (∀ f a,s.out.length<=f->gM r f (s.out.drop t) a=kt a)->(∀ f a,s.out.length<=f->gM r f (s.out.drop e) a=ke a) ->
   rX r (s.cmp2 x t e) (d.1,λa=>if mT x a=true then kt a else ke a):=by
  intro s d t e kt ke h t8 e8 ht he rt re;refine h.push ⟨x.code,BitVec.ofInt 8 (t:Int),BitVec.ofInt 8 (e:Int),x.k⟩ _ (λf a hf =>?_) ?_
  ·rw[nI,aKC r (x:=⟨x.code,BitVec.ofInt 8 (t:Int),BitVec.ofInt 8 (e:Int),x.k⟩) hx a]
   show gM r f (s.out.drop (if mT x a=true then(BitVec.ofInt 8 (t:Int)).toNat else(BitVec.ofInt 8 (e:Int)).toNat)) a=_
   rw[c8 t t8,c8 e e8]
   by_cases hb:mT x a=true
   ·rw[if_pos hb,if_pos hb];exact rt f a hf
   ·rw[if_neg hb,if_neg hb];exact re f a hf
  ·have j1:(BitVec.ofInt 8 (t:Int)).toNat<s.out.length:=by rw[c8 t t8];exact ht
   have j2:(BitVec.ofInt 8 (e:Int)).toNat<s.out.length:=by rw[c8 e e8];exact he
   rcases hx with h | h | h
   ·exact .inr (.inr (.inr (.inl ⟨h,j1,j2⟩)))
   ·exact .inr (.inr (.inr (.inr (.inl ⟨h,j1,j2⟩))))
   ·exact .inr (.inr (.inr (.inr (.inr (.inl ⟨h,j1,j2⟩)))))
 unfold MkD.cmp0
 by_cases h1:253<(e:Int)
 ·rw[if_pos h1]
  have s1:=hop s d e h he (by omega)
  have hlen:(s.hop e).out.length=s.out.length+1:=by simp[MkD.hop]
  unfold MkD.cmp1
  by_cases h2:253<(t:Int)+1
  ·rw[if_pos h2]
   have s2:=hop (s.hop e) _ (t+1) s1 (by omega) (by omega)
   have hlen2:((s.hop e).hop (t+1:Nat)).out.length=s.out.length+2:=by simp[MkD.hop]
   have:=near _ _ 0 1 kt ke s2 (by omega) (by omega) (by omega) (by omega)
    (λf a hf=>by
     obtain⟨f,rfl⟩:∃ g,f=g+1:=⟨f - 1,by omega⟩
     rw[List.drop_zero]
     show gM r (f+1) (pG ((t+1:Nat):Int) :: (pG (e:Int) :: s.out)) a=_
     rw[tV r f (t+1) (by omega),List.drop_succ_cons]
     exact rt f a (by omega))
    (λf a hf=>by
     obtain⟨f,rfl⟩:∃ g,f=g+1:=⟨f - 1,by omega⟩
     show gM r (f+1) (pG (e:Int) :: s.out) a=_
     rw[tV r f e (by omega)]
     exact re f a (by omega))
   exact this
  ·rw[if_neg h2]
   have:=near _ _ (t+1) 0 kt ke s1 (by omega) (by omega) (by omega) (by omega)
    (λf a hf=>by
     show gM r f ((pG (e:Int) :: s.out).drop (t+1)) a=_
     rw[List.drop_succ_cons];exact rt f a (by omega))
    (λf a hf=>by
     obtain⟨f,rfl⟩:∃ g,f=g+1:=⟨f - 1,by omega⟩
     rw[List.drop_zero]
     show gM r (f+1) (pG (e:Int) :: s.out) a=_
     rw[tV r f e (by omega)]
     exact re f a (by omega))
   exact this
 ·rw[if_neg h1]
  unfold MkD.cmp1
  by_cases h2:253<(t:Int)
  ·rw[if_pos h2]
   have s2:=hop s d t h ht (by omega)
   have hlen2:(s.hop (t:Nat)).out.length=s.out.length+1:=by simp[MkD.hop]
   have:=near _ _ 0 (e+1) kt ke s2 (by omega) (by omega) (by omega) (by omega)
    (λf a hf=>by
     obtain⟨f,rfl⟩:∃ g,f=g+1:=⟨f - 1,by omega⟩
     rw[List.drop_zero]
     show gM r (f+1) (pG (t:Int) :: s.out) a=_
     rw[tV r f t (by omega)]
     exact rt f a (by omega))
    (λf a hf=>by
     show gM r f ((pG (t:Int) :: s.out).drop (e+1)) a=_
     rw[List.drop_succ_cons];exact re f a (by omega))
   exact this
  ·rw[if_neg h2]
   exact near s d t e kt ke h (by omega) (by omega) ht he (λf a hf=>rt f a (by omega)) (λf a hf=>re f a (by omega))
end
section
set_option maxRecDepth 20000
def bQ(l:List aG):List Int:=l.filterMap λp=>if p.kind=1#8 then some p.to else none
theorem eW(p:aG)(l:List aG):bQ (p :: l)=if p.kind=1#8 then p.to :: bQ l else bQ l:=by
 unfold bQ;rw[List.filterMap_cons]
 split<;>rename_i h
 ·split at h
  ·cases h
  ·rename_i h1;rw[if_neg h1]
 ·split at h
  ·rename_i h1;cases h;rw[if_pos h1]
  ·cases h
theorem lS(a b:List aG):bQ (a++b)=bQ a++bQ b:=List.filterMap_append
theorem dQ(r:aU)(p:aG)(l:List aG):den r (p :: l)=fU r p (den r l):=rfl
theorem nJ(r:aU):∀ (l:List aG) (n:Int),(bC n (den r l).1).isSome=decide (n∈bQ l)
 | [],n=>by simp[den,bC,bQ]
 | p :: l,n=>by
  rw[dQ,eW];unfold fU
  by_cases h1:p.kind=1#8
  ·rw[if_pos h1,if_pos h1]
   simp only[eC]
   by_cases hn:n=p.to
   ·rw[if_pos hn];simp[hn]
   ·rw[if_neg hn,nJ r l n];simp[hn]
  ·rw[if_neg h1,if_neg h1]
   by_cases h4:p.kind=4#8
   ·rw[if_pos h4];exact nJ r l n
   ·rw[if_neg h4]
    by_cases h3:p.kind=3#8
    ·rw[if_pos h3];exact nJ r l n
    ·rw[if_neg h3];exact nJ r l n
theorem aIy{r:aU}{s t:MkD}{d:List (Int×Beh)×Beh}(h:rX r s d)(hl:s.out.length<=4096){p:aG}(hp:dK p)(e:s.part p = .inr t):rX r t (fU r p d):=by
 unfold MkD.part at e;unfold fU
 by_cases h1:p.kind=1#8
 ·rw[if_pos h1]at e ⊢
  split at e
  ·cases e
  ·rename_i hs
   cases e;refine⟨h.pos,h.run,λn k hk =>?_,λn =>?_,h.ok,h.end_⟩
   ·simp only[eS]at hk
    unfold mI;simp only[eC]
    by_cases hn:n=p.to
    ·rw[if_pos hn]at hk ⊢
     cases hk;refine⟨h.pos,Nat.le_refl _,λf a hf =>?_⟩;rw[Nat.sub_self,List.drop_zero];exact h.run f a hf
    ·rw[if_neg hn]at hk ⊢
     exact h.places n k hk
   ·simp only[eS,eC]
    by_cases hn:n=p.to
    ·rw[if_pos hn,if_pos hn];rfl
    ·rw[if_neg hn,if_neg hn];exact h.names n
 rw[if_neg h1]at e ⊢
 by_cases h2:p.kind=2#8
 ·have h4:p.kind≠4#8:=by rw[h2];decide
  have h3:p.kind≠3#8:=by rw[h2];decide
  rw[if_pos h2]at e;rw[if_neg h4,if_neg h3]
  have hx:(p.insn.code=32#16/\p.insn.k.toNat % 4=0/\p.insn.k.toNat<=60)\/p.insn.code=84#16\/p.insn.code=6#16:=by
   rcases hp with h | h | ⟨_,h⟩ | ⟨h,_⟩
   ·exact absurd h h1
   ·exact absurd h h4
   ·exact h
   ·exact absurd h h3
  split at e
  ·cases e
  ·cases e
   have hs:∀ a,(cH r p.insn a).2.1=0:=λa=>by
    unfold cH;rcases hx with ⟨h,_⟩ | h | h<;>rw[h]<;>rfl
   refine h.push p.insn _ (λf a hf =>?_) ?_
   ·rw[nI,hs a,List.drop_zero]
    cases (cH r p.insn a).2.2 with
    | some o=>rfl
    | none=>exact h.run f _ hf
   ·rcases hx with h | h | h
    ·exact .inl h
    ·exact .inr (.inl h)
    ·exact .inr (.inr (.inr (.inr (.inr (.inr h)))))
 rw[if_neg h2]at e
 by_cases h4:p.kind=4#8
 ·rw[if_pos h4]at e ⊢
  split at e
  ·rename_i hs
   cases e;obtain⟨t,e1,e2,e3⟩:=h.away hs;rw[e1];refine h.push (pG t) _ (λf a hf =>?_) (aJL e2 (by omega))
   rw[tV r f t (by omega)]
   exact e3 f a (by omega)
  ·cases e
 rw[if_neg h4]at e ⊢
 by_cases h3:p.kind=3#8
 ·rw[if_pos h3]at e ⊢
  have hx:p.insn.code=21#16\/p.insn.code=37#16\/p.insn.code=53#16:=by
   rcases hp with h | h | ⟨h,_⟩ | ⟨_,h⟩
   ·exact absurd h h1
   ·exact absurd h h4
   ·exact absurd h h2
   ·exact h
  split at e
  ·cases e
  ·split at e
   ·cases e
   ·rename_i hs
    cases e;simp only[not_or,Bool.not_eq_false]at hs;obtain⟨t,a1,a2,a3⟩:=h.away hs.1;obtain⟨u,b1,b2,b3⟩:=h.away hs.2;rw[a1,b1];exact h.cmp hl hx a2 b2 a3 b3
 ·rw[if_neg h3]at e
  cases e
def aPo(k:BitVec 32):aG:=bI (aMS k)
def wfL(l:List aG):Prop:=∀ a p b,l=a++p :: b->(p.kind=1#8->p.to ∉ bQ b)/\(p.kind=4#8->p.to∈bQ b)/\(p.kind=3#8->p.to∈bQ b/\p.els∈bQ b)
theorem wfL.tail{p:aG}{l:List aG}(h:wfL (p :: l)):wfL l:=λa q b e=>h (p :: a) q b (by rw[e];rfl)
theorem aFk{r:aU}{s:MkD}{d:List (Int×Beh)×Beh}(h:rX r s d){p:aG}(hp:dK p){e:Int}(he:s.part p = .inl e){b:List aG}(hd:∀ n,(bC n d.1).isSome=decide (n∈bQ b))(w:(p.kind=1#8->p.to ∉ bQ b)/\(p.kind=4#8->p.to∈bQ b)/\(p.kind=3#8->p.to∈bQ b/\p.els∈bQ b)):False:=by
 unfold MkD.part at he;rcases hp with h1 | h4 | ⟨h2,hx⟩ | ⟨h3,hx⟩
 ·rw[if_pos h1,h.names,hd]at he
  have:=w.1 h1;rw[if_neg (by simpa using this)]at he
  cases he
 ·rw[if_neg (by rw[h4];decide),if_neg (by rw[h4];decide),if_pos h4,h.names,hd,if_pos (by simpa using w.2.1 h4)]at he
  cases he
 ·rw[if_neg (by rw[h2];decide),if_pos h2,if_neg (by rcases hx with ⟨h,_⟩ | h | h<;>rw[h]<;>decide)]at he
  cases he
 ·have:=w.2.2 h3
  rw[if_neg (by rw[h3];decide),if_neg (by rw[h3];decide),if_neg (by rw[h3];decide),if_pos h3,if_neg (by rcases hx with h | h | h<;>rw[h]<;>decide),h.names,h.names,hd,hd,if_neg (by simp[this])]at he
  cases he
end
section
set_option maxRecDepth 20000
section
variable {E:Sy}{H H' H0 Z:AH}{Q:Value->AH->Prop}{X:List Res}{lw m:Nat}{s:LwD}
theorem cD(s:LwD)(p:aG):(s.put p).big=s.big+1:=by simp only[LwD.big,LwD.put,List.length_append,List.length_cons,List.length_nil];omega
theorem dM(s:LwD):s.new.big=s.big+1:=by simp only[LwD.big,LwD.new];omega
theorem aAV(s:LwD)(a:BitVec 32):(s.act a).1.big<=s.big+2:=by
 unfold LwD.act
 split
 ·exact Nat.le_add_right _ _
 ·simp only[LwD.big,List.length_append,List.length_cons,List.length_nil];omega
theorem Lw.cells(h:Lw H0 Z H lw m s X):∃ lv ov,H.get lw = .cells [lv,vi s.last,vi s.other,.map (some m),ov] none:=by
 obtain⟨lv,ov,h⟩:=h;exact⟨lv,ov,h.box (k:=0) rfl⟩
theorem dS.look_nat{r:Nat}{l:List (BitVec 32×Nat)}(h:dS u32 jI H r l)(a:BitVec 32)(ok:Bool):AM.look 0 (vi 0) ok (.map (some r)) (u32 a) H=some (if ok then .tuple #[vi ((bC a l).getD 0:Nat),.bool (bC a l).isSome] else vi ((bC a l).getD 0:Nat)):=by
 have:=h.look (kd:=0) iA a (vi 0) ok;cases hk:bC a l with
 | none=>unfold bC at hk;rw[hk]at this;rw[this];cases ok<;>rfl
 | some n=>unfold bC at hk;rw[hk]at this;rw[this];cases ok<;>rfl
theorem Lw.look(h:Lw H0 Z H lw m s X)(a:BitVec 32)(ok:Bool):AM.look 0 (vi 0) ok (.map (some m)) (u32 a) H=some (if ok then .tuple #[vi ((bC a s.acts).getD 0:Nat),.bool (bC a s.acts).isSome] else vi ((bC a s.acts).getD 0:Nat)):=by
 obtain⟨lv,ov,h⟩:=h;exact(h.mapAt (k:=2) (fk:=u32) (fv:=jI) (r:=m) (l:=s.acts) rfl).look_nat a ok
theorem S.f54(hE:aW E)(h:Lw H0 Z H lw m s X)(hb:s.big<2 ^ 29)(a:BitVec 32)(hQ:∀ H',Lw H0 Z H' lw m (s.act a).1 X->Q (vi ((s.act a).2:Nat)) H'):E.call 52 [ptr lw 0,u32 a] H Q:=by
 apply hE.f54;obtain⟨lv,ov,hbx⟩:=h.cells;have hl:=h.look a true;cases hf:bC a s.acts with
 | some n =>
  have hact:s.act a=(s,n):=by unfold LwD.act;rw[hf]
  rw[hf]at hl;rw[hact]at hQ;have hl:AM.look 0 (vi 0) true (.map (some m)) (u32 a) H=some (.tuple #[vi n,.bool true]):=hl;simp only[F.f54,hbx,hl,aB];exact hQ _ h
 | none =>
  have hact:s.act a=({ s with last:=s.last+1,acts:=fB a (s.last+1) s.acts,order:=s.order++[a] },s.last+1):=by unfold LwD.act;rw[hf]
  rw[hf]at hl;rw[hact]at hQ;have hl:AM.look 0 (vi 0) true (.map (some m)) (u32 a) H=some (.tuple #[vi (0:Nat),.bool false]):=hl;simp only[F.f54,hbx,hl,aB];refine S.f38 hE h (by omega) λH1 g =>?_
  obtain⟨lv,ov,g⟩:=g;have hb1:=g.box (k:=0) rfl;obtain⟨H2,m1,g2⟩:=g.mapset (n:=2) (r:=m) (l:=s.acts) (fk:=u32) (fv:=jI) rfl iA a (s.last+1);have m1:eD 0 (.map (some m)) (u32 a) (vi ((s.last+1:Nat):Int)) H1=some H2:=m1;have g2:Has H0 Z H2 ([bJ lw [lv,vi ((s.last+1:Nat):Int),vi s.other,.map (some m),ov],bB 7 lv (bH s.parts),dP u32 jI m (fB a (s.last+1) s.acts),bB 1 ov (nY s.order)]++X):=g2;have hb2:=g2.box (k:=0) rfl;have hlen:(nY s.order).length<2 ^ 29:=by unfold LwD.big at hb;simp only[nY,List.length_map];omega
  obtain⟨v',H3,a1,a2,g3⟩:=g2.app1 (k:=3) (sz:=1) (v:=ov) (rows:=nY s.order) (bytes:=4) rfl [u32 a] rfl rfl (by decide) (by decide) (by omega)
  have hbS:bV 1 1 #[(.int .u32 0)] [(0,u32 a)]=some (.cells [u32 a] none,fI 1 1):=cV 1 [u32 0#32] [u32 a] rfl rfl;have g3:Has H0 Z H3 ([bJ lw [lv,vi ((s.last+1:Nat):Int),vi s.other,.map (some m),ov],bB 7 lv (bH s.parts),dP u32 jI m (fB a (s.last+1) s.acts),bB 1 v' (nY s.order++[[u32 a]])]++X):=g3;have hb3:=g3.box (k:=0) rfl
  have hst:aZ (ptr lw 4) v' H3=some (H3.put lw (.cells [lv,vi ((s.last+1:Nat):Int),vi s.other,.map (some m),v'] none)):=by
   rw[eX,if_pos a2,hb3];rfl
  have g4:=g3.put (k:=0) rfl [lv,vi ((s.last+1:Nat):Int),vi s.other,.map (some m),v'];simp only[hb1,m1,hb2,hbS,cT,AM.aT,a1,hst,aB];refine hQ _ ⟨lv,v',?_⟩;have hr:nY (s.order++[a])=nY s.order++[[u32 a]]:=by simp[nY]
  show Has H0 Z _ (bJ lw [lv,vi ((s.last+1:Nat):Int),vi s.other,.map (some m),v'] :: bB 7 lv (bH s.parts) :: dP u32 jI m (fB a (s.last+1) s.acts) :: bB 1 v' (nY (s.order++[a])) :: X)
  rw[hr];exact g4
theorem S.f60(hE:aW E)(h:Lw H0 Z H lw m s X)(hb:s.big<2 ^ 29)(c:bA)(n:Nat)(hQ:∀ H',Lw H0 Z H' lw m (s.second c n) X->Q (.tuple #[]) H'):E.call 112 [ptr lw 0,c.v,vi n] H Q:=by
 apply hE.f60;have h1:=h.newbox c.cells;simp only[F.f60,aX,AM.aT,aR,List.toList_toArray,aB];generalize H.new (.cells c.cells none)=H1 at *;generalize H.next=t at *;refine S.f36 hE h1 (by omega) n λH2 h2 =>?_
 have hbx:=h2.box;have c0:c.cells[0]? = some (vi c.arg):=rfl;simp only[hbx,c0,aB];refine S.f90 hE c.arg false ?_;refine S.f16 hE _ λH3 e3 =>?_;have hv:∀ k,rQ 32 0 0 k=(dE k).v:=λ_=>rfl;rw[hv];refine S.f40 hE (h2.grow e3) (by rw[cD];omega) _ λH4 h4 =>?_
 exact hQ _ h4.dropLast
theorem jY(s:LwD)(c:bA)(n:Nat):(s.second c n).big=s.big+2:=by unfold LwD.second;rw[cD,cD]
end
end
section
set_option maxRecDepth 20000
section
variable {E:Sy}{H H' H0 Z:AH}{Q:Value->AH->Prop}{X:List Res}{lw m:Nat}{s:LwD}
theorem Lw.cload{t:Nat}{c:bA}(h:Lw H0 Z H lw m s (X++[bJ t c.cells])):aE 4 (ptr t 0) H=some c.v:=by
 rw[aL,h.box,dF _ _ 4 rfl];rfl
theorem S.f59(hE:aW E)(h:Lw H0 Z H lw m s X)(hb:s.big<2 ^ 28)(c:bA)(how:BitVec 16)(yes no:Nat)(hQ:∀ H',Lw H0 Z H' lw m (s.order64 c how yes no) X->Q (.tuple #[]) H'):E.call 113 [ptr lw 0,c.v,u16 how,vi yes,vi no] H Q:=by
 apply hE.f59;have h1:=h.newbox c.cells;have hb1:=AH.get_new_self H (.cells c.cells none);have c3:c.cells[3]? = some (u64 c.value):=rfl;have k32:(.int .u16 32:Value)=u16 32#16:=rfl;have k16:(.int .u16 16:Value)=u16 16#16:=rfl;have ks:aA .shr (u64 c.value) (.int .u64 32)=some (u64 (c.value >>> 32)):=aAH _ _ 32;have kh:aO .u32 (u64 (c.value >>> 32))=some (u32 (cW c.value)):=rB _;have kl:aO .u32 (u64 c.value)=some (u32 (fK c.value)):=rB _;simp only[F.f59,aX,AM.aT,aR,List.toList_toArray,hb1,c3,ks,kh,kl,k32,k16,aB];generalize H.new (.cells c.cells none)=H1 at *;generalize H.next=t at *;refine S.f38 hE h1 (by omega) λH2 h2 =>?_
 refine S.f38 hE h2 (by rw[dM];omega) λH3 h3 =>?_
 refine S.f37 hE h3 (by simp only[dM];omega) 32#16 _ _ _ λH4 h4 =>?_
 refine S.f36 hE h4 (by simp only[dM,cD];omega) _ λH5 h5 =>?_
 refine S.f37 hE h5 (by simp only[dM,cD];omega) 16#16 _ _ _ λH6 h6 =>?_
 have b6:=h6.cload;simp only[b6,aB];refine S.f60 hE h6 (by simp only[dM,cD];omega) c _ λH7 h7 =>?_
 refine S.f37 hE h7 (by simp only[dM,cD,jY];omega) how _ _ _ λH8 h8 =>?_
 exact hQ _ h8.dropLast
theorem aFn(s:LwD)(c:bA)(how:BitVec 16)(yes no:Nat):(s.order64 c how yes no).big=s.big+8:=by
 unfold LwD.order64;simp only[dM,cD,jY]
theorem aGr(s:LwD)(c:bA)(next yes no:Nat):(s.condOn c next yes no).big<=s.big+8:=by
 unfold LwD.condOn
 repeat' split
 all_goals simp only[dM,cD,jY,aFn]<;>omega
theorem aEX(s:LwD)(c:bA)(yes no:Nat):(s.cond c yes no).big<=s.big+10:=by
 unfold LwD.cond;have:=aGr (s.new.put (bI (dE (dR c.arg true)))) c (s.last+1) yes no;simp only[dM,cD]at this;omega
theorem S.f57(hE:aW E)(h:Lw H0 Z H lw m s X)(hb:s.big<2 ^ 27)(c:bA)(yes no:Nat)(hQ:∀ H',Lw H0 Z H' lw m (s.cond c yes no) X->Q (.tuple #[]) H'):E.call 89 [ptr lw 0,c.v,vi yes,vi no] H Q:=by
 apply hE.f57;have h1:=h.newbox c.cells;have hb1:=AH.get_new_self H (.cells c.cells none);have c0:c.cells[0]? = some (vi c.arg):=rfl;have c1:c.cells[1]? = some (u8 c.op):=rfl;have c2:c.cells[2]? = some (u64 c.mask):=rfl;have c3:c.cells[3]? = some (u64 c.value):=rfl;have k16:(.int .u16 16:Value)=u16 16#16:=rfl;have k32:(.int .u16 32:Value)=u16 32#16:=rfl;have k48:(.int .u16 48:Value)=u16 48#16:=rfl;have q1:(.int .u8 1:Value)=u8 1#8:=rfl;have q2:(.int .u8 2:Value)=u8 2#8:=rfl;have q3:(.int .u8 3:Value)=u8 3#8:=rfl;have q4:(.int .u8 4:Value)=u8 4#8:=rfl;have q5:(.int .u8 5:Value)=u8 5#8:=rfl;have q6:(.int .u8 6:Value)=u8 6#8:=rfl;have q7:(.int .u8 7:Value)=u8 7#8:=rfl;have ks:∀ x:BitVec 64,aA .shr (u64 x) (.int .u64 32)=some (u64 (x >>> 32)):=λx=>aAH _ _ 32;have kh:∀ x:BitVec 64,aO .u32 (u64 (x >>> 32))=some (u32 (cW x)):=λx=>rB _;have kl:∀ x:BitVec 64,aO .u32 (u64 x)=some (u32 (fK x)):=λx=>rB _;simp only[F.f57,aX,AM.aT,aR,List.toList_toArray,hb1,c3,ks,kh,kl,aB];generalize H.new (.cells c.cells none)=H1 at *;generalize H.next=t at *;refine S.f38 hE h1 (by omega) λH2 h2 =>?_
 have b2:=h2.box;simp only[b2,c0,aB];refine S.f90 hE c.arg true ?_;refine S.f16 hE _ λH3 e3 =>?_;have hv:∀ k,rQ 32 0 0 k=(dE k).v:=λ_=>rfl;rw[hv];refine S.f40 hE (h2.grow e3) (by rw[dM];omega) _ λH5 h5 =>?_
 have b5:=h5.box;have l5:=h5.cload;have hbg:(s.new.put (bI (dE (dR c.arg true)))).big=s.big+2:=by simp only[dM,cD]
 have h5:Lw H0 Z H5 lw m (s.new.put (bI (dE (dR c.arg true)))) (X++[bJ t c.cells]):=h5;unfold LwD.cond at hQ;generalize s.new.put (bI (dE (dR c.arg true)))=s5 at *;simp only[b5,c1,q1,eB,aB]
 by_cases o1:c.op=1#8
 ·have hc:∀ n,s5.condOn c n yes no=((s5.put (pIf 16#16 (cW c.value) n no)).second c n).put (pIf 16#16 (fK c.value) yes no):=λn=>by unfold LwD.condOn;rw[if_pos o1]
  have hd:decide (c.op=1#8)=true:=by simpa using o1
  rw[hc]at hQ;simp only[hd,k16,aB];refine S.f37 hE h5 (by omega) 16#16 _ _ _ λH6 h6 =>?_
  have b6:=h6.cload;simp only[b6,aB];refine S.f60 hE h6 (by simp only[cD];omega) c _ λH7 h7 =>?_
  refine S.f37 hE h7 (by simp only[cD,jY];omega) 16#16 _ _ _ λH8 h8 =>?_
  exact hQ _ h8.dropLast
 have hd1:decide (c.op=1#8)=false:=by simpa using o1
 simp only[hd1,q2,eB,aB]
 by_cases o2:c.op=2#8
 ·have hc:∀ n,s5.condOn c n yes no=((s5.put (pIf 16#16 (cW c.value) n yes)).second c n).put (pIf 16#16 (fK c.value) no yes):=λn=>by unfold LwD.condOn;rw[if_neg o1,if_pos o2]
  have hd:decide (c.op=2#8)=true:=by simpa using o2
  rw[hc]at hQ;simp only[hd,k16,aB];refine S.f37 hE h5 (by omega) 16#16 _ _ _ λH6 h6 =>?_
  have b6:=h6.cload;simp only[b6,aB];refine S.f60 hE h6 (by simp only[cD];omega) c _ λH7 h7 =>?_
  refine S.f37 hE h7 (by simp only[cD,jY];omega) 16#16 _ _ _ λH8 h8 =>?_
  exact hQ _ h8.dropLast
 have hd2:decide (c.op=2#8)=false:=by simpa using o2
 simp only[hd2,q5,eB,aB]
 by_cases o5:c.op=5#8
 ·have hc:∀ n,s5.condOn c n yes no=s5.order64 c 32#16 yes no:=λn=>by unfold LwD.condOn;rw[if_neg o1,if_neg o2,if_pos o5]
  have hd:decide (c.op=5#8)=true:=by simpa using o5
  rw[hc]at hQ;simp only[hd,l5,k32,aB];exact S.f59 hE h5 (by omega) c 32#16 _ _ λH6 h6=>hQ _ h6.dropLast
 have hd5:decide (c.op=5#8)=false:=by simpa using o5
 simp only[hd5,q6,eB,aB]
 by_cases o6:c.op=6#8
 ·have hc:∀ n,s5.condOn c n yes no=s5.order64 c 48#16 yes no:=λn=>by unfold LwD.condOn;rw[if_neg o1,if_neg o2,if_neg o5,if_pos o6]
  have hd:decide (c.op=6#8)=true:=by simpa using o6
  rw[hc]at hQ;simp only[hd,l5,k48,aB];exact S.f59 hE h5 (by omega) c 48#16 _ _ λH6 h6=>hQ _ h6.dropLast
 have hd6:decide (c.op=6#8)=false:=by simpa using o6
 simp only[hd6,q3,eB,aB]
 by_cases o3:c.op=3#8
 ·have hc:∀ n,s5.condOn c n yes no=s5.order64 c 48#16 no yes:=λn=>by unfold LwD.condOn;rw[if_neg o1,if_neg o2,if_neg o5,if_neg o6,if_pos o3]
  have hd:decide (c.op=3#8)=true:=by simpa using o3
  rw[hc]at hQ;simp only[hd,l5,k48,aB];exact S.f59 hE h5 (by omega) c 48#16 _ _ λH6 h6=>hQ _ h6.dropLast
 have hd3:decide (c.op=3#8)=false:=by simpa using o3
 simp only[hd3,q4,eB,aB]
 by_cases o4:c.op=4#8
 ·have hc:∀ n,s5.condOn c n yes no=s5.order64 c 32#16 no yes:=λn=>by unfold LwD.condOn;rw[if_neg o1,if_neg o2,if_neg o5,if_neg o6,if_neg o3,if_pos o4]
  have hd:decide (c.op=4#8)=true:=by simpa using o4
  rw[hc]at hQ;simp only[hd,l5,k32,aB];exact S.f59 hE h5 (by omega) c 32#16 _ _ λH6 h6=>hQ _ h6.dropLast
 have hd4:decide (c.op=4#8)=false:=by simpa using o4
 simp only[hd4,q7,eB,aB]
 by_cases o7:c.op=7#8
 ·have hc:∀ n,s5.condOn c n yes no=((((s5.put (bI (rU (cW c.mask)))).put (pIf 16#16 (cW c.value) n no)).second c n).put (bI (rU (fK c.mask)))).put (pIf 16#16 (fK c.value) yes no):=λn=>by unfold LwD.condOn;rw[if_neg o1,if_neg o2,if_neg o5,if_neg o6,if_neg o3,if_neg o4,if_pos o7]
  have hd:decide (c.op=7#8)=true:=by simpa using o7
  have hm:∀ k,rQ 84 0 0 k=(rU k).v:=λ_=>rfl;rw[hc]at hQ;simp only[hd,b5,c2,ks,kh,aB];refine S.f17 hE _ λH6 e6 =>?_;rw[hm];refine S.f40 hE (h5.grow e6) (by omega) _ λH7 h7 =>?_
  simp only[k16,aB];refine S.f37 hE h7 (by simp only[cD];omega) 16#16 _ _ _ λH8 h8 =>?_
  have b8:=h8.cload;simp only[b8,aB];refine S.f60 hE h8 (by simp only[cD];omega) c _ λH9 h9 =>?_
  have b9:=h9.box;simp only[b9,c2,kl,aB];refine S.f17 hE _ λH10 e10 =>?_;rw[hm];refine S.f40 hE (h9.grow e10) (by simp only[cD,jY];omega) _ λH11 h11 =>?_
  simp only[k16,aB];refine S.f37 hE h11 (by simp only[cD,jY];omega) 16#16 _ _ _ λH12 h12 =>?_
  exact hQ _ h12.dropLast
 have hd7:decide (c.op=7#8)=false:=by simpa using o7
 have hc:∀ n,s5.condOn c n yes no=s5.put (oM no):=λn=>by unfold LwD.condOn;rw[if_neg o1,if_neg o2,if_neg o5,if_neg o6,if_neg o3,if_neg o4,if_neg o7]
 rw[hc]at hQ;simp only[hd7,aB];exact S.f35 hE h5 (by omega) no λH6 h6=>hQ _ h6.dropLast
end
end
section
set_option maxRecDepth 20000
def wC(b:cQ):Nat:=12*b.conds.length+5
def wB(l:List cQ):Nat:=(l.map wC).sum+1
section
variable {E:Sy}{H H' H0 Z:AH}{Q:Value->AH->Prop}{X:List Res}{lw m:Nat}{s:LwD}
theorem Ext.row(e:Ext H H'){b o n:Nat}{c:List Value}(hr:(H.get b).row o n=some c):(H'.get b).row o n=some c:=by
 have:H'.get b=H.get b:=e.obj (o:=H.get b) (λhd=>by rw[hd]at hr;cases hr) rfl
 rw[this];exact hr
theorem aGx(no:Nat)(l:List bA)(s:LwD){j:Nat}(hj:j<l.length):LwD.conds no (l.take (j+1)) s=LwD.condStep no (LwD.conds no (l.take j) s) l[j]:=by
 unfold LwD.conds;rw[List.take_succ,List.getElem?_eq_getElem hj,List.foldl_append];rfl
theorem uI(no:Nat):∀ (l:List bA) (s:LwD),(LwD.conds no l s).big<=s.big+12*l.length
 | [],s=>by simp[LwD.conds]
 | c :: l,s=>by
  have h1:=uI no l (LwD.condStep no s c)
  have h2:(LwD.condStep no s c).big<=s.big+12:=by
   unfold LwD.condStep;have:=aEX s.new c (s.last+1) no;simp only[cD,dM]at *;omega
  show(LwD.conds no l (LwD.condStep no s c)).big<=_
  simp only[List.length_cons];omega
theorem aA7(s:LwD)(b:cQ):(s.branch b).big<=s.big+wC b:=by
 unfold LwD.branch wC;have h1:=uI (s.last+1) b.conds s.new;have h2:=aAV (LwD.conds (s.last+1) b.conds s.new) b.action;simp only[cD,dM]at *;omega
theorem zD:∀ (l:List cQ) (s:LwD),(l.foldl LwD.branch s).big<=s.big+(l.map wC).sum
 | [],s=>by simp
 | b :: l,s=>by
  have h1:=zD l (s.branch b);have h2:=aA7 s b;simp only[List.foldl_cons,List.map_cons,List.sum_cons];omega
theorem aD1(l:List cQ)(s:LwD):(LwD.branches l s).big<=s.big+wB l:=by
 unfold LwD.branches wB;have:=zD l s;simp only[cD];omega
theorem aFp(hE:aW E){b:cQ}{cv:Value}(hv:Rows H0 4 cv (gX b.conds)){tb:Nat}(h:Lw H0 Z H lw m s (X++[bJ tb [cv,u32 b.action]]))(hb:s.big+12*b.conds.length<2 ^ 25)(no:Nat)(hl:b.conds.length<2 ^ 30){t10:Value}{ln j:Nat}(hj:j<2 ^ 30){X0:List Value->AH->Prop}(next:∀ H',Lw H0 Z H' lw m ((((LwD.conds no b.conds s).act b.action).1.put (oM ((LwD.conds no b.conds s).act b.action).2)).put (cF no)) X->X0 [ptr lw 0,t10,vi ln,vi ((j+1:Nat):Int)] H'):
  lp9 (F.f55_l2 E Q X0) [ptr lw 0,ptr tb 0,vi no,t10,vi ln,vi j,cv,vi b.conds.length,vi 0] H:=by
 have i0:vi 0=vi ((0:Nat):Int):=rfl;rw[i0];refine aY.count b.conds.length (λk ls H'=>ls=[ptr lw 0,ptr tb 0,vi no,t10,vi ln,vi j,cv,vi b.conds.length,vi k]/\Lw H0 Z H' lw m (LwD.conds no (b.conds.take k) s) (X++[bJ tb [cv,u32 b.action]])) ?_ ⟨rfl,by simpa[LwD.conds] using h⟩
 rintro k _ H1 X1 hk ih ⟨rfl,g⟩;rcases Nat.lt_or_ge k b.conds.length with hlt | hge
 ·have hc:=hv.mono g.ext
  obtain⟨bb,o,f1,f2⟩:=hc.ix (i:=k) (by simpa[gX] using hlt)
  have hrow:(gX b.conds)[k]'(by simpa[gX] using hlt)=b.conds[k].cells:=by simp[gX]
  rw[hrow]at f2;have lo:aE 4 (ptr bb o) H1=some b.conds[k].v:=by rw[aL,f2];rfl
  have hlt':(k:Int)<b.conds.length:=by omega
  have hbg:=uI no (b.conds.take k) s;have hln:(b.conds.take k).length=k:=by rw[List.length_take];omega
  rw[hln]at hbg;have hnext:=aGx no b.conds s hlt;have hinc:=bN (i:=k) (by omega)
  generalize b.conds[k]=c at *;generalize LwD.conds no (b.conds.take k) s=s1 at *;have g1:=g.newbox c.cells;have hst:=yH c H1;simp only[F.f55_l2,aF,hlt',decide_true,f1,lo,bE,hst,aB];generalize H1.new (.cells c.cells none)=H2 at *;generalize H1.next=t at *;refine S.f38 hE g1 (by omega) λH3 g2 =>?_
  have l2:=g2.cload;simp only[l2,aB];refine S.f57 hE g2 (by simp only[dM];omega) c _ _ λH4 g3 =>?_
  have hb4:=aEX s1.new c (s1.last+1) no;simp only[dM]at hb4;simp only[aB];refine S.f36 hE g3 (by omega) _ λH5 g4 =>?_
  simp only[hinc,aB];refine ih hlt _ _ ⟨rfl,?_⟩;rw[hnext];exact g4.dropLast
 ·have hke:k=b.conds.length:=by omega
  subst hke;rw[List.take_length]at g;have hlt':¬ ((b.conds.length:Int)<b.conds.length):=by omega
  have hbg:=uI no b.conds s;have hbx:=g.box;have hinc:=bN (i:=j) (by omega)
  generalize LwD.conds no b.conds s=s1 at *;simp only[F.f55_l2,aF,hlt',decide_false,hbx,aB];refine S.f54 hE g (by omega) _ λH2 g2 =>?_
  have hb2:=aAV s1 b.action;refine S.f35 hE g2 (by omega) _ λH3 g3 =>?_
  simp only[aB];refine S.f36 hE g3 (by simp only[cD];omega) _ λH4 g4 =>?_
  simp only[hinc,aB];exact next _ g4.dropLast
theorem S.f55(hE:aW E){l:List cQ}{v:Value}(hv:cO (gA 0) H0 2 v l)(h:Lw H0 Z H lw m s X)(hb:s.big+wB l<2 ^ 25)(hl:l.length<2 ^ 30)(hQ:∀ H',Lw H0 Z H' lw m (LwD.branches l s) X->Q (.tuple #[]) H'):E.call 59 [ptr lw 0,v] H Q:=by
 apply hE.f55;have i0:vi 0=vi ((0:Nat):Int):=rfl;have hlv:=hv.lenSlc;simp only[F.f55,hlv,i0,aB];refine aY.count l.length (λk ls H'=>ls=[ptr lw 0,v,vi l.length,vi k]/\Lw H0 Z H' lw m ((l.take k).foldl LwD.branch s) X) ?_ ⟨rfl,by simpa using h⟩
 rintro k _ H1 X1 hk ih ⟨rfl,g⟩;have hbg:=zD (l.take k) s;rcases Nat.lt_or_ge k l.length with hlt | hge
 ·obtain⟨bb,o,cs,f1,f2,f3⟩:=hv.ix hlt
  have f2:=g.ext.row f2;obtain⟨f0,cv,rfl,f5,_⟩:=f3;have hcv:plain1 cv=true:=f5.plain;have lo:aE 2 (ptr bb o) H1=some (.agg [cv,u32 l[k].action].toArray):=by rw[aL,f2];rfl
  have hlt':(k:Int)<l.length:=by omega
  have hsum:((l.take k).map wC).sum+wC l[k]<=(l.map wC).sum:=by
   have h1:l=l.take k++l[k] :: l.drop (k+1):=by rw[List.getElem_cons_drop,List.take_append_drop]
   conv=>rhs;rw[h1]
   simp only[List.map_append,List.map_cons,List.sum_append,List.sum_cons];omega
  have hstep:(l.take (k+1)).foldl LwD.branch s=((l.take k).foldl LwD.branch s).branch l[k]:=by
   rw[List.take_succ,List.getElem?_eq_getElem hlt,List.foldl_append];rfl
  have hbr:=aA7 ((l.take k).foldl LwD.branch s) l[k];unfold wB at hb;generalize l[k]=b at *;generalize (l.take k).foldl LwD.branch s=s1 at *;have hst:aI 2 (ptr H1.next 0) (.agg [cv,u32 b.action].toArray) (H1.new (.cells [(.slice none 0 0),(.int .u32 0)] none))=some (H1.new (.cells [cv,u32 b.action] none)):=pU rfl rfl (by simp[hcv])
  have g1:=g.newbox [cv,u32 b.action];simp only[F.f55_l1,aF,hlt',decide_true,f1,lo,bE,hst,aB];generalize H1.new (.cells [cv,u32 b.action] none)=H2 at *;generalize H1.next=t at *;have hwc:wC b=12*b.conds.length+5:=rfl;rw[hwc]at hsum hbr;refine S.f38 hE g1 (by omega) λH3 g2 =>?_
  have b3:=g2.box;have hcl:=f5.lenSlc;have hcl2:(gX b.conds).length=b.conds.length:=by simp[gX]
  rw[hcl2]at hcl;simp only[b3,hcl,aB];refine aFp hE f5 g2 (by simp only[dM];omega) _ f0 (by omega) λH4 g3 =>?_
  refine ih hlt _ _ ⟨rfl,?_⟩;rw[hstep];exact g3
 ·have hke:k=l.length:=by omega
  subst hke;rw[List.take_length]at g hbg;have hlt':¬ ((l.length:Int)<l.length):=by omega
  obtain⟨lv,ov,hbx⟩:=g.cells;unfold wB at hb;unfold LwD.branches at hQ;simp only[F.f55_l1,aF,hlt',decide_false,hbx,aB];exact S.f35 hE g (by omega) _ hQ
end
end
section
set_option maxRecDepth 20000
section
variable {E:Sy}{H H' H0 Z:AH}{Q:Value->AH->Prop}{X:List Res}{lw m:Nat}{s:LwD}
theorem cO.cut{α:Type}{R:AH->α->List Value->Prop}{sz:Nat}{v:Value}{l:List α}(h:cO R H sz v l){lo hi:Option Value}{i j:Nat}(hlo:lo=some (vi i)\/lo=none/\i=0)(hhi:hi=some (vi j)\/hi=none/\j=l.length)(hij:i<=j)(hj:j<=l.length):
  cO R H sz (oI sz v i j) ((l.take j).drop i):=by
 obtain⟨rows,h1,h2,h3⟩:=h;obtain⟨a,b⟩:=h1.slice' (lo:=some (vi i)) (hi:=some (vi j)) (.inl rfl) (.inl rfl) hij (by omega)
 refine⟨_,b,by simp[h2],λk k1 k2 =>?_⟩
 simp only[List.getElem_drop,List.getElem_take];exact h3 _ _ _
theorem cO.sl{α:Type}{R:AH->α->List Value->Prop}{sz:Nat}{v:Value}{l:List α}(h:cO R H0 sz v l)(hm:∀ (H H':AH) (a:α) (c:List Value),R H a c->Sub H H'->R H' a c)(e:Ext H0 H){lo hi:Option Value}{i j:Nat}(hlo:lo=some (vi i)\/lo=none/\i=0)(hhi:hi=some (vi j)\/hi=none/\j=l.length)(hij:i<=j)(hj:j<=l.length):
  kG sz v lo hi none H=some (oI sz v i j):=by
 obtain⟨rows,h1,h2,h3⟩:=h.sub hm e.sub;exact(h1.slice' hlo (by rw[h2];exact hhi) hij (by omega)).1
theorem lO.sub':∀ (H H':AH) (a:dC) (c:List Value),lO 0 H a c->Sub H H'->lO 0 H' a c:=λ_ _ _ _ h e=>h.sub e
theorem xC{l:List dC}{k:Nat}(hk:k<l.length):oU l k=l[k].number:=by simp[oU,hk]
theorem nL(st:List (BitVec 32×Nat)):∀ (f:Nat) (l:List dC) (s:LwD),l.length<f->(LwD.choose st f l s).big+(if l.length=0 then 0 else 6)<=s.big+7*l.length+1
 | 0,l,s,h=>by omega
 | f+1,l,s,h=>by
  unfold LwD.choose
  split
  ·rename_i h0
   rw[cD];omega
  ·rename_i h0
   split
   ·rw[cD];omega
   ·have h1:=nL st f (l.take (l.length / 2)) ((s.new.new.put (pIf 48#16 (oU l (l.length / 2)) (s.last+2) (s.last+1))).put (cF (s.last+1))) (by rw[List.length_take];omega)
    have h2:=nL st f (l.drop (l.length / 2)) ((LwD.choose st f (l.take (l.length / 2)) ((s.new.new.put (pIf 48#16 (oU l (l.length / 2)) (s.last+2) (s.last+1))).put (cF (s.last+1)))).put (cF (s.last+2))) (by rw[List.length_drop];omega)
    rw[if_neg (by rw[List.length_take];omega),List.length_take]at h1
    rw[if_neg (by rw[List.length_drop];omega),List.length_drop]at h2
    simp only[cD,dM]at *;omega
theorem S.f56(hE:aW E){st:List (BitVec 32×Nat)}{sm:Nat}:∀ (f:Nat) {l:List dC} {v:Value} {s:LwD} {H:AH} {Q:Value->AH->Prop},l.length<f->cO (lO 0) H0 2 v l->Lw H0 Z H lw m s (dP u32 jI sm st :: X)->s.big+7*l.length+1<2 ^ 25 ->
  (∀ H',Lw H0 Z H' lw m (LwD.choose st f l s) (dP u32 jI sm st :: X)->Q (.tuple #[]) H')->E.call 58 [ptr lw 0,v,.map (some sm)] H Q
 | 0,_,_,_,_,_,hf,_,_,_,_=>by omega
 | f+1,l,v,s,H,Q,hf,hv,h,hb,hQ=>by
  apply hE.f56;have hlv:=hv.lenSlc;have i0:vi 0=vi ((0:Nat):Int):=rfl;have i1:(.int .i64 1:Value)=vi ((1:Nat):Int):=rfl;obtain⟨lv,ov,hbx⟩:=h.cells;have k16:(.int .u16 16:Value)=u16 16#16:=rfl;have k48:(.int .u16 48:Value)=u16 48#16:=rfl;unfold LwD.choose at hQ;simp only[F.f56,hlv,i0,dU,aB]
  by_cases h0:l.length=0
  ·have hd:decide ((l.length:Int)=((0:Nat):Int))=true:=decide_eq_true (by omega)
   rw[if_pos h0]at hQ;simp only[hd,hbx,aB];exact S.f35 hE h (by omega) _ hQ
  have hd0:decide ((l.length:Int)=((0:Nat):Int))=false:=decide_eq_false (by omega)
  rw[if_neg h0]at hQ;simp only[hd0,i1,dU,aB]
  by_cases h1:l.length=1
  ·have hd:decide ((l.length:Int)=((1:Nat):Int))=true:=decide_eq_true (by omega)
   rw[if_pos h1,xC (by omega)]at hQ
   obtain⟨bb,o,cs,f1,f2,f3⟩:=hv.ix (i:=0) (by omega)
   have f2:=h.ext.row f2;have f1:aH 2 v (vi 0)=some (ptr bb o):=f1;obtain⟨bv,rfl,_⟩:=f3;have hce:((H.get bb).cell o)=some (u32 l[0].number):=by have:=mF f2 (j:=0) (by omega);simpa using this
   have hlk:AM.look 0 (vi 0) false (.map (some sm)) (u32 l[0].number) H=some (vi (jG l[0].number st:Nat)):=by
    obtain⟨lv,ov,h⟩:=h;exact(h.mapAt (k:=4) (fk:=u32) (fv:=jI) (r:=sm) (l:=st) rfl).look_nat l[0].number false
   simp only[hd,f1,hce,hlk,hbx,k16,aB];exact S.f37 hE h (by omega) 16#16 _ _ _ hQ
  have hd1:decide ((l.length:Int)=((1:Nat):Int))=false:=decide_eq_false (by omega)
  rw[if_neg h1]at hQ;have hq:=lZ l.length 2 (by decide) (by omega)
  have hhl:l.length / 2<l.length:=by omega
  have hcl:(l.take (l.length / 2)).length=l.length / 2:=by rw[List.length_take];omega
  have hcr:(l.drop (l.length / 2)).length=l.length - l.length / 2:=by rw[List.length_drop]
  rw[xC hhl]at hQ;obtain⟨bb,o,cs,f1,f2,f3⟩:=hv.ix (i:=l.length / 2) hhl;obtain⟨bv,rfl,_⟩:=f3;have hlow:=hv.cut (lo:=none) (hi:=some (vi (l.length / 2:Nat))) (i:=0) (j:=l.length / 2) (.inr ⟨rfl,rfl⟩) (.inl rfl) (Nat.zero_le _) (by omega)
  have hhigh:=hv.cut (lo:=some (vi (l.length / 2:Nat))) (hi:=none) (i:=l.length / 2) (j:=l.length) (.inl rfl) (.inr ⟨rfl,rfl⟩) (by omega) (Nat.le_refl _)
  have slow:∀ {H1:AH},Ext H0 H1->kG 2 v none (some (vi (l.length / 2:Nat))) none H1=some (oI 2 v 0 (l.length / 2)):=λe=>hv.sl lO.sub' e (.inr ⟨rfl,rfl⟩) (.inl rfl) (Nat.zero_le _) (by omega)
  have shigh:∀ {H1:AH},Ext H0 H1->kG 2 v (some (vi (l.length / 2:Nat))) none none H1=some (oI 2 v (l.length / 2) l.length):=λe=>hv.sl lO.sub' e (.inl rfl) (.inr ⟨rfl,rfl⟩) (by omega) (Nat.le_refl _)
  rw[List.drop_zero]at hlow;rw[List.take_length]at hhigh;have hbg:=nL st f (l.take (l.length / 2)) ((s.new.new.put (pIf 48#16 l[l.length / 2].number (s.last+2) (s.last+1))).put (cF (s.last+1))) (by omega)
  generalize hhf:l.length / 2=aCF at *;simp only[hd1,hlv,hq,aB];refine S.f38 hE h (by omega) λH3 g3 =>?_
  refine S.f38 hE g3 (by rw[dM];omega) λH4 g4 =>?_
  have f2:=g4.ext.row f2;have hce:((H4.get bb).cell o)=some (u32 l[aCF].number):=by have:=mF f2 (j:=0) (by omega);simpa using this
  simp only[f1,hce,k48,aB];refine S.f37 hE g4 (by simp only[dM];omega) 48#16 _ _ _ λH5 g5 =>?_
  refine S.f36 hE g5 (by simp only[dM,cD];omega) _ λH6 g6 =>?_
  have sl6:=slow g6.ext;simp only[sl6,aB];refine S.f56 hE f (by omega) hlow g6 (by simp only[dM,cD];omega) λH7 g7 =>?_
  simp only[aB];have hlow0:(l.take aCF).length≠0:=by omega
  rw[if_neg hlow0]at hbg;simp only[dM,cD]at hbg;refine S.f36 hE g7 (by show _<_;exact Nat.lt_of_le_of_lt (Nat.le_trans (Nat.le_add_right _ 6) hbg) (by omega)) _ λH8 g8 =>?_
  have sl8:=shigh g8.ext;simp only[sl8,aB];refine S.f56 hE f (by omega) hhigh g8 (by rw[cD];exact Nat.lt_of_le_of_lt (Nat.add_le_add_right (Nat.add_le_add_right (Nat.add_le_add_right (Nat.le_sub_of_add_le hbg) 1) _) 1) (by omega)) hQ
end
end
section
set_option maxRecDepth 20000
section
variable {E:Sy}{H H' H0 Z:AH}{Q:Value->AH->Prop}{X:List Res}{lw m:Nat}{s:LwD}
theorem yD:∀ (l:List (BitVec 32)) (A:List (BitVec 32×Nat)) (s:LwD),(l.foldl (LwD.end1 A) s).big=s.big+2*l.length
 | [],_,s=>by simp
 | a :: l,A,s=>by
  rw[List.foldl_cons,yD l A _];simp only[LwD.end1,cD,List.length_cons];omega
theorem S.f58(hE:aW E)(h:Lw H0 Z H lw m s X)(hb:s.big<2 ^ 26)(hQ:∀ H',Lw H0 Z H' lw m s.ends X->Q (.tuple #[]) H'):E.call 60 [ptr lw 0] H Q:=by
 apply hE.f58;obtain⟨lv,ov,h⟩:=h;have hbx:=h.box (k:=0) rfl;have hrw:=h.rows (k:=3) (sz:=1) (v:=ov) (rows:=nY s.order) rfl;have hlen:(nY s.order).length=s.order.length:=by simp[nY]
 have hlv:=hrw.lenSlc;rw[hlen]at hlv;have i0:vi 0=vi ((0:Nat):Int):=rfl;simp only[F.f58,hbx,hlv,i0,aB];refine aY.count s.order.length (λk ls H'=>ls=[ptr lw 0,ov,vi s.order.length,vi k]/\∃ s1,s1=(s.order.take k).foldl (LwD.end1 s.acts) s/\s1.acts=s.acts/\s1.order=s.order/\LwO H0 Z H' lw m ov s1 X) ?_ ⟨rfl,s,by simp,rfl,rfl,lv,h⟩
 rintro k _ H1 X1 hk ih ⟨rfl,s1,hs1,ha,ho,lv1,g⟩;have hob:s.order.length<=s.big:=by unfold LwD.big;omega
 rcases Nat.lt_or_ge k s.order.length with hlt | hge
 ·have hlt':(k:Int)<s.order.length:=by omega
  have hbg:=yD (s.order.take k) s.acts s;rw[<- hs1,List.length_take]at hbg;have hrw:=g.rows (k:=3) (sz:=1) (v:=ov) (rows:=nY s1.order) rfl;rw[ho]at hrw;obtain⟨bb,o,f1,f2⟩:=hrw.ix (i:=k) (by omega)
  have hrow:(nY s.order)[k]'(by omega)=[u32 s.order[k]]:=by simp[nY]
  rw[hrow]at f2;have hce:((H1.get bb).cell o)=some (u32 s.order[k]):=by have:=mF f2 (j:=0) (by omega);simpa using this
  have hb1:=g.box (k:=0) rfl
  have hlk:AM.look 0 (vi 0) false (.map (some m)) (u32 s.order[k]) H1=some (vi (jG s.order[k] s.acts:Nat)):=by
   have:=(g.mapAt (k:=2) (fk:=u32) (fv:=jI) (r:=m) (l:=s1.acts) rfl).look_nat s.order[k] false;rw[ha]at this;exact this
  have hstep:(s.order.take (k+1)).foldl (LwD.end1 s.acts) s=LwD.end1 s.acts s1 s.order[k]:=by
   rw[List.take_succ,List.getElem?_eq_getElem hlt,List.foldl_append,<- hs1];rfl
  have hinc:=bN (i:=k) (by omega)
  generalize s.order[k]=a at *;simp only[F.f58_l1,aF,hlt',decide_true,f1,hce,hb1,hlk,aB];refine aN6 hE ⟨lv1,g⟩ (by omega) _ λH2 g2 =>?_
  simp only[aB];refine S.f18 hE a λH3 e3 =>?_;have hv:rQ 6 0 0 a=(aMS a).v:=rfl;rw[hv];refine aNi hE (g2.grow e3) (by rw[cD];omega) _ λH4 g4 =>?_
  simp only[hinc,aB];exact ih hlt _ _ ⟨rfl,_,hstep.symm,ha,ho,g4⟩
 ·have hke:k=s.order.length:=by omega
  subst hke;rw[List.take_length]at hs1;have hlt':¬ ((s.order.length:Int)<s.order.length):=by omega
  simp only[F.f58_l1,aF,hlt',decide_false,aB];refine hQ _ ⟨lv1,ov,?_⟩;unfold LwD.ends;rw[<- hs1];exact g
theorem S.f39(hE:aW E)(h:Lw H0 Z H lw m s X)(hb:s.big<2 ^ 30)(hQ:∀ v H',Ext H0 H'->Rows H' 7 v (bH s.parts)->Q v H'):E.call 61 [ptr lw 0] H Q:=by
 apply hE.f39;obtain⟨lv,ov,h⟩:=h;have g:=h.newroom 7;have hbx:=g.box (k:=0) (b:=lw) (c:=[lv,vi s.last,vi s.other,.map (some m),ov]) rfl;have hrw:=g.rows (k:=1) (sz:=7) (v:=lv) (rows:=bH s.parts) rfl;have hlen:(bH s.parts).length<2 ^ 30:=by unfold LwD.big at hb;simp only[bH,List.length_map];omega
 have hbS:bV 0 7 #[(.int .u8 0),vi 0,vi 0,(.int .u16 0),(.int .u8 0),(.int .u8 0),(.int .u32 0)] []=some (.cells [] none,fI 0 0):=aHU 7 [u8 0#8,vi 0,vi 0,u16 0#16,u8 0#8,u8 0#8,u32 0#32] rfl
 have hk:(lwL lw m lv ov s++X++[bB 7 (slc H.next 0 0 0) []])[4+X.length]? = some (bB 7 (slc H.next 0 0 0) []):=by
  have hll:(lwL lw m lv ov s++X).length=4+X.length:=by rw[List.length_append];rfl
  rw[List.getElem?_append_right (by omega),hll,Nat.sub_self];rfl
 obtain⟨v',H3,a1,a2,g2⟩:=g.app (k:=4+X.length) (bytes:=32) hk hrw (by simp[bH,aG.cells]) (by decide) (by decide) (by simp;omega) (by simp;omega)
 simp only[F.f39,kL,hbS,AM.aT,cT,hbx,a1,aB]
 have hl4:4+X.length<(lwL lw m lv ov s++X++[bB 7 (slc H.next 0 0 0) []]).length:=by
  have hll:(lwL lw m lv ov s++X).length=4+X.length:=by rw[List.length_append];rfl
  rw[List.length_append,hll];simp
 refine hQ _ _ g2.ext (g2.rows (k:=4+X.length) (sz:=7) ?_);rw[List.getElem?_set_self hl4,List.nil_append]
end
end
section
set_option maxRecDepth 20000
def wK(c:dC):Nat:=wB c.branches+1
def wP(p:jS):Nat:=20+8*p.cases.length+(p.cases.map wK).sum
section
variable {E:Sy}{H H' H0 Z:AH}{Q:Value->AH->Prop}{X:List Res}{lw m:Nat}{s:LwD}
theorem qM:∀ (l:List dC) (x:LwD×List (BitVec 32×Nat)),(LwD.starts l x).1.big=x.1.big+l.length
 | [],x=>by simp[LwD.starts]
 | c :: l,x=>by
  show(LwD.starts l (LwD.start1 x c)).1.big=_
  rw[qM l];simp only[LwD.start1,dM,List.length_cons];omega
theorem aJl(st:List (BitVec 32×Nat))(s:LwD)(c:dC):(LwD.case1 st s c).big<=s.big+wK c:=by
 unfold LwD.case1 wK;have:=aD1 c.branches (s.put (cF (jG c.number st)));rw[cD]at this;omega
theorem uC(st:List (BitVec 32×Nat)):∀ (l:List dC) (s:LwD),(LwD.cases st l s).big<=s.big+(l.map wK).sum
 | [],s=>by simp[LwD.cases]
 | c :: l,s=>by
  have h1:=uC st l (LwD.case1 st s c);have h2:=aJl st s c
  show(LwD.cases st l (LwD.case1 st s c)).big<=_
  simp only[List.map_cons,List.sum_cons];omega
theorem aLk(s:LwD)(n:Nat):(s.setO n).big=s.big:=rfl
theorem aFD(d:BitVec 32):(rY d).big<=2:=by
 unfold rY;have h1:=aAV LwD.zero d;have h0:LwD.zero.big=0:=rfl;rw[aLk];omega
theorem aFG(d:BitVec 32):(low2 d).1.big<=4:=by
 unfold low2;have h1:=aAV (rY d) 2147483648#32;have h0:=aFD d;omega
theorem aCp(d:BitVec 32):(lower0 d).big<=8:=by
 unfold lower0;have h1:=aFG d;simp only[cD,dM];omega
theorem Lw.mapset{st:List (BitVec 32×Nat)}{sm:Nat}(h:Lw H0 Z H lw m s (dP u32 jI sm st :: X))(k:BitVec 32)(v:Nat):∃ H',eD 0 (.map (some sm)) (u32 k) (vi v) H=some H'/\Lw H0 Z H' lw m s (dP u32 jI sm (fB k v st) :: X):=by
 obtain⟨lv,ov,h⟩:=h;obtain⟨H2,m1,g2⟩:=h.mapset (n:=4) (r:=sm) (l:=st) (fk:=u32) (fv:=jI) rfl iA k v;exact⟨H2,m1,lv,ov,g2⟩
theorem Lw.look2{st:List (BitVec 32×Nat)}{sm:Nat}(h:Lw H0 Z H lw m s (dP u32 jI sm st :: X))(k:BitVec 32):AM.look 0 (vi 0) false (.map (some sm)) (u32 k) H=some (vi (jG k st:Nat)):=by
 obtain⟨lv,ov,h⟩:=h;exact(h.mapAt (k:=4) (fk:=u32) (fv:=jI) (r:=sm) (l:=st) rfl).look_nat k false
theorem Lw.setOther(h:Lw H0 Z H lw m s X)(n:Nat):∃ H',aZ (ptr lw 2) (vi n) H=some H'/\Lw H0 Z H' lw m (s.setO n) X:=by
 obtain⟨lv,ov,h⟩:=h;have hbx:=h.box (k:=0) rfl
 have hst:aZ (ptr lw 2) (vi n) H=some (H.put lw (.cells [lv,vi s.last,vi n,.map (some m),ov] none)):=by
  rw[eX,if_pos (show plain1 (vi n)=true from rfl),hbx];rfl
 exact⟨_,hst,lv,ov,h.put (k:=0) rfl [lv,vi s.last,vi n,.map (some m),ov]⟩
theorem aE4{α:Type}(f:α->Nat){l:List α}{k:Nat}(hk:k<l.length):((l.take k).map f).sum+f l[k]<=(l.map f).sum:=by
 have h1:l=l.take k++l[k] :: l.drop (k+1):=by rw[List.getElem_cons_drop,List.take_append_drop]
 conv=>rhs;rw[h1]
 simp only[List.map_append,List.map_cons,List.sum_append,List.sum_cons];omega
theorem aKr(hE:aW E){l:List dC}{v:Value}(hv:cO (lO 0) H0 2 v l)(hl:l.length<2 ^ 24)(hlb:∀ c∈l,c.branches.length<2 ^ 30){st:List (BitVec 32×Nat)}{sm:Nat}(h:Lw H0 Z H lw m s [dP u32 jI sm st])(hb:s.big+(l.map wK).sum<2 ^ 25)(hQ:∀ v H',Ext H0 H'->Rows H' 7 v (bH (LwD.cases st l s).ends.parts)->Q v H'):
  lp5 (F.f53_l2 E Q) [ptr lw 0,.map (some sm),v,vi l.length,vi 0] H:=by
 have i0:vi 0=vi ((0:Nat):Int):=rfl;rw[i0];refine aY.count l.length (λk ls H'=>ls=[ptr lw 0,.map (some sm),v,vi l.length,vi k]/\Lw H0 Z H' lw m (LwD.cases st (l.take k) s) [dP u32 jI sm st]) ?_ ⟨rfl,by simpa[LwD.cases] using h⟩
 rintro k _ H1 X1 hk ih ⟨rfl,g⟩;have hbg:=uC st (l.take k) s;rcases Nat.lt_or_ge k l.length with hlt | hge
 ·obtain⟨bb,o,cs,f1,f2,f3⟩:=hv.ix hlt
  have f2:=g.ext.row f2;obtain⟨bv,rfl,f4⟩:=f3;have hbv:plain1 bv=true:=by obtain⟨rows,h1,_⟩:=f4;exact h1.plain
  have lo:aE 2 (ptr bb o) H1=some (.agg [u32 l[k].number,bv].toArray):=by rw[aL,f2];rfl
  have hlt':(k:Int)<l.length:=by omega
  have hsum:=aE4 wK hlt
  have hstep:LwD.cases st (l.take (k+1)) s=LwD.case1 st (LwD.cases st (l.take k) s) l[k]:=by
   unfold LwD.cases;rw[List.take_succ,List.getElem?_eq_getElem hlt,List.foldl_append];rfl
  have hlk:=hlb l[k] (List.getElem_mem hlt);have hinc:=bN (i:=k) (by omega)
  generalize l[k]=c at *;generalize LwD.cases st (l.take k) s=s1 at *;have hst:aI 2 (ptr H1.next 0) (.agg [u32 c.number,bv].toArray) (H1.new (.cells [(.int .u32 0),(.slice none 0 0)] none))=some (H1.new (.cells [u32 c.number,bv] none)):=pU rfl rfl (by simp[hbv])
  have g1:=g.newbox [u32 c.number,bv];have b1:=g1.box;have k1:=g1.look2 c.number;have hw:wK c=wB c.branches+1:=rfl;simp only[F.f53_l2,aF,hlt',decide_true,f1,lo,bE,hst,b1,k1,aB];generalize H1.new (.cells [u32 c.number,bv] none)=H2 at *;generalize H1.next=t at *;refine S.f36 hE g1 (by omega) _ λH3 g2 =>?_
  have b3:=g2.box;simp only[b3,aB];refine S.f55 hE f4 g2 (by rw[cD];omega) hlk λH4 g3 =>?_
  simp only[hinc,aB];refine ih hlt _ _ ⟨rfl,?_⟩;rw[hstep];exact g3.dropLast (X:=[dP u32 jI sm st])
 ·have hke:k=l.length:=by omega
  subst hke;rw[List.take_length]at g hbg;have hlt':¬ ((l.length:Int)<l.length):=by omega
  simp only[F.f53_l2,aF,hlt',decide_false,aB];refine S.f58 hE g (by omega) λH2 g2 =>?_
  have hbe:=yD (LwD.cases st l s).order (LwD.cases st l s).acts (LwD.cases st l s);have hob:(LwD.cases st l s).order.length<=(LwD.cases st l s).big:=by unfold LwD.big;omega
  simp only[aB];refine S.f39 hE g2 ?_ hQ
  show((LwD.cases st l s).order.foldl (LwD.end1 (LwD.cases st l s).acts) (LwD.cases st l s)).big<_
  omega
theorem S.f53(hE:aW E)(p:jS)(cs:List Value)(hp:sQ H p cs)(hb:wP p<2 ^ 24)(hQ:∀ v H',Ext H H'->Rows H' 7 v (bH (hU p).parts)->Q v H'):E.call 29 [.agg cs.toArray] H Q:=by
 apply hE.f53;obtain⟨v,rfl,hv⟩:=hp;have x1:Ext H (H.new (.cells [v,u32 p.default] none)):=(Ext.refl _).new _;have hb1:=AH.get_new_self H (.cells [v,u32 p.default] none);have hlv:=hv.lenSlc;have hv1:=hv.sub (λ_ _ _ _ h e=>lO.sub h e) x1.sub;have hmw:∀ (H:AH) (K:Value->AH->Prop),mY H K=K (.map (some H.next)) (H.new (.map [] 0 true)):=λ_ _=>rfl;simp only[F.f53,aX,AM.aT,aR,List.toList_toArray,hmw,aB];have hn1:H.next+1=(H.new (.cells [v,u32 p.default] none)).next:=rfl;rw[hn1];generalize H.new (.cells [v,u32 p.default] none)=H1 at *;generalize H.next=t1 at *;clear hn1;have g1:=(Has.begin (Ext.refl H1) (Sub.refl H1)).newmap u32 jI;have hbv:∀ n:Nat,aK [(0,2),(2,1),(3,1),(4,1)] #[(.slice none 0 0),vi 0,vi 0,(.map none),(.slice none 0 0)] [(2,.map (some n))]=some (.agg [cB,vi ((0:Nat):Int),vi ((0:Nat):Int),.map (some n),cB].toArray):=λ_=>rfl;have x2:Ext H1 (H1.new (.map [] 0 true)):=(Ext.refl H1).new _;have hb2:=x2.cells hb1;simp only[hbv,aX,AM.aT,aR,List.toList_toArray,aB];have hnx:(H1.new (.map [] 0 true)).next=H1.next+1:=rfl;generalize H1.new (.map [] 0 true)=H2 at *;generalize H1.next=m at *;have g2:=((g1.newbox [cB,vi ((0:Nat):Int),vi ((0:Nat):Int),.map (some m),cB]).nils 7).nils 1;have x3:=x2.new (.cells [cB,vi ((0:Nat):Int),vi ((0:Nat):Int),.map (some m),cB] none);generalize H2.new (.cells [cB,vi ((0:Nat):Int),vi ((0:Nat):Int),.map (some m),cB] none)=H3 at *;generalize H2.next=lw at *;have g3:Lw H1 H1 H3 lw m LwD.zero []:=⟨cB,cB,g2.perm ((List.Perm.swap _ _ _).trans ((List.Perm.swap _ _ _).cons _))⟩;have hb3:=x3.cells hb1;have kK:(.int .u32 2147483648:Value)=u32 2147483648#32:=rfl;have kA:(.int .u32 3221225534:Value)=u32 3221225534#32:=rfl;have k16:(.int .u16 16:Value)=u16 16#16:=rfl;have k4:(.int .u32 4:Value)=u32 4#32:=rfl;have k0:(.int .u32 0:Value)=u32 0#32:=rfl;have i0:vi 0=vi ((0:Nat):Int):=rfl;have hpc:wP p=20+8*p.cases.length+(p.cases.map wK).sum:=rfl;have hv4:∀ k,rQ 32 0 0 k=(dE k).v:=λ_=>rfl;simp only[hb3,aB];refine S.f54 hE g3 (by decide) p.default λH4 g4 =>?_
 obtain⟨H5,st5,g5⟩:=g4.setOther (LwD.zero.act p.default).2;have g5:Lw H1 H1 H5 lw m (rY p.default) []:=g5;have hg1:=aFD p.default;have hg2:=aFG p.default;simp only[st5,kK,aB];refine S.f54 hE g5 (by omega) 2147483648#32 λH6 g6 =>?_
 have g6:Lw H1 H1 H6 lw m (low2 p.default).1 []:=g6;simp only[aB];refine S.f38 hE g6 (by omega) λH7 g7 =>?_
 simp only[k4,aB];refine S.f16 hE 4#32 λH8 e8 =>?_;rw[hv4];refine S.f40 hE (g7.grow e8) (by simp only[dM];omega) _ λH9 g9 =>?_
 simp only[k16,kA,aB];refine S.f37 hE g9 (by simp only[dM,cD];omega) 16#16 _ _ _ λH10 g10 =>?_
 simp only[aB];refine S.f36 hE g10 (by simp only[dM,cD];omega) _ λH11 g11 =>?_
 have g11:Lw H1 H1 H11 lw m (lower0 p.default) []:=g11;have hg0:=aCp p.default;simp only[hmw,aB]
 have g12:Lw H1 H1 (H11.new (.map [] 0 true)) lw m (lower0 p.default) [dP u32 jI H11.next ([]:List (BitVec 32×Nat))]:=by
  obtain⟨lv,ov,g⟩:=g11;have:=g.newmap u32 jI;rw[List.append_assoc]at this;exact⟨lv,ov,this⟩
 have hb12:=g12.ext.cells hb1;generalize H11.new (.map [] 0 true)=H12 at *;generalize H11.next=sm at *;simp only[hb12,hlv,i0,aB];have hlow3:eH p=LwD.starts p.cases (lower0 p.default,[]):=rfl;have hbs:(LwD.starts p.cases (lower0 p.default,[])).1.big=(lower0 p.default).big+p.cases.length:=qM p.cases (lower0 p.default,[]);refine aY.count p.cases.length (λk ls H'=>ls=[ptr t1 0,ptr lw 0,.map (some sm),v,vi p.cases.length,vi k]/\Lw H1 H1 H' lw m (LwD.starts (p.cases.take k) (lower0 p.default,[])).1 [dP u32 jI sm (LwD.starts (p.cases.take k) (lower0 p.default,[])).2]) ?_ ⟨rfl,by simpa[LwD.starts] using g12⟩
 rintro k _ H13 X1 hk ih ⟨rfl,g⟩;have hbg:(LwD.starts (p.cases.take k) (lower0 p.default,[])).1.big=(lower0 p.default).big+(p.cases.take k).length:=qM (p.cases.take k) (lower0 p.default,[]);rw[List.length_take]at hbg;rcases Nat.lt_or_ge k p.cases.length with hlt | hge
 ·obtain⟨bb,o,cs,f1,f2,f3⟩:=hv1.ix hlt
  have f2:=g.ext.row f2;obtain⟨bv,rfl,f4⟩:=f3;have hbv:plain1 bv=true:=by obtain⟨rows,h1,_⟩:=f4;exact h1.plain
  have lo:aE 2 (ptr bb o) H13=some (.agg [u32 p.cases[k].number,bv].toArray):=by rw[aL,f2];rfl
  have hlt':(k:Int)<p.cases.length:=by omega
  have hstep:LwD.starts (p.cases.take (k+1)) (lower0 p.default,[])=LwD.start1 (LwD.starts (p.cases.take k) (lower0 p.default,[])) p.cases[k]:=by
   unfold LwD.starts;rw[List.take_succ,List.getElem?_eq_getElem hlt,List.foldl_append];rfl
  have hinc:=bN (i:=k) (by omega)
  generalize p.cases[k]=c at *;generalize LwD.starts (p.cases.take k) (lower0 p.default,[])=x1 at *;have hst:aI 2 (ptr H13.next 0) (.agg [u32 c.number,bv].toArray) (H13.new (.cells [(.int .u32 0),(.slice none 0 0)] none))=some (H13.new (.cells [u32 c.number,bv] none)):=pU rfl rfl (by simp[hbv])
  have g1:=g.newbox [u32 c.number,bv];have b1:=g1.box;simp only[F.f53_l1,aF,hlt',decide_true,f1,lo,bE,hst,b1,aB];generalize H13.new (.cells [u32 c.number,bv] none)=H14 at *;generalize H13.next=t at *;refine S.f38 hE g1 (by omega) λH15 g2 =>?_
  have b2:=g2.box;refine⟨by rw[eF,eF,b1,b2],?_⟩
  obtain⟨H16,m1,g3⟩:=g2.mapset (X:=[bJ t [u32 c.number,bv]]) c.number (x1.1.last+1);simp only[m1,hinc,aB];refine ih hlt _ _ ⟨rfl,?_⟩;rw[hstep];exact g3.dropLast (X:=[dP u32 jI sm _])
 ·have hke:k=p.cases.length:=by omega
  subst hke;rw[List.take_length]at g hbg;have hlt':¬ ((p.cases.length:Int)<p.cases.length):=by omega
  simp only[F.f53_l1,aF,hlt',decide_false,k0,aB];have g:Lw H1 H1 H13 lw m (eH p).1 [dP u32 jI sm (eH p).2]:=g;refine S.f16 hE 0#32 λH14 e14 =>?_;rw[hv4];have hb3:(eH p).1.big<=8+p.cases.length:=by rw[hlow3,hbs];omega
  refine S.f40 hE (g.grow e14) (by omega) _ λH15 g2 =>?_
  have hb15:=g2.ext.cells hb1;simp only[hb15,aB];refine S.f56 hE (X:=[]) (p.cases.length+1) (Nat.lt_succ_self _) hv1 g2 (by rw[cD];omega) λH16 g3 =>?_
  have hbc:=nL (eH p).2 (p.cases.length+1) p.cases ((eH p).1.put (bI (dE 0#32))) (Nat.lt_succ_self _);rw[cD]at hbc;have g3:Lw H1 H1 H16 lw m (jC p) [dP u32 jI sm (eH p).2]:=g3;have hbc:(jC p).big+(if p.cases.length=0 then 0 else 6)<=(eH p).1.big+1+7*p.cases.length+1:=hbc;have hb16:=g3.ext.cells hb1;simp only[hb16,hlv,aB];refine aKr hE hv1 (by omega) (λc hc =>?_) g3 (by omega) λv' H' e' r'=>hQ v' H' (x1.trans e') r'
  have h1:wK c<=(p.cases.map wK).sum:=by
   obtain⟨j,hj,rfl⟩:=List.getElem_of_mem hc;have:=aE4 wK hj;omega
  have h2:c.branches.length<=(c.branches.map wC).sum:=by
   generalize c.branches=bs
   induction bs with
   | nil=>simp
   | cons b bs ih =>
    have:wC b=12*b.conds.length+5:=rfl;simp only[List.length_cons,List.map_cons,List.sum_cons];omega
  have h3:wK c=(c.branches.map wC).sum+1+1:=rfl;omega
end
end
section
set_option maxRecDepth 20000
def kH(R:List Nat):List Int:=R.map λ(n:Nat)=>(n:Int)
theorem qF{R:List Nat}{n:Nat}:(n:Int)∈kH R↔n∈R:=by
 unfold kH;simp only[List.mem_map];constructor
 ·rintro⟨m,h,e⟩
  have:m=n:=by omega
  rwa [<- this]
 ·exact λh=>⟨n,h,rfl⟩
structure LI(P:List aG)(last:Nat)(R:List Nat):Prop where
 nd:(bQ P++kH R).Nodup
 le:∀ n∈R,n<=last
 hle:∀ n∈bQ P,n<=(last:Int)
 fw:∀ a p b,P=a++p :: b->(p.kind=4#8->p.to∈bQ b++kH R)/\(p.kind=3#8->p.to∈bQ b++kH R/\p.els∈bQ b++kH R)
 ok:∀ p∈P,dK p
theorem LI.nil:LI [] 0 []:=⟨by simp[bQ,kH],by simp,by simp[bQ],λa p b h=>by simp at h,by simp⟩
theorem LI.mono{P:List aG}{l l':Nat}{R R':List Nat}(h:LI P l R)(hn:(bQ P++kH R').Nodup)(hl:l<=l')(hle:∀ n∈R',n<=l')(hs:∀ n∈R,n∈R'):LI P l' R':=by
 refine⟨hn,hle,λn h1 =>?_,λa p b e =>?_,h.ok⟩
 ·have:=h.hle n h1;omega
 ·have hsub:∀ x,x∈bQ b++kH R->x∈bQ b++kH R':=by
   intro x hx;rcases List.mem_append.1 hx with h1 | h1
   ·exact List.mem_append_left _ h1
   ·refine List.mem_append_right _ ?_
    obtain⟨m,hm,rfl⟩:=List.mem_map.1 h1;exact qF.2 (hs m hm)
  obtain⟨f1,f2⟩:=h.fw a p b e;exact⟨λk=>hsub _ (f1 k),λk=>⟨hsub _ (f2 k).1,hsub _ (f2 k).2⟩⟩
theorem LI.new{P:List aG}{l:Nat}{R:List Nat}(h:LI P l R):LI P (l+1) ((l+1) :: R):=by
 refine h.mono ?_ (by omega) (λn hn =>?_) λn hn=>List.mem_cons_of_mem _ hn
 ·show(bQ P++((l+1:Nat):Int) :: kH R).Nodup
  refine(List.perm_middle.nodup_iff).2 ?_;refine List.nodup_cons.2 ⟨λhm =>?_,h.nd⟩;rcases List.mem_append.1 hm with h1 | h1
  ·have:=h.hle _ h1;omega
  ·have:=h.le _ (qF.1 h1);omega
 ·rcases List.mem_cons.1 hn with h1 | h1
  ·omega
  ·have:=h.le n h1;omega
theorem LI.skip{P:List aG}{l:Nat}{R:List Nat}(h:LI P l R):LI P (l+1) R :=
 h.mono h.nd (by omega) (λn hn=>by have:=h.le n hn;omega) λ_ hn=>hn
theorem LI.perm{P:List aG}{l:Nat}{R R':List Nat}(h:LI P l R)(p:R.Perm R'):LI P l R' :=
 h.mono (((List.Perm.refl _).append (p.map _)).nodup_iff.1 h.nd) (Nat.le_refl _) (λn hn=>h.le n (p.mem_iff.2 hn)) λn hn=>p.mem_iff.1 hn
theorem LI.put{P:List aG}{l:Nat}{R:List Nat}(h:LI P l R){p:aG}(hp:dK p)(h1:p.kind≠1#8)(h4:p.kind=4#8->p.to∈kH R)(h3:p.kind=3#8->p.to∈kH R/\p.els∈kH R):LI (P++[p]) l R:=by
 have hh:bQ (P++[p])=bQ P:=by rw[lS];simp[bQ,h1]
 refine⟨by rw[hh];exact h.nd,h.le,by rw[hh];exact h.hle,λa q b e =>?_,λq hq =>?_⟩
 ·rcases List.append_eq_append_iff.1 e with ⟨c,e1,e2⟩ | ⟨c,e1,e2⟩
  ·
   cases c with
   | nil =>
    simp only[List.nil_append,List.cons.injEq]at e2;obtain⟨rfl,rfl⟩:=e2;exact⟨λk=>List.mem_append_right _ (h4 k),λk=>⟨List.mem_append_right _ (h3 k).1,List.mem_append_right _ (h3 k).2⟩⟩
   | cons x c =>
    have:=congrArg List.length e2;simp at this
  ·cases c with
   | nil =>
    simp only[List.nil_append,List.cons.injEq]at e2;obtain⟨rfl,rfl⟩:=e2;exact⟨λk=>List.mem_append_right _ (h4 k),λk=>⟨List.mem_append_right _ (h3 k).1,List.mem_append_right _ (h3 k).2⟩⟩
   | cons x c =>
    simp only[List.cons_append,List.cons.injEq]at e2;obtain⟨rfl,rfl⟩:=e2;have hb:bQ (c++[p])=bQ c:=by rw[lS];simp[bQ,h1]
    rw[hb];exact h.fw a q c e1
 ·rcases List.mem_append.1 hq with h2 | h2
  ·exact h.ok q h2
  ·rw[List.mem_singleton.1 h2];exact hp
theorem LI.here{P:List aG}{l:Nat}{R:List Nat}{n:Nat}(h:LI P l (n :: R)):LI (P++[cF n]) l R:=by
 have hh:bQ (P++[cF n])=bQ P++[(n:Int)]:=by rw[lS];rfl
 refine⟨by rw[hh,List.append_assoc];exact h.nd,λm hm=>h.le m (List.mem_cons_of_mem _ hm),λm hm =>?_,λa q b e =>?_,λq hq =>?_⟩
 ·rw[hh]at hm
  rcases List.mem_append.1 hm with h2 | h2
  ·exact h.hle m h2
  ·rw[List.mem_singleton.1 h2]
   have:=h.le n (List.mem_cons_self ..);omega
 ·have last:q=cF n->(q.kind=4#8->q.to∈bQ b++kH R)/\(q.kind=3#8->q.to∈bQ b++kH R/\q.els∈bQ b++kH R):=by
   rintro rfl;exact⟨λk=>absurd k (by simp[cF]),λk=>absurd k (by simp[cF])⟩
  rcases List.append_eq_append_iff.1 e with ⟨c,e1,e2⟩ | ⟨c,e1,e2⟩
  ·cases c with
   | nil =>
    simp only[List.nil_append,List.cons.injEq]at e2;exact last e2.1.symm
   | cons x c =>
    have:=congrArg List.length e2;simp at this
  ·cases c with
   | nil =>
    simp only[List.nil_append,List.cons.injEq]at e2;exact last e2.1
   | cons x c =>
    simp only[List.cons_append,List.cons.injEq]at e2;obtain⟨rfl,rfl⟩:=e2;have hb:bQ (c++[cF n])=bQ c++[(n:Int)]:=by rw[lS];rfl
    rw[hb];have hcn:kH (n :: R)=(n:Int) :: kH R:=rfl;have hf:=h.fw a q c e1;rw[hcn]at hf;simp only[List.append_assoc,List.singleton_append];exact hf
 ·rcases List.mem_append.1 hq with h2 | h2
  ·exact h.ok q h2
  ·rw[List.mem_singleton.1 h2];exact .inl rfl
theorem LI.wf{P:List aG}{l:Nat}(h:LI P l []):wfL P:=by
 intro a p b e;obtain⟨f1,f2⟩:=h.fw a p b e;have hc:kH []=[]:=rfl;rw[hc,List.append_nil]at f1 f2;refine⟨λk hm =>?_,f1,f2⟩;have hn:=h.nd;rw[hc,List.append_nil,e,lS,eW,if_pos k]at hn;have:=(List.nodup_append.1 hn).2.1;exact(List.nodup_cons.1 this).1 hm
def actN(s:LwD):List Nat:=s.acts.map Prod.snd
theorem aOh(n:Int)(b:Bool):(dE (dR n b)).k.toNat % 4=0/\(dE (dR n b)).k.toNat<=60:=by
 have hc:fS n<=5:=by
  unfold fS
  split<;>split<;>omega
 have:(dE (dR n b)).k.toNat=16+8*fS n+(if b then 4 else 0):=by
  show(BitVec.ofNat 32 _).toNat=_
  rw[BitVec.toNat_ofNat,Nat.mod_eq_of_lt]
  split<;>omega
 rw[this]
 split<;>omega
theorem aHu{x:bL}(h:(x.code=32#16/\x.k.toNat % 4=0/\x.k.toNat<=60)\/x.code=84#16\/x.code=6#16):dK (bI x) := .inr (.inr (.inl ⟨rfl,h⟩))
theorem LI.load{P:List aG}{l:Nat}{R:List Nat}(h:LI P l R)(n:Int)(b:Bool):LI (P++[bI (dE (dR n b))]) l R :=
 h.put (aHu (.inl ⟨rfl,aOh n b⟩)) (by simp[bI]) (λk=>absurd k (by simp[bI])) λk=>absurd k (by simp[bI])
theorem LI.plain{P:List aG}{l:Nat}{R:List Nat}(h:LI P l R){x:bL}(hx:(x.code=32#16/\x.k.toNat % 4=0/\x.k.toNat<=60)\/x.code=84#16\/x.code=6#16):LI (P++[bI x]) l R :=
 h.put (aHu hx) (by simp[bI]) (λk=>absurd k (by simp[bI])) λk=>absurd k (by simp[bI])
theorem LI.mask{P:List aG}{l:Nat}{R:List Nat}(h:LI P l R)(k:BitVec 32):LI (P++[bI (rU k)]) l R:=h.plain (.inr (.inl rfl))
theorem LI.cmp{P:List aG}{l:Nat}{R:List Nat}(h:LI P l R){how:BitVec 16}(hh:how=16#16\/how=32#16\/how=48#16)(k:BitVec 32){t e:Nat}(ht:t∈R)(he:e∈R):LI (P++[pIf how k t e]) l R :=
 h.put (.inr (.inr (.inr ⟨rfl,by
  show(5#16|||how|||0#16)=21#16\/(5#16|||how|||0#16)=37#16\/(5#16|||how|||0#16)=53#16
  rcases hh with rfl | rfl | rfl<;>decide⟩))) (by simp[pIf]) (λk=>absurd k (by simp[pIf])) λ_=>⟨qF.2 ht,qF.2 he⟩
theorem LI.goto{P:List aG}{l:Nat}{R:List Nat}(h:LI P l R){t:Nat}(ht:t∈R):LI (P++[oM t]) l R :=
 h.put (.inr (.inl rfl)) (by simp[oM]) (λ_=>qF.2 ht) λk=>absurd k (by simp[oM])
theorem LI.second{s:LwD}{R:List Nat}{n:Nat}(h:LI s.parts s.last (n :: R))(c:bA):LI (s.second c n).parts (s.second c n).last R:=h.here.load c.arg false
theorem LI.order64{s:LwD}{R:List Nat}(h:LI s.parts s.last R)(c:bA){how:BitVec 16}(hh:how=16#16\/how=32#16\/how=48#16){yes no:Nat}(hy:yes∈R)(hn:no∈R):LI (s.order64 c how yes no).parts (s.order64 c how yes no).last R:=by
 have h1:=h.new.new;have h2:=h1.cmp (how:=32#16) (by simp) (cW c.value) (t:=yes) (e:=s.last+1) (by simp[hy]) (by simp)
 have h3:=(h2.perm (List.Perm.swap _ _ _)).here;have h4:=h3.cmp (how:=16#16) (by simp) (cW c.value) (t:=s.last+2) (e:=no) (by simp) (by simp[hn])
 have h5:=h4.here.load c.arg false;exact h5.cmp hh (fK c.value) hy hn
theorem LI.cond{s:LwD}{R:List Nat}(h:LI s.parts s.last R)(c:bA){yes no:Nat}(hy:yes∈R)(hn:no∈R):LI (s.cond c yes no).parts (s.cond c yes no).last R:=by
 unfold LwD.cond;have hnew:=h.new.load c.arg true;have hskip:LI (s.new.put (bI (dE (dR c.arg true)))).parts (s.new.put (bI (dE (dR c.arg true)))).last R:=h.skip.load c.arg true;have hnew:LI (s.new.put (bI (dE (dR c.arg true)))).parts (s.new.put (bI (dE (dR c.arg true)))).last ((s.last+1) :: R):=hnew;have hy':yes∈(s.last+1) :: R:=List.mem_cons_of_mem _ hy;have hn':no∈(s.last+1) :: R:=List.mem_cons_of_mem _ hn;have hm:s.last+1∈(s.last+1) :: R:=List.mem_cons_self ..;generalize s.new.put (bI (dE (dR c.arg true)))=s1 at *;generalize s.last+1=next at *;unfold LwD.condOn
 split
 ·have h2:LI (s1.put (pIf 16#16 (cW c.value) next no)).parts (s1.put (pIf 16#16 (cW c.value) next no)).last (next :: R):=hnew.cmp (how:=16#16) (by simp) (cW c.value) hm hn'
  exact(LI.second h2 c).cmp (how:=16#16) (by simp) (fK c.value) hy hn
 split
 ·have h2:LI (s1.put (pIf 16#16 (cW c.value) next yes)).parts (s1.put (pIf 16#16 (cW c.value) next yes)).last (next :: R):=hnew.cmp (how:=16#16) (by simp) (cW c.value) hm hy'
  exact(LI.second h2 c).cmp (how:=16#16) (by simp) (fK c.value) hn hy
 split
 ·exact LI.order64 hskip c (by simp) hy hn
 split
 ·exact LI.order64 hskip c (by simp) hy hn
 split
 ·exact LI.order64 hskip c (by simp) hn hy
 split
 ·exact LI.order64 hskip c (by simp) hn hy
 split
 ·have h2:LI ((s1.put (bI (rU (cW c.mask)))).put (pIf 16#16 (cW c.value) next no)).parts ((s1.put (bI (rU (cW c.mask)))).put (pIf 16#16 (cW c.value) next no)).last (next :: R):=(hnew.mask _).cmp (how:=16#16) (by simp) (cW c.value) hm hn'
  exact((LI.second h2 c).mask (fK c.mask)).cmp (how:=16#16) (by simp) (fK c.value) hy hn
 ·exact hskip.goto hn
end
section
set_option maxRecDepth 20000
def eU(s t:LwD):Prop:=t.acts=s.acts/\t.other=s.other/\t.order=s.order
theorem eU.trans{a b c:LwD}(h:eU a b)(h':eU b c):eU a c:=⟨h'.1.trans h.1,h'.2.1.trans h.2.1,h'.2.2.trans h.2.2⟩
theorem eU.put(s:LwD)(p:aG):eU s (s.put p):=⟨rfl,rfl,rfl⟩
theorem eU.new(s:LwD):eU s s.new:=⟨rfl,rfl,rfl⟩
theorem eU.cond(s:LwD)(c:bA)(y n:Nat):eU s (s.cond c y n):=by
 unfold LwD.cond LwD.condOn
 repeat' split
 all_goals exact⟨rfl,rfl,rfl⟩
theorem eU.condStep(s:LwD)(no:Nat)(c:bA):eU s (LwD.condStep no s c):=(eU.new s).trans ((eU.cond s.new c _ _).trans (eU.put _ _))
theorem eU.conds(no:Nat):∀ (l:List bA) (s:LwD),eU s (LwD.conds no l s)
 | [],_=>⟨rfl,rfl,rfl⟩
 | c :: l,s=>(eU.condStep s no c).trans (eU.conds no l _)
theorem eU.actN{s t:LwD}(h:eU s t):actN t=actN s:=by unfold Go.AM.actN;rw[h.1]
def LA(s:LwD):Prop:=s.order=s.acts.map Prod.fst/\(s.acts.map Prod.fst).Nodup
theorem eU.la{s t:LwD}(h:eU s t)(k:LA s):LA t:=by unfold LA;rw[h.1,h.2.2];exact k
structure LT(s:LwD)(pend:List Nat):Prop where
 li:LI s.parts s.last (pend++actN s)
 la:LA s
theorem aCM{K V:Type}[DecidableEq K]{l:List (K×V)}{k:K}(h:bC k l=none):k ∉ l.map Prod.fst:=by
 induction l with
 | nil=>simp
 | cons p l ih =>
  rw[eC]at h
  split at h
  ·cases h
  ·rename_i hn
   rw[List.map_cons,List.mem_cons,not_or];exact⟨hn,ih h⟩
theorem aHd{K V:Type}[DecidableEq K]{l:List (K×V)}{k:K}{v:V}(h:bC k l=some v):(k,v)∈l:=by
 induction l with
 | nil=>simp[bC]at h
 | cons p l ih =>
  rw[eC]at h
  split at h
  ·rename_i hn;cases h;rw[hn];exact List.mem_cons_self ..
  ·exact List.mem_cons_of_mem _ (ih h)
theorem aCG{K V:Type}[DecidableEq K]{l:List (K×V)}(hn:(l.map Prod.fst).Nodup){k:K}{v:V}(h:(k,v)∈l):bC k l=some v:=by
 induction l with
 | nil=>cases h
 | cons p l ih =>
  rw[List.map_cons,List.nodup_cons]at hn;rw[eC];rcases List.mem_cons.1 h with h | h
  ·subst h;rw[if_pos rfl]
  ·rw[if_neg (λe=>hn.1 (by rw[<- e];exact List.mem_map.2 ⟨_,h,rfl⟩))]
   exact ih hn.2 h
theorem yR{s:LwD}{a:BitVec 32}{n:Nat}(h:bC a s.acts=some n):s.act a=(s,n):=by unfold LwD.act;rw[h]
theorem xB{s:LwD}{a:BitVec 32}(h:bC a s.acts=none):s.act a=(⟨s.parts,s.last+1,s.other,s.acts++[(a,s.last+1)],s.order++[a]⟩,s.last+1):=by
 unfold LwD.act;rw[h];simp only;rw[wM _ _ _ (aCM h)]
theorem pV(s:LwD)(a:BitVec 32):(a,(s.act a).2)∈(s.act a).1.acts:=by
 cases h:bC a s.acts with
 | some n=>rw[yR h];exact aHd h
 | none=>rw[xB h];simp
theorem aEF(s:LwD)(a:BitVec 32):∀ x∈s.acts,x∈(s.act a).1.acts:=by
 intro x hx;cases h:bC a s.acts with
 | some n=>rw[yR h];exact hx
 | none=>rw[xB h];exact List.mem_append_left _ hx
theorem lR(s:LwD)(a:BitVec 32):(s.act a).1.parts=s.parts/\(s.act a).1.other=s.other:=by
 cases h:bC a s.acts with
 | some n=>rw[yR h];exact⟨rfl,rfl⟩
 | none=>rw[xB h];exact⟨rfl,rfl⟩
theorem LT.act{s:LwD}{pend:List Nat}(h:LT s pend)(a:BitVec 32):LT (s.act a).1 pend:=by
 cases hf:bC a s.acts with
 | some n=>rw[yR hf];exact h
 | none =>
  rw[xB hf];refine⟨?_,?_,?_⟩
  ·have h1:=h.li.new
   refine h1.perm ?_
   have:pend++Go.AM.actN ⟨s.parts,s.last+1,s.other,s.acts++[(a,s.last+1)],s.order++[a]⟩=(pend++Go.AM.actN s)++[s.last+1]:=by
    unfold Go.AM.actN;simp
   rw[this];exact(List.perm_append_singleton _ _).symm
  ·show s.order++[a]=(s.acts++[(a,s.last+1)]).map Prod.fst
   rw[h.la.1];simp
  ·show((s.acts++[(a,s.last+1)]).map Prod.fst).Nodup
   rw[List.map_append,List.nodup_append];refine⟨h.la.2,by simp,?_⟩
   intro x hx y hy e;simp only[List.map_cons,List.map_nil,List.mem_singleton]at hy;subst hy;subst e;exact aCM hf hx
theorem aCf{s:LwD}{a:BitVec 32}{n:Nat}(h:(a,n)∈s.acts):n∈actN s:=List.mem_map.2 ⟨_,h,rfl⟩
theorem LI.conds{no:Nat}{R:List Nat}(hn:no∈R):∀ (l:List bA) (s:LwD),LI s.parts s.last R->LI (LwD.conds no l s).parts (LwD.conds no l s).last R
 | [],s,h=>h
 | c :: l,s,h=>by
  have h1:LI s.new.parts s.new.last ((s.last+1) :: R):=h.new;have h2:=LI.cond h1 c (yes:=s.last+1) (no:=no) (List.mem_cons_self ..) (List.mem_cons_of_mem _ hn);exact LI.conds hn l (LwD.condStep no s c) h2.here
theorem LT.branch{s:LwD}{pend:List Nat}(h:LT s pend)(b:cQ):LT (s.branch b) pend:=by
 have h1:LI s.new.parts s.new.last ((s.last+1) :: (pend++actN s)):=h.li.new;have h2:=LI.conds (List.mem_cons_self ..) b.conds s.new h1;have hk:=eU.conds (s.last+1) b.conds s.new;have h3:LT (LwD.conds (s.last+1) b.conds s.new) ((s.last+1) :: pend):=⟨by rw[hk.actN];exact h2,hk.la ((eU.new s).la h.la)⟩
 have h4:=h3.act b.action;have hm:=aCf (pV (LwD.conds (s.last+1) b.conds s.new) b.action);exact⟨(h4.li.goto (List.mem_append_right _ hm)).here,h4.la⟩
theorem qS(s:LwD)(b:cQ):(s.branch b).other=s.other/\∀ x∈s.acts,x∈(s.branch b).acts:=by
 have hk:=eU.conds (s.last+1) b.conds s.new;have h1:(s.branch b).other=((LwD.conds (s.last+1) b.conds s.new).act b.action).1.other:=rfl;have h2:(s.branch b).acts=((LwD.conds (s.last+1) b.conds s.new).act b.action).1.acts:=rfl;refine⟨by rw[h1,(lR _ _).2,hk.2.1];rfl,λx hx =>?_⟩
 rw[h2];refine aEF _ _ x ?_;rw[hk.1];exact hx
theorem aNH{pend:List Nat}:∀ (l:List cQ) (s:LwD),LT s pend->LT (l.foldl LwD.branch s) pend/\(l.foldl LwD.branch s).other=s.other/\∀ x∈s.acts,x∈(l.foldl LwD.branch s).acts
 | [],s,h=>⟨h,rfl,λ_ hx=>hx⟩
 | b :: l,s,h=>by
  obtain⟨h1,h2,h3⟩:=aNH l (s.branch b) (h.branch b);obtain⟨k1,k2⟩:=qS s b;exact⟨h1,h2.trans k1,λx hx=>h3 x (k2 x hx)⟩
def LO(s:LwD)(pend:List Nat):Prop:=LT s pend/\s.other∈actN s
theorem aFm{s t:LwD}(h:∀ x∈s.acts,x∈t.acts):∀ n∈actN s,n∈actN t:=λn hn=>by
 obtain⟨x,hx,rfl⟩:=List.mem_map.1 hn;exact List.mem_map.2 ⟨x,h x hx,rfl⟩
theorem LO.branches{s:LwD}{pend:List Nat}(h:LO s pend)(l:List cQ):LO (LwD.branches l s) pend:=by
 obtain⟨h1,h2,h3⟩:=aNH l s h.1;have ho:(l.foldl LwD.branch s).other∈actN (l.foldl LwD.branch s):=by rw[h2];exact aFm h3 _ h.2
 exact⟨⟨h1.li.goto (List.mem_append_right _ ho),h1.la⟩,ho⟩
theorem LO.put{s:LwD}{pend pend':List Nat}(h:LO s pend){p:aG}(hl:LI (s.parts++[p]) s.last (pend'++actN s)):LO (s.put p) pend':=⟨⟨hl,h.1.la⟩,h.2⟩
theorem LO.choose{st:List (BitVec 32×Nat)}:∀ (f:Nat) (l:List dC) (s:LwD) (pend:List Nat),(∀ c∈l,jG c.number st∈pend)->LO s pend->LO (LwD.choose st f l s) pend
 | 0,_,s,_,_,h=>h
 | f+1,l,s,pend,hs,h=>by
  unfold LwD.choose
  split
  ·exact h.put (h.1.li.goto (List.mem_append_right _ h.2))
  split
  ·rename_i h0 h1
   refine h.put (h.1.li.cmp (by simp) _ (List.mem_append_left _ ?_) (List.mem_append_right _ h.2))
   rw[xC (by omega)]
   exact hs _ (List.getElem_mem _)
  ·have hn:LI s.new.new.parts s.new.new.last ((s.last+2) :: (s.last+1) :: (pend++actN s)):=h.1.li.new.new
   have h1:=hn.cmp (how:=48#16) (by simp) (oU l (l.length / 2)) (t:=s.last+2) (e:=s.last+1) (by simp) (by simp)
   have h2:=(h1.perm (List.Perm.swap _ _ _)).here;have h3:LO ((s.new.new.put (pIf 48#16 (oU l (l.length / 2)) (s.last+2) (s.last+1))).put (cF (s.last+1))) ((s.last+2) :: pend):=⟨⟨h2,h.1.la⟩,h.2⟩;have h4:=LO.choose f (l.take (l.length / 2)) _ _ (λc hc=>List.mem_cons_of_mem _ (hs c (List.mem_of_mem_take hc))) h3;have h5:=h4.put (p:=cF (s.last+2)) (pend':=pend) h4.1.li.here;exact LO.choose f (l.drop (l.length / 2)) _ _ (λc hc=>hs c (List.mem_of_mem_drop hc)) h5
theorem LO.cases{st:List (BitVec 32×Nat)}{pend:List Nat}:∀ (l:List dC) (s:LwD),LO s (l.map (λc=>jG c.number st)++pend)->LO (LwD.cases st l s) pend
 | [],s,h=>h
 | c :: l,s,h=>by
  have h1:LO (s.put (cF (jG c.number st))) (l.map (λc=>jG c.number st)++pend):=h.put h.1.li.here;exact LO.cases l (LwD.case1 st s c) (h1.branches c.branches)
theorem LI.ends{A:List (BitVec 32×Nat)}:∀ (l:List (BitVec 32×Nat)) (s:LwD),(∀ x∈l,jG x.1 A=x.2)->LI s.parts s.last (l.map Prod.snd)->LI ((l.map Prod.fst).foldl (LwD.end1 A) s).parts ((l.map Prod.fst).foldl (LwD.end1 A) s).last []
 | [],s,_,h=>h
 | x :: l,s,hx,h=>by
  rw[List.map_cons,List.foldl_cons];refine LI.ends l _ (λy hy=>hx y (List.mem_cons_of_mem _ hy)) ?_;unfold LwD.end1;rw[hx x (List.mem_cons_self ..)];exact h.here.plain (.inr (.inr rfl))
theorem LT.low2(d:BitVec 32):LT (low2 d).1 []/\(low2 d).1.other∈actN (low2 d).1:=by
 have h0:LT LwD.zero []:=⟨LI.nil,rfl,by simp[LwD.zero]⟩
 have h1:=h0.act d;have h2:LT (rY d) []:=⟨h1.li,h1.la⟩;have ho:(rY d).other∈actN (rY d):=aCf (s:=(LwD.zero.act d).1) (pV LwD.zero d);refine⟨h2.act _,?_⟩
 show(((rY d).act _).1).other∈_
 rw[(lR _ _).2];exact aFm (aEF _ _) _ ho
theorem LO.lower0(d:BitVec 32):LO (lower0 d) []:=by
 obtain⟨h1,h2⟩:=LT.low2 d;have hn:LI (low2 d).1.new.parts (low2 d).1.new.last (((low2 d).1.last+1) :: ([]++actN (low2 d).1)):=h1.li.new;have hk:=aCf (pV (rY d) 2147483648#32);have h3:=hn.plain (x:=dE 4#32) (.inl ⟨rfl,by decide,by decide⟩)
 have h4:=h3.cmp (how:=16#16) (by simp) 3221225534#32 (t:=(low2 d).1.last+1) (e:=(low2 d).2) (List.mem_cons_self ..) (List.mem_cons_of_mem _ hk)
 exact⟨⟨h4.here,h1.la⟩,h2⟩
theorem yW:∀ (l:List dC) (x:LwD×List (BitVec 32×Nat)),(l.map dC.number).Nodup->(∀ c∈l,c.number ∉ x.2.map Prod.fst)->(x.2.map Prod.fst).Nodup->LO x.1 (x.2.map Prod.snd) ->
  LO (LwD.starts l x).1 ((LwD.starts l x).2.map Prod.snd)/\(LwD.starts l x).2.map Prod.fst=x.2.map Prod.fst++l.map dC.number/\((LwD.starts l x).2.map Prod.fst).Nodup/\(LwD.starts l x).1.parts=x.1.parts/\eU x.1 (LwD.starts l x).1
 | [],x,_,_,h2,h3=>⟨h3,by simp[LwD.starts],h2,rfl,rfl,rfl,rfl⟩
 | c :: l,x,hn,hx,h2,h3=>by
  rw[List.map_cons,List.nodup_cons]at hn;have hf:=hx c (List.mem_cons_self ..);have ha:fB c.number (x.1.last+1) x.2=x.2++[(c.number,x.1.last+1)]:=wM _ _ _ hf
  have hnd:((x.2++[(c.number,x.1.last+1)]).map Prod.fst).Nodup:=by
   rw[List.map_append,List.nodup_append];refine⟨h2,by simp,?_⟩
   intro a h1 b h2 e;simp only[List.map_cons,List.map_nil,List.mem_singleton]at h2;subst h2;subst e;exact hf h1
  have hs:LwD.start1 x c=(x.1.new,x.2++[(c.number,x.1.last+1)]):=by unfold LwD.start1;rw[ha]
  have hlo:LO x.1.new ((x.2++[(c.number,x.1.last+1)]).map Prod.snd):=by
   refine⟨⟨?_,h3.1.la⟩,h3.2⟩;refine h3.1.li.new.perm ?_;have:(x.2++[(c.number,x.1.last+1)]).map Prod.snd=x.2.map Prod.snd++[x.1.last+1]:=by simp
   rw[this,List.append_assoc];exact(List.perm_middle).symm
  obtain⟨r1,r2,r3,r4,r5⟩:=yW l (LwD.start1 x c) hn.2 (by
   rw[hs];intro c' hc';simp only[List.map_append,List.map_cons,List.map_nil,List.mem_append,List.mem_singleton,not_or];exact⟨hx c' (List.mem_cons_of_mem _ hc'),λe=>hn.1 (by rw[<- e];exact List.mem_map.2 ⟨c',hc',rfl⟩)⟩) (by rw[hs];exact hnd) (by rw[hs];exact hlo)
  refine⟨r1,?_,r3,?_,?_⟩
  ·show(LwD.starts l (LwD.start1 x c)).2.map Prod.fst=_
   rw[r2,hs];simp
  ·show(LwD.starts l (LwD.start1 x c)).1.parts=_
   rw[r4,hs];rfl
  ·have:eU x.1 (LwD.start1 x c).1:=by rw[hs];exact eU.new _
   exact this.trans r5
theorem aBf{l:List (BitVec 32×Nat)}(hn:(l.map Prod.fst).Nodup){x:BitVec 32×Nat}(h:x∈l):jG x.1 l=x.2:=by
 unfold jG;rw[aCG hn (v:=x.2) h];rfl
theorem aEG{l:List dC}{st:List (BitVec 32×Nat)}(h:st.map Prod.fst=l.map dC.number)(hn:(st.map Prod.fst).Nodup):l.map (λc=>jG c.number st)=st.map Prod.snd:=by
 have:l.map (λc=>jG c.number st)=(l.map dC.number).map λn=>jG n st:=by rw[List.map_map];rfl
 rw[this,<- h,List.map_map];apply List.map_congr_left;intro x hx;exact aBf hn hx
structure Low(p:jS):Prop where
 lo3:LO (eH p).1 ((eH p).2.map Prod.snd)
 names:(eH p).2.map Prod.fst=p.cases.map dC.number
 lo4:LO (jC p) (p.cases.map λc=>jG c.number (eH p).2)
 lo5:LO (LwD.cases (eH p).2 p.cases (jC p)) []
 fin:LI (hU p).parts (hU p).last []
theorem aJV(p:jS)(hn:(p.cases.map dC.number).Nodup):Low p:=by
 obtain⟨r1,r2,r3,r4,r5⟩:=yW p.cases (lower0 p.default,[]) hn (by simp) (by simp) (LO.lower0 p.default)
 have hnames:(eH p).2.map Prod.fst=p.cases.map dC.number:=by
  exact r2
 have hst:=aEG hnames r3;have r1:LO (eH p).1 ((eH p).2.map Prod.snd):=r1
 have h4:LO (jC p) (p.cases.map λc=>jG c.number (eH p).2):=by
  refine LO.choose _ _ _ _ (λc hc=>List.mem_map.2 ⟨c,hc,rfl⟩) ?_;rw[hst];exact r1.put (r1.1.li.plain (.inl ⟨rfl,by decide,by decide⟩))
 have h5:LO (LwD.cases (eH p).2 p.cases (jC p)) []:=LO.cases p.cases (jC p) (by rw[List.append_nil];exact h4)
 refine⟨r1,hnames,h4,h5,?_⟩;unfold hU LwD.ends;rw[h5.1.la.1];refine LI.ends _ _ (λx hx=>aBf h5.1.la.2 hx) ?_;exact h5.1.li
end
section
set_option maxRecDepth 20000
theorem qD(x:BitVec 64):(cW x).toNat=x.toNat / 4294967296:=by
 unfold cW;have:=x.isLt;rw[BitVec.toNat_setWidth,BitVec.toNat_ushiftRight,Nat.shiftRight_eq_div_pow,Nat.mod_eq_of_lt (by omega)]
theorem pZ(x:BitVec 64):(fK x).toNat=x.toNat % 4294967296:=by
 unfold fK;rw[BitVec.toNat_setWidth]
theorem zU(x y:BitVec 64):x=y↔cW x=cW y/\fK x=fK y:=by
 constructor
 ·rintro rfl;exact⟨rfl,rfl⟩
 ·rintro⟨h1,h2⟩
  apply BitVec.eq_of_toNat_eq;have h1:=congrArg BitVec.toNat h1;have h2:=congrArg BitVec.toNat h2;rw[qD,qD]at h1;rw[pZ,pZ]at h2;omega
theorem aDa(x y:BitVec 64):y.toNat<x.toNat↔(cW y).toNat<(cW x).toNat\/(cW x=cW y/\(fK y).toNat<(fK x).toNat):=by
 rw[<- BitVec.toNat_inj,qD,qD,pZ,pZ];omega
theorem aC0(x y:BitVec 64):y.toNat<=x.toNat↔(cW y).toNat<(cW x).toNat\/(cW x=cW y/\(fK y).toNat<=(fK x).toNat):=by
 rw[<- BitVec.toNat_inj,qD,qD,pZ,pZ];omega
theorem aOz(x y:BitVec 64):cW (x&&&y)=cW x&&&cW y:=by
 apply BitVec.eq_of_getLsbD_eq;intro i hi;simp[cW,BitVec.getLsbD_setWidth,BitVec.getLsbD_ushiftRight,hi]
theorem aOk(x y:BitVec 64):fK (x&&&y)=fK x&&&fK y:=by
 apply BitVec.eq_of_getLsbD_eq;intro i hi;simp[fK,BitVec.getLsbD_setWidth,hi]
section
variable {r:aU}{L:List aG}{s:LwD}
def KAt(r:aU)(L:List aG)(s:LwD):Beh:=(den r (L.drop s.parts.length)).2
def atN(r:aU)(L:List aG)(n:Nat):Beh:=mI (den r L).1 (n:Int)
def Pre(L:List aG)(s:LwD):Prop:=s.parts <+: L
theorem Pre.back{p:aG}(h:Pre L (s.put p)):Pre L s:=(List.prefix_append _ _).trans h
theorem Pre.drop{p:aG}(h:Pre L (s.put p)):L.drop s.parts.length=p :: L.drop (s.put p).parts.length:=by
 obtain⟨t,rfl⟩:=h;have e1:(s.put p).parts=s.parts++[p]:=rfl;rw[e1,List.append_assoc];simp[List.drop_append]
theorem aFq(r:aU){b:List aG}{n:Int}(hn:n∈bQ b):∀ a:List aG,wfL (a++b)->bC n (den r (a++b)).1=bC n (den r b).1
 | [],_=>rfl
 | p :: a,w=>by
  have ih:=aFq r hn a w.tail
  show bC n (fU r p (den r (a++b))).1=_
  unfold fU
  by_cases h1:p.kind=1#8
  ·rw[if_pos h1]
   simp only[eC];have:=(w [] p (a++b) rfl).1 h1;rw[if_neg (λe=>this (by rw[<- e,lS];exact List.mem_append_right _ hn))]
   exact ih
  ·rw[if_neg h1]
   by_cases h4:p.kind=4#8
   ·rw[if_pos h4];exact ih
   ·rw[if_neg h4]
    by_cases h3:p.kind=3#8
    ·rw[if_pos h3];exact ih
    ·rw[if_neg h3];exact ih
theorem tZ(w:wfL L){k:Nat}{n:Nat}(hn:(n:Int)∈bQ (L.drop k)):mI (den r (L.drop k)).1 n=atN r L n:=by
 unfold atN mI;have:=aFq r hn (L.take k) (by rw[List.take_append_drop];exact w)
 rw[List.take_append_drop]at this;rw[this]
theorem aNK(w:wfL L){p:aG}(h:Pre L (s.put p)):(p.kind=1#8->p.to ∉ bQ (L.drop (s.put p).parts.length))/\(p.kind=4#8->p.to∈bQ (L.drop (s.put p).parts.length))/\(p.kind=3#8->p.to∈bQ (L.drop (s.put p).parts.length)/\p.els∈bQ (L.drop (s.put p).parts.length)):=by
 refine w (L.take s.parts.length) p _ ?_;rw[<- Pre.drop h,List.take_append_drop]
theorem rH(w:wfL L){n:Nat}(h:Pre L (s.put (cF n))):KAt r L s=KAt r L (s.put (cF n))/\atN r L n=KAt r L (s.put (cF n)):=by
 have hd:=Pre.drop h
 have hk:KAt r L s=KAt r L (s.put (cF n)):=by
  unfold KAt;rw[hd,dQ]
  rfl
 refine⟨hk,?_⟩;have hm:(n:Int)∈bQ (L.drop s.parts.length):=by rw[hd,eW,if_pos (show(cF n).kind=1#8 from rfl)];exact List.mem_cons_self ..
 rw[<- tZ w hm,hd,dQ];unfold mI fU;rw[if_pos (show(cF n).kind=1#8 from rfl)];simp only[eC];rw[if_pos (show(n:Int)=(cF n).to from rfl)]
 rfl
theorem yB{x:bL}(h:Pre L (s.put (bI x)))(a:BitVec 32):KAt r L s a=match (cH r x a).2.2 with | some o=>o | none=>KAt r L (s.put (bI x)) (cH r x a).1:=by
 unfold KAt;rw[Pre.drop h,dQ]
 rfl
theorem aLq(hr:r.ok){n:Nat}(hn:n<6){b:Bool}{k:BitVec 32}(hk:k=BitVec.ofNat 32 (16+8*n+(if b then 4 else 0)))(h:Pre L (s.put (bI (dE k))))(a:BitVec 32):KAt r L s a=KAt r L (s.put (bI (dE k))) (if b then cW (iU r.args n) else fK (iU r.args n)):=by
 rw[yB h a];have:cH r (dE k) a=((kP r k).1,0,none):=rfl;rw[this];have h2:=aID r hr n hn b;rw[<- hk]at h2;simp only[h2]
 rfl
theorem aKy{k:BitVec 32}(h:Pre L (s.put (bI (rU k))))(a:BitVec 32):KAt r L s a=KAt r L (s.put (bI (rU k))) (a&&&k):=by
 rw[yB h a];rfl
theorem aEj(w:wfL L){n:Nat}(h:Pre L (s.put (oM n)))(a:BitVec 32):KAt r L s a=atN r L n a:=by
 have hm:=(aNK w h).2.1 rfl;have hg:=tZ (r:=r) w (n:=n) hm;unfold KAt;rw[Pre.drop h,dQ,<- hg]
 rfl
theorem aAQ(w:wfL L){how:BitVec 16}{k:BitVec 32}{t e:Nat}(h:Pre L (s.put (pIf how k t e)))(a:BitVec 32):KAt r L s a=if mT (pIf how k t e).insn a=true then atN r L t a else atN r L e a:=by
 have hm:=(aNK w h).2.2 rfl;have h1:=tZ (r:=r) w (n:=t) hm.1;have h2:=tZ (r:=r) w (n:=e) hm.2;unfold KAt;rw[Pre.drop h,dQ,<- h1,<- h2]
 rfl
theorem nA(k a:BitVec 32)(t e:Nat):mT (pIf 16#16 k t e).insn a=decide (a=k):=rfl
theorem aEc(k a:BitVec 32)(t e:Nat):mT (pIf 32#16 k t e).insn a=decide (k.toNat<a.toNat):=rfl
theorem aDP(k a:BitVec 32)(t e:Nat):mT (pIf 48#16 k t e).insn a=decide (k.toNat<=a.toNat):=rfl
theorem aFI{n:Int}(h0:0<=n)(h5:n<=5):fS n=n.toNat:=by unfold fS;rw[if_neg (by omega),if_neg (by omega)]
theorem xE(w:wfL L)(hr:r.ok){c:bA}(h0:0<=c.arg)(h5:c.arg<=5){n:Nat}(h:Pre L (s.second c n)):∀ a,atN r L n a=KAt r L (s.second c n) (fK (iU r.args c.arg.toNat)):=by
 intro a;have hb:Pre L (s.put (cF n)):=Pre.back (p:=bI (dE (dR c.arg false))) h;rw[(rH w hb).2];have:=aLq (b:=false) hr (n:=c.arg.toNat) (by omega) (k:=dR c.arg false) (by unfold dR;rw[aFI h0 h5]) h a
 rw[this];rfl
theorem uE(w:wfL L)(hr:r.ok){c:bA}(h0:0<=c.arg)(h5:c.arg<=5){how:BitVec 16}{yes no:Nat}(h:Pre L (s.order64 c how yes no)){vy vn:BitVec 32}(hy:∀ a,atN r L yes a=vy)(hn:∀ a,atN r L no a=vn):
  KAt r L s (cW (iU r.args c.arg.toNat))=if(cW c.value).toNat<(cW (iU r.args c.arg.toNat)).toNat\/(cW (iU r.args c.arg.toNat)=cW c.value/\mT (pIf how (fK c.value) yes no).insn (fK (iU r.args c.arg.toNat))=true) then vy else vn:=by
 unfold LwD.order64 at h;simp only at h;have h2:=Pre.back h;have h3:Pre L (((s.new.new.put (pIf 32#16 (cW c.value) yes (s.last+1))).put (cF (s.last+1))).put (pIf 16#16 (cW c.value) (s.last+2) no)):=Pre.back (p:=cF (s.last+2)) (Pre.back (p:=bI (dE (dR c.arg false))) h2);have h4:=Pre.back h3;have h5':=Pre.back h4;have e1:=aAQ (r:=r) w h5' (cW (iU r.args c.arg.toNat));have e2:=(rH (r:=r) w h4).2;have e3:=aAQ (r:=r) w h3 (cW (iU r.args c.arg.toNat));have e4:=xE (r:=r) w hr h0 h5 h2;have e5:=aAQ (r:=r) w h (fK (iU r.args c.arg.toNat));have e0:KAt r L s (cW (iU r.args c.arg.toNat))=KAt r L s.new.new (cW (iU r.args c.arg.toNat)):=rfl;rw[e0,e1,aEc,e2,e3,nA,e4,e5,hy,hy,hn,hn];generalize cW (iU r.args c.arg.toNat)=xh;generalize mT (pIf how (fK c.value) yes no).insn (fK (iU r.args c.arg.toNat))=b
 by_cases c1:(cW c.value).toNat<xh.toNat
 ·simp[c1]
 ·by_cases c2:xh=cW c.value
  ·simp[c2]
  ·simp[c1,c2]
theorem aOx(w:wfL L)(hr:r.ok){c:bA}(h0:0<=c.arg)(h5:c.arg<=5){yes no:Nat}(h:Pre L (s.cond c yes no)){vy vn:BitVec 32}(hy:∀ a,atN r L yes a=vy)(hn:∀ a,atN r L no a=vn)(a:BitVec 32):
  KAt r L s a=if holds c r.args=true then vy else vn:=by
 unfold LwD.cond at h
 have hp:Pre L (s.new.put (bI (dE (dR c.arg true)))):=by
  unfold LwD.condOn at h
  split at h
  ·exact Pre.back (p:=pIf 16#16 (cW c.value) (s.last+1) no) (Pre.back (p:=cF (s.last+1)) (Pre.back (p:=bI (dE (dR c.arg false))) (Pre.back h)))
  split at h
  ·exact Pre.back (p:=pIf 16#16 (cW c.value) (s.last+1) yes) (Pre.back (p:=cF (s.last+1)) (Pre.back (p:=bI (dE (dR c.arg false))) (Pre.back h)))
  have o64:∀ (t:LwD) (how:BitVec 16) (y n:Nat),Pre L (t.order64 c how y n)->Pre L t:=λt how y n h=>by
   unfold LwD.order64 at h;exact Pre.back (s:=t.new.new) (Pre.back (Pre.back (Pre.back (p:=cF (t.last+2)) (Pre.back (p:=bI (dE (dR c.arg false))) (Pre.back h)))))
  split at h
  ·exact o64 _ _ _ _ h
  split at h
  ·exact o64 _ _ _ _ h
  split at h
  ·exact o64 _ _ _ _ h
  split at h
  ·exact o64 _ _ _ _ h
  split at h
  ·exact Pre.back (p:=bI (rU (cW c.mask))) (Pre.back (p:=pIf 16#16 (cW c.value) (s.last+1) no) (Pre.back (p:=cF (s.last+1)) (Pre.back (p:=bI (dE (dR c.arg false))) (Pre.back (Pre.back h)))))
  ·exact Pre.back h
 have e0:KAt r L s a=KAt r L s.new a:=rfl;have e1:=aLq (r:=r) (b:=true) hr (n:=c.arg.toNat) (by omega) (k:=dR c.arg true) (by unfold dR;rw[aFI h0 h5]) hp a
 rw[e0,e1];simp only[if_true];have hh:holds c r.args=pB c.op.toNat c.mask c.value (iU r.args c.arg.toNat):=by unfold holds;rw[if_neg (by omega)]
 rw[hh];unfold pB;generalize s.new.put (bI (dE (dR c.arg true)))=t at *;generalize s.last+1=next at *;have opn:∀ k:BitVec 8,(c.op.toNat=k.toNat)↔c.op=k:=λk=>BitVec.toNat_inj;have n1:c.op.toNat=1↔c.op=1#8:=opn 1#8;have n2:c.op.toNat=2↔c.op=2#8:=opn 2#8;have n3:c.op.toNat=3↔c.op=3#8:=opn 3#8;have n4:c.op.toNat=4↔c.op=4#8:=opn 4#8;have n5:c.op.toNat=5↔c.op=5#8:=opn 5#8;have n6:c.op.toNat=6↔c.op=6#8:=opn 6#8;have n7:c.op.toNat=7↔c.op=7#8:=opn 7#8;simp only[n1,n2,n3,n4,n5,n6,n7];have hc:=h;unfold LwD.condOn at hc
 by_cases o1:c.op=1#8
 ·rw[if_pos o1]at hc ⊢
  have h2:=Pre.back hc;have h3:Pre L (t.put (pIf 16#16 (cW c.value) next no)):=Pre.back (p:=cF next) (Pre.back (p:=bI (dE (dR c.arg false))) h2);rw[aAQ w h3,nA,xE w hr h0 h5 h2,aAQ w hc,nA,hy,hn,hn];generalize iU r.args c.arg.toNat=x;simp only[decide_eq_true_eq,zU x c.value]
  by_cases c1:cW x=cW c.value<;>by_cases c2:fK x=fK c.value<;>simp[c1,c2]
 rw[if_neg o1]at hc ⊢
 by_cases o2:c.op=2#8
 ·rw[if_pos o2]at hc ⊢
  have h2:=Pre.back hc;have h3:Pre L (t.put (pIf 16#16 (cW c.value) next yes)):=Pre.back (p:=cF next) (Pre.back (p:=bI (dE (dR c.arg false))) h2);rw[aAQ w h3,nA,xE w hr h0 h5 h2,aAQ w hc,nA,hy,hy,hn];generalize iU r.args c.arg.toNat=x;simp only[decide_eq_true_eq,ne_eq,zU x c.value]
  by_cases c1:cW x=cW c.value<;>by_cases c2:fK x=fK c.value<;>simp[c1,c2]
 rw[if_neg o2]at hc ⊢
 by_cases o5:c.op=5#8
 ·rw[if_pos o5]at hc
  have o3:c.op≠3#8:=by rw[o5];decide
  have o4:c.op≠4#8:=by rw[o5];decide
  rw[if_neg o3,if_neg o4,if_pos o5,uE w hr h0 h5 hc hy hn,aEc];simp only[decide_eq_true_eq,aDa]
 rw[if_neg o5]at hc
 by_cases o6:c.op=6#8
 ·rw[if_pos o6]at hc
  have o3:c.op≠3#8:=by rw[o6];decide
  have o4:c.op≠4#8:=by rw[o6];decide
  rw[if_neg o3,if_neg o4,if_neg o5,if_pos o6,uE w hr h0 h5 hc hy hn,aDP];simp only[decide_eq_true_eq,aC0]
 rw[if_neg o6]at hc
 by_cases o3:c.op=3#8
 ·rw[if_pos o3]at hc
  rw[if_pos o3,uE w hr h0 h5 hc hn hy,aDP];simp only[decide_eq_true_eq,<- aC0];generalize iU r.args c.arg.toNat=x
  by_cases hx:c.value.toNat<=x.toNat
  ·rw[if_pos hx,if_neg (by omega)]
  ·rw[if_neg hx,if_pos (by omega)]
 rw[if_neg o3]at hc ⊢
 by_cases o4:c.op=4#8
 ·rw[if_pos o4]at hc
  rw[if_pos o4,uE w hr h0 h5 hc hn hy,aEc];simp only[decide_eq_true_eq,<- aDa];generalize iU r.args c.arg.toNat=x
  by_cases hx:c.value.toNat<x.toNat
  ·rw[if_pos hx,if_neg (by omega)]
  ·rw[if_neg hx,if_pos (by omega)]
 rw[if_neg o4]at hc ⊢;rw[if_neg o5,if_neg o6]
 by_cases o7:c.op=7#8
 ·rw[if_pos o7]at hc ⊢
  have h2:=Pre.back hc;have h3:=Pre.back h2;have h4:Pre L ((t.put (bI (rU (cW c.mask)))).put (pIf 16#16 (cW c.value) next no)):=Pre.back (p:=cF next) (Pre.back (p:=bI (dE (dR c.arg false))) h3);rw[aKy (Pre.back h4),aAQ w h4,nA,xE w hr h0 h5 h3,aKy h2,aAQ w hc,nA,hy,hn,hn];generalize iU r.args c.arg.toNat=x;simp only[decide_eq_true_eq,zU (x&&&c.mask) c.value,aOz,aOk]
  by_cases c1:cW x&&&cW c.mask=cW c.value<;>by_cases c2:fK x&&&fK c.mask=fK c.value<;>simp[c1,c2]
 ·rw[if_neg o7]at hc ⊢
  rw[aEj w hc,hn];simp
end
end
section
set_option maxRecDepth 20000
section
variable {r:aU}{L:List aG}
theorem aDF(s:LwD)(p:aG):s.parts <+: (s.put p).parts:=List.prefix_append _ _
theorem oX(t:LwD)(c:bA)(how:BitVec 16)(y n:Nat):t.parts <+: (t.order64 c how y n).parts:=by
 unfold LwD.order64 LwD.second;simp only[LwD.put,LwD.new,List.append_assoc];exact List.prefix_append _ _
theorem aMm(s:LwD)(c:bA)(y n:Nat):s.parts <+: (s.cond c y n).parts:=by
 unfold LwD.cond;refine List.IsPrefix.trans (l₂:=(s.new.put (bI (dE (dR c.arg true)))).parts) (List.prefix_append _ _) ?_;generalize s.new.put (bI (dE (dR c.arg true)))=t;unfold LwD.condOn LwD.second
 split
 ·simp only[LwD.put,List.append_assoc];exact List.prefix_append _ _
 split
 ·simp only[LwD.put,List.append_assoc];exact List.prefix_append _ _
 split
 ·exact oX ..
 split
 ·exact oX ..
 split
 ·exact oX ..
 split
 ·exact oX ..
 split
 ·simp only[LwD.put,List.append_assoc];exact List.prefix_append _ _
 ·exact List.prefix_append _ _
theorem aLD(no:Nat)(s:LwD)(c:bA):s.parts <+: (LwD.condStep no s c).parts:=(aMm s.new c _ _).trans (List.prefix_append _ _)
theorem zF(no:Nat):∀ (l:List bA) (s:LwD),s.parts <+: (LwD.conds no l s).parts
 | [],_=>List.prefix_refl _
 | c :: l,s=>(aLD no s c).trans (zF no l _)
theorem aHD(s:LwD)(a:BitVec 32):s.parts <+: (s.act a).1.parts:=by rw[(lR s a).1];exact List.prefix_refl _
theorem aG5(s:LwD)(b:cQ):s.parts <+: (s.branch b).parts:=by
 unfold LwD.branch;exact((zF _ b.conds s.new).trans (aHD _ _)).trans ((List.prefix_append _ _).trans (List.prefix_append _ _))
theorem zQ:∀ (l:List cQ) (s:LwD),s.parts <+: (l.foldl LwD.branch s).parts
 | [],_=>List.prefix_refl _
 | b :: l,s=>(aG5 s b).trans (zQ l _)
theorem xX(l:List cQ)(s:LwD):s.parts <+: (LwD.branches l s).parts:=(zQ l s).trans (List.prefix_append _ _)
theorem aIu(st:List (BitVec 32×Nat))(s:LwD)(c:dC):s.parts <+: (LwD.case1 st s c).parts:=(aDF s (cF (jG c.number st))).trans (xX c.branches _)
theorem yS(st:List (BitVec 32×Nat)):∀ (l:List dC) (s:LwD),s.parts <+: (LwD.cases st l s).parts
 | [],_=>List.prefix_refl _
 | c :: l,s=>(aIu st s c).trans (yS st l _)
theorem nN(st:List (BitVec 32×Nat)):∀ (f:Nat) (l:List dC) (s:LwD),s.parts <+: (LwD.choose st f l s).parts
 | 0,_,_=>List.prefix_refl _
 | f+1,l,s=>by
  unfold LwD.choose
  split
  ·exact List.prefix_append _ _
  split
  ·exact List.prefix_append _ _
  ·refine List.IsPrefix.trans ?_ (nN st f _ _)
   refine List.IsPrefix.trans ?_ (List.prefix_append _ _);refine List.IsPrefix.trans ?_ (nN st f _ _);exact(List.prefix_append _ _).trans (List.prefix_append _ _)
theorem aEr(A:List (BitVec 32×Nat)):∀ (l:List (BitVec 32)) (s:LwD),s.parts <+: (l.foldl (LwD.end1 A) s).parts
 | [],_=>List.prefix_refl _
 | a :: l,s=>((aDF s (cF (jG a A))).trans (aDF _ (bI (aMS a)))).trans (aEr A l (LwD.end1 A s a))
theorem eU.choose(st:List (BitVec 32×Nat)):∀ (f:Nat) (l:List dC) (s:LwD),eU s (LwD.choose st f l s)
 | 0,_,_=>⟨rfl,rfl,rfl⟩
 | f+1,l,s=>by
  unfold LwD.choose
  split
  ·exact⟨rfl,rfl,rfl⟩
  split
  ·exact⟨rfl,rfl,rfl⟩
  ·have k0:eU s ((s.new.new.put (pIf 48#16 (oU l (l.length / 2)) (s.last+2) (s.last+1))).put (cF (s.last+1))):=⟨rfl,rfl,rfl⟩
   have k1:=eU.choose st f (l.take (l.length / 2)) ((s.new.new.put (pIf 48#16 (oU l (l.length / 2)) (s.last+2) (s.last+1))).put (cF (s.last+1)));exact((k0.trans k1).trans (eU.put _ (cF (s.last+2)))).trans (eU.choose st f (l.drop (l.length / 2)) _)
def aDG(l:List bA):Prop:=∀ c∈l,0<=c.arg/\c.arg<=5
theorem aHy(w:wfL L)(hr:r.ok){no:Nat}{vn v:BitVec 32}(hn:∀ a,atN r L no a=vn):∀ (l:List bA) (s:LwD),aDG l->Pre L (LwD.conds no l s)->(∀ a,KAt r L (LwD.conds no l s) a=v)->∀ a,KAt r L s a=if cE l r=true then v else vn
 | [],s,_,_,hv,a=>by
  have:cE [] r=true:=rfl;rw[if_pos this];exact hv a
 | c :: l,s,hi,h,hv,a=>by
  have hp:Pre L (LwD.condStep no s c):=(zF no l _).trans h;have ih:=aHy w hr hn l (LwD.condStep no s c) (λx hx=>hi x (List.mem_cons_of_mem _ hx)) h hv;have hh:=(rH (r:=r) w (s:=s.new.cond c (s.last+1) no) (n:=s.last+1) hp).2;have hc:=hi c (List.mem_cons_self ..);have:=aOx w hr hc.1 hc.2 (s:=s.new) (yes:=s.last+1) (no:=no) (Pre.back hp) (vy:=if cE l r=true then v else vn) (vn:=vn) (λa=>by rw[hh];exact ih a) hn a
  have e0:KAt r L s a=KAt r L s.new a:=rfl;rw[e0,this];have e1:cE (c :: l) r=(holds c r.args&&cE l r):=rfl;rw[e1];cases holds c r.args<;>simp
def AtA(r:aU)(L:List aG)(A:List (BitVec 32×Nat)):Prop:=∀ x∈A,∀ a,atN r L x.2 a=x.1
theorem aKA(w:wfL L)(hr:r.ok){A:List (BitVec 32×Nat)}(hA:AtA r L A){s:LwD}{b:cQ}(hi:aDG b.conds)(h:Pre L (s.branch b))(hs:∀ x∈(s.branch b).acts,x∈A){v:BitVec 32}(hv:∀ a,KAt r L (s.branch b) a=v)(a:BitVec 32):
  KAt r L s a=if cE b.conds r=true then b.action else v:=by
 have hm:=hs _ (pV (LwD.conds (s.last+1) b.conds s.new) b.action);have hact:=hA _ hm;have h1:=(rH (r:=r) w (s:=((LwD.conds (s.last+1) b.conds s.new).act b.action).1.put (oM ((LwD.conds (s.last+1) b.conds s.new).act b.action).2)) (n:=s.last+1) h).2;have h2:=aEj (r:=r) w (s:=((LwD.conds (s.last+1) b.conds s.new).act b.action).1) (n:=((LwD.conds (s.last+1) b.conds s.new).act b.action).2) (Pre.back h);have hp:Pre L (LwD.conds (s.last+1) b.conds s.new):=(aHD _ _).trans (Pre.back (Pre.back h))
 have e1:∀ a,KAt r L (LwD.conds (s.last+1) b.conds s.new) a=b.action:=λa=>by
  have:KAt r L (LwD.conds (s.last+1) b.conds s.new)=KAt r L ((LwD.conds (s.last+1) b.conds s.new).act b.action).1:=by unfold KAt;rw[(lR _ _).1]
  rw[this,h2 a,hact a]
 have:=aHy w hr (no:=s.last+1) (vn:=v) (v:=b.action) (λa=>by rw[h1];exact hv a) b.conds s.new hi hp e1 a
 exact this
theorem aD3(d:BitVec 32)(b:cQ)(l:List cQ)(r:aU):jV d (b :: l) r=if cE b.conds r=true then b.action else jV d l r:=by
 unfold jV;rw[List.find?_cons];cases cE b.conds r<;>rfl
theorem aHx(w:wfL L)(hr:r.ok){A:List (BitVec 32×Nat)}(hA:AtA r L A){d:BitVec 32}:∀ (l:List cQ) (s:LwD),(∀ b∈l,aDG b.conds)->Pre L (l.foldl LwD.branch s)->(∀ x∈(l.foldl LwD.branch s).acts,x∈A)->(∀ a,KAt r L (l.foldl LwD.branch s) a=d)->∀ a,KAt r L s a=jV d l r
 | [],s,_,_,_,hv,a=>hv a
 | b :: l,s,hi,h,hs,hv,a=>by
  have hp:Pre L (s.branch b):=(zQ l _).trans h
  have hsub:∀ x∈(s.branch b).acts,x∈A:=λx hx=>hs x (by
   have:∀ (l:List cQ) (s:LwD),∀ x∈s.acts,x∈(l.foldl LwD.branch s).acts:=λl=>by
    induction l with
    | nil=>exact λs x hx=>hx
    | cons b l ih=>exact λs x hx=>ih _ x ((qS s b).2 x hx)
   exact this l _ x hx)
  have ih:=aHx w hr hA l (s.branch b) (λb hb=>hi b (List.mem_cons_of_mem _ hb)) h hs hv;rw[aKA w hr hA (hi b (List.mem_cons_self ..)) hp hsub ih a,aD3]
theorem oL:∀ (l:List cQ) (s:LwD),(l.foldl LwD.branch s).other=s.other/\∀ x∈s.acts,x∈(l.foldl LwD.branch s).acts
 | [],s=>⟨rfl,λ_ hx=>hx⟩
 | b :: l,s=>by
  obtain⟨h2,h3⟩:=oL l (s.branch b);obtain⟨k1,k2⟩:=qS s b;exact⟨h2.trans k1,λx hx=>h3 x (k2 x hx)⟩
theorem aNo(w:wfL L)(hr:r.ok){A:List (BitVec 32×Nat)}(hA:AtA r L A){st:List (BitVec 32×Nat)}{s:LwD}{c:dC}(hi:∀ b∈c.branches,aDG b.conds)(h:Pre L (LwD.case1 st s c))(hs:∀ x∈(LwD.case1 st s c).acts,x∈A){d:BitVec 32}(ho:∀ a,atN r L s.other a=d):
  ∀ a,atN r L (jG c.number st) a=jV d c.branches r:=by
 intro a;have hb:Pre L (s.put (cF (jG c.number st))):=(xX c.branches _).trans h;rw[(rH w hb).2];refine aHx w hr hA c.branches _ hi (Pre.back (p:=oM (c.branches.foldl LwD.branch (s.put (cF (jG c.number st)))).other) h) hs (λa =>?_) a;rw[aEj w (s:=c.branches.foldl LwD.branch (s.put (cF (jG c.number st)))) h,(oL c.branches _).1];exact ho a
theorem aHt(w:wfL L)(hr:r.ok){A:List (BitVec 32×Nat)}(hA:AtA r L A){st:List (BitVec 32×Nat)}{d:BitVec 32}:∀ (l:List dC) (s:LwD),(∀ c∈l,∀ b∈c.branches,aDG b.conds)->Pre L (LwD.cases st l s)->(∀ x∈(LwD.cases st l s).acts,x∈A)->(∀ a,atN r L s.other a=d) ->
  ∀ c∈l,∀ a,atN r L (jG c.number st) a=jV d c.branches r
 | [],_,_,_,_,_,c,hc,_=>by cases hc
 | x :: l,s,hi,h,hs,ho,c,hc,a=>by
  have hp:Pre L (LwD.case1 st s x):=(yS st l _).trans h;have k1:(LwD.case1 st s x).other=s.other:=(oL x.branches (s.put (cF (jG x.number st)))).1
  have sub:∀ (l:List dC) (s:LwD),∀ y∈s.acts,y∈(LwD.cases st l s).acts:=λl=>by
   induction l with
   | nil=>exact λs y hy=>hy
   | cons z l ih=>exact λs y hy=>ih (LwD.case1 st s z) y ((oL z.branches (s.put (cF (jG z.number st)))).2 y hy)
  rcases List.mem_cons.1 hc with rfl | hc
  ·exact aNo w hr hA (hi c (List.mem_cons_self ..)) hp (λy hy=>hs y (sub l _ y hy)) ho a
  ·exact aHt w hr hA l (LwD.case1 st s x) (λc hc=>hi c (List.mem_cons_of_mem _ hc)) h hs (by rw[k1];exact ho) c hc a
theorem aKi(w:wfL L){A:List (BitVec 32×Nat)}:∀ (l:List (BitVec 32×Nat)) (s:LwD),(∀ x∈l,jG x.1 A=x.2)->Pre L ((l.map Prod.fst).foldl (LwD.end1 A) s)->AtA r L l
 | [],_,_,_=>λx hx=>by cases hx
 | y :: l,s,hx,h=>by
  rw[List.map_cons,List.foldl_cons]at h;have hp:Pre L (LwD.end1 A s y.1):=(aEr A _ _).trans h;intro x hm a;rcases List.mem_cons.1 hm with rfl | hm
  ·unfold LwD.end1 at hp
   rw[hx x (List.mem_cons_self ..)]at hp;rw[(rH w (Pre.back hp)).2,yB hp]
   rfl
  ·exact aKi w l _ (λz hz=>hx z (List.mem_cons_of_mem _ hz)) h x hm a
def aBy(F:dC->BitVec 32)(d:BitVec 32)(l:List dC)(n:BitVec 32):BitVec 32:=match l.find? λc=>decide (c.number=n) with
 | none=>d
 | some c=>F c
theorem aBN(w:wfL L){st:List (BitVec 32×Nat)}{F:dC->BitVec 32}{d n:BitVec 32}:∀ (f:Nat) (l:List dC) (s:LwD),l.length<f->Pre L (LwD.choose st f l s)->(l.Pairwise λa b=>a.number.toNat<b.number.toNat) ->
  (∀ c∈l,∀ a,atN r L (jG c.number st) a=F c)->(∀ a,atN r L s.other a=d)->KAt r L s n=aBy F d l n
 | 0,_,_,hf,_,_,_,_=>by omega
 | f+1,l,s,hf,h,hp,hF,ho=>by
  unfold LwD.choose at h
  by_cases h0:l.length=0
  ·rw[if_pos h0]at h
   have:l=[]:=List.eq_nil_of_length_eq_zero h0;subst this;rw[aEj w h,ho];rfl
  rw[if_neg h0]at h
  by_cases h1:l.length=1
  ·rw[if_pos h1]at h
   obtain⟨c,rfl⟩:=List.length_eq_one_iff.1 h1;have hn0:oU [c] 0=c.number:=rfl;rw[hn0]at h;rw[aAQ w h,nA,hF c (List.mem_singleton.2 rfl),ho];unfold aBy
   by_cases hc:n=c.number
   ·simp[hc]
   ·have hc':¬ c.number=n:=λe=>hc e.symm
    simp[hc,hc']
  rw[if_neg h1]at h;have hhalf:l.length / 2<l.length:=by omega
  rw[xC hhalf]at h;have p5:=(nN st f (l.drop (l.length / 2)) _).trans h;have p4:=Pre.back p5;have p3:=(nN st f (l.take (l.length / 2)) _).trans p4;have p2:=Pre.back p3;have k1:=aAQ (r:=r) w p2 n;have k2:=(rH (r:=r) w p3).2;have k3:=(rH (r:=r) w p5).2
  have oth:∀ a,atN r L ((LwD.choose st f (l.take (l.length / 2)) ((s.new.new.put (pIf 48#16 l[l.length / 2].number (s.last+2) (s.last+1))).put (cF (s.last+1)))).put (cF (s.last+2))).other a=d:=by
   have:((LwD.choose st f (l.take (l.length / 2)) ((s.new.new.put (pIf 48#16 l[l.length / 2].number (s.last+2) (s.last+1))).put (cF (s.last+1)))).put (cF (s.last+2))).other=s.other:=(eU.choose st f (l.take (l.length / 2)) _).2.1;rw[this];exact ho
  have i1:=aBN w (F:=F) (d:=d) (n:=n) f (l.take (l.length / 2)) _ (by rw[List.length_take];omega) p4 (hp.sublist (List.take_sublist _ _)) (λc hc=>hF c (List.mem_of_mem_take hc)) ho
  have i2:=aBN w (F:=F) (d:=d) (n:=n) f (l.drop (l.length / 2)) _ (by rw[List.length_drop];omega) h (hp.sublist (List.drop_sublist _ _)) (λc hc=>hF c (List.mem_of_mem_drop hc)) oth
  have e0:KAt r L s n=KAt r L s.new.new n:=rfl;rw[e0,k1,aDP,k2,k3,i1,i2];have hsplit:l=l.take (l.length / 2)++l.drop (l.length / 2):=(List.take_append_drop _ _).symm
  have hlow:∀ c∈l.take (l.length / 2),c.number.toNat<l[l.length / 2].number.toNat:=by
   intro c hc;obtain⟨j,hj,rfl⟩:=List.getElem_of_mem hc;rw[List.length_take]at hj;rw[List.getElem_take];exact List.pairwise_iff_getElem.1 hp j (l.length / 2) (by omega) hhalf (by omega)
  have hhigh:∀ c∈l.drop (l.length / 2),l[l.length / 2].number.toNat<=c.number.toNat:=by
   intro c hc;obtain⟨j,hj,rfl⟩:=List.getElem_of_mem hc;rw[List.length_drop]at hj;rw[List.getElem_drop];rcases Nat.eq_zero_or_pos j with rfl | hj0
   ·exact Nat.le_refl _
   ·exact Nat.le_of_lt (List.pairwise_iff_getElem.1 hp (l.length / 2) (l.length / 2+j) hhalf (by omega) (by omega))
  have key:aBy F d l n=if l[l.length / 2].number.toNat<=n.toNat then aBy F d (l.drop (l.length / 2)) n else aBy F d (l.take (l.length / 2)) n:=by
   have hfd:l.find? (λc=>decide (c.number=n))=((l.take (l.length / 2)).find? (λc=>decide (c.number=n))).or ((l.drop (l.length / 2)).find? (λc=>decide (c.number=n))):=by
    conv=>lhs;rw[hsplit]
    rw[List.find?_append]
   by_cases hle:l[l.length / 2].number.toNat<=n.toNat
   ·rw[if_pos hle]
    unfold aBy
    have hnone:(l.take (l.length / 2)).find? (λc=>decide (c.number=n))=none:=by
     rw[List.find?_eq_none];intro c hc he;have:=hlow c hc;rw[of_decide_eq_true he]at this;omega
    rw[hfd,hnone,Option.none_or]
   ·rw[if_neg hle]
    unfold aBy
    have hnone:(l.drop (l.length / 2)).find? (λc=>decide (c.number=n))=none:=by
     rw[List.find?_eq_none];intro c hc he;have:=hhigh c hc;rw[of_decide_eq_true he]at this;omega
    rw[hfd,hnone,Option.or_none]
  rw[key]
  by_cases hc:l[l.length / 2].number.toNat<=n.toNat
  ·rw[if_pos (decide_eq_true hc),if_pos hc]
  ·rw[if_neg (by simpa using hc),if_neg hc]
end
theorem aKd(p:jS)(hp:p.cases.Pairwise λa b=>a.number.toNat<b.number.toNat)(hi:∀ c∈p.cases,∀ b∈c.branches,aDG b.conds)(r:aU)(hr:r.ok)(a:BitVec 32):
  (den r (hU p).parts).2 a=oR p r:=by
 have hnd:(p.cases.map dC.number).Nodup:=by
  rw[List.nodup_iff_pairwise_ne,List.pairwise_map];exact hp.imp λh e=>by rw[e]at h;omega
 have hl:=aJV p hnd;have w:=hl.fin.wf;generalize hL:(hU p).parts=L at *
 have q5:Pre L (LwD.cases (eH p).2 p.cases (jC p)):=by
  show _ <+: L
  rw[<- hL];exact aEr _ _ _
 have q4:Pre L (jC p):=(yS _ _ _).trans q5;have q3:Pre L ((eH p).1.put (bI (dE 0#32))):=(nN _ _ _ _).trans q4;obtain⟨_,_,_,r4,r5⟩:=yW p.cases (lower0 p.default,[]) hnd (by simp) (by simp) (LO.lower0 p.default)
 have r4:(eH p).1.parts=(lower0 p.default).parts:=r4;have r5:eU (lower0 p.default) (eH p).1:=r5
 have q2:Pre L (lower0 p.default):=by
  show _ <+: L
  rw[<- r4];exact Pre.back q3
 have hla:=hl.lo5.1.la
 have hA:AtA r L (LwD.cases (eH p).2 p.cases (jC p)).acts:=by
  refine aKi w (A:=(LwD.cases (eH p).2 p.cases (jC p)).acts) _ (LwD.cases (eH p).2 p.cases (jC p)) (λx hx=>aBf hla.2 hx) ?_
  show _ <+: L
  rw[<- hL,<- hla.1];exact List.prefix_refl _
 have hkc:=eU.choose (eH p).2 (p.cases.length+1) p.cases ((eH p).1.put (bI (dE 0#32)));have acts4:(jC p).acts=(lower0 p.default).acts:=hkc.1.trans r5.1;have oth4:(jC p).other=(lower0 p.default).other:=hkc.2.1.trans r5.2.1
 have sub5:∀ x∈(lower0 p.default).acts,x∈(LwD.cases (eH p).2 p.cases (jC p)).acts:=by
  rw[<- acts4]
  have:∀ (l:List dC) (s:LwD),∀ y∈s.acts,y∈(LwD.cases (eH p).2 l s).acts:=λl=>by
   induction l with
   | nil=>exact λs y hy=>hy
   | cons z l ih=>exact λs y hy=>ih (LwD.case1 (eH p).2 s z) y ((oL z.branches (s.put (cF (jG z.number (eH p).2)))).2 y hy)
  exact this p.cases (jC p)
 have hother:∀ a,atN r L (lower0 p.default).other a=p.default:=by
  have h1:=pV LwD.zero p.default;have h2:(p.default,(rY p.default).other)∈(lower0 p.default).acts:=aEF (rY p.default) _ _ h1;have h3:(lower0 p.default).other=(rY p.default).other:=(lR (rY p.default) 2147483648#32).2;rw[h3];exact hA _ (sub5 _ h2)
 have hkill:∀ a,atN r L (low2 p.default).2 a=2147483648#32:=by
  have h1:=pV (rY p.default) 2147483648#32;exact hA _ (sub5 _ h1)
 have hcases:=aHt (r:=r) w hr hA (st:=(eH p).2) (d:=p.default) p.cases (jC p) hi q5 (λx hx=>hx) (by rw[oth4];exact hother)
 have w0:kP r 0#32=(r.number,true):=rfl;have w4:kP r 4#32=(r.arch,true):=rfl
 have hnum:∀ a,KAt r L (lower0 p.default) a=match p.cases.find? (λc=>decide (c.number=r.number)) with | none=>p.default | some c=>jV p.default c.branches r:=by
  intro a;have e1:KAt r L (lower0 p.default)=KAt r L (eH p).1:=by unfold KAt;rw[r4]
  rw[e1,yB q3 a];have hs:cH r (dE 0#32) a=((kP r 0#32).1,0,none):=rfl;rw[hs,w0];simp only;rw[aBN w (F:=λc=>jV p.default c.branches r) (d:=p.default) (p.cases.length+1) p.cases _ (Nat.lt_succ_self _) q4 hp hcases (λa =>?_)]
  ·rfl
  ·show atN r L (eH p).1.other a=_
   rw[r5.2.1];exact hother a
 have hq1:=Pre.back (s:=((low2 p.default).1.new.put (bI (dE 4#32))).put (pIf 16#16 3221225534#32 ((low2 p.default).1.last+1) (low2 p.default).2)) (p:=cF ((low2 p.default).1.last+1)) q2;have hq0:=Pre.back hq1;have hown:=(rH (r:=r) w (s:=((low2 p.default).1.new.put (bI (dE 4#32))).put (pIf 16#16 3221225534#32 ((low2 p.default).1.last+1) (low2 p.default).2)) q2).2;have hown:atN r L ((low2 p.default).1.last+1)=KAt r L (lower0 p.default):=hown
 have hz:(low2 p.default).1.parts=[]:=by
  show((rY p.default).act _).1.parts=[]
  rw[(lR _ _).1]
  show(LwD.zero.act p.default).1.parts=[]
  rw[(lR _ _).1];rfl
 have hstart:(den r L).2 a=KAt r L (low2 p.default).1.new a:=by
  unfold KAt;have:(low2 p.default).1.new.parts=[]:=hz;rw[this];rfl
 rw[hstart,yB hq0 a];have hs:cH r (dE 4#32) a=((kP r 4#32).1,0,none):=rfl;rw[hs,w4];simp only;rw[aAQ w hq1,nA,hown,hnum,hkill];unfold oR
 by_cases ha:r.arch=3221225534#32
 ·rw[if_pos (decide_eq_true ha),if_pos ha]
  cases p.cases.find? (λc=>decide (c.number=r.number))<;>rfl
 ·rw[if_neg (by simpa using ha),if_neg ha]
end
section
set_option maxRecDepth 20000
section
variable {E:Sy}{H H' H0 Z:AH}{Q:Value->AH->Prop}
theorem rN:∀ l:List cR,(dN l).length<=l.length
 | []=>Nat.le_refl _
 | r :: l=>by
  have:=rN l;rw[dN]
  split
  ·simp;omega
  ·split
   ·simp
   ·simp;omega
theorem aLX(l:List cR):(nO l).length<=4*l.length:=by
 have h:∀ k,(mG l k).length<=l.length:=λk=>List.length_filter_le _ _;have h0:=h 0;have h1:=h 1;have h2:=h 2;have h3:=h 3;simp only[nO,List.length_append];omega
theorem wD.nodup{p:lF}{ns:List (BitVec 32)}(h:wD p ns):ns.Nodup:=h.up.imp fun {a b} hab e=>by subst e;omega
theorem wD.len{p:lF}{ns:List (BitVec 32)}(h:wD p ns):ns.length<=p.rules.length:=by
 have:=qE ns (p.rules.map cR.number) h.nodup λn hn=>by
  obtain⟨r,hr,rfl⟩:=(h.mem n).1 hn;exact List.mem_map.2 ⟨r,hr,rfl⟩
 simpa using this
theorem aAY{p:lF}{ns:List (BitVec 32)}(h:wD p ns):(eI p ns).cases.Pairwise λa b=>a.number.toNat<b.number.toNat:=by
 unfold eI;simp only;rw[List.pairwise_map];exact h.up
theorem aCA{p:lF}{ns:List (BitVec 32)}:∀ c∈(eI p ns).cases,c.branches.length<=4*p.rules.length:=by
 intro c hc;unfold eI at hc;obtain⟨n,_,rfl⟩:=List.mem_map.1 hc;have h1:=rN (nO (gB p.rules n));have h2:=aLX (gB p.rules n);have h3:(gB p.rules n).length<=p.rules.length:=List.length_filter_le _ _
 show(dN (nO (gB p.rules n))).length<=_
 omega
end
end
section
set_option maxRecDepth 20000
theorem aFc(A:List (BitVec 32×Nat)):∀ (l:List (BitVec 32)) (s:LwD),l≠[]->∃ l0 k,(l.foldl (LwD.end1 A) s).parts=l0++[aPo k]
 | [],_,h=>(h rfl).elim
 | [a],s,_=>⟨(s.put (cF (jG a A))).parts,a,rfl⟩
 | a :: b :: l,s,_=>aFc A (b :: l) (LwD.end1 A s a) (by simp)
theorem aEJ{α:Type}(f:α->Nat)(m:Nat):∀ l:List α,(∀ x∈l,f x<=m)->(l.map f).sum<=l.length*m
 | [],_=>by simp
 | x :: l,h=>by
  have h1:=aEJ f m l λy hy=>h y (List.mem_cons_of_mem _ hy);have h2:=h x (List.mem_cons_self ..);simp only[List.map_cons,List.sum_cons,List.length_cons];rw[Nat.add_mul,Nat.one_mul];omega
theorem aPn{p:jS}{a b c:Nat}(h1:p.cases.length<=a)(h2:∀ x∈p.cases,x.branches.length<=b)(h3:∀ x∈p.cases,∀ y∈x.branches,y.conds.length<=c):wP p<=20+8*a+a*(b*(12*c+5)+2):=by
 have h4:∀ x∈p.cases,wK x<=b*(12*c+5)+2:=by
  intro x hx;have:wK x=(x.branches.map wC).sum+1+1:=rfl;rw[this]
  have h5:=aEJ wC (12*c+5) x.branches λy hy=>by
   have:=h3 x hx y hy;unfold wC;omega
  have h6:=Nat.mul_le_mul_right (12*c+5) (h2 x hx);omega
 have h5:=aEJ wK _ p.cases h4;have h6:=Nat.mul_le_mul_right (b*(12*c+5)+2) h1;unfold wP;omega
theorem xJ:∀ (l out:List bA) (c:bA),c∈fD out l->c∈out\/c∈l
 | [],_,_,h => .inl h
 | x :: l,out,c,h=>by
  unfold fD at h;rcases xJ l _ c h with h1 | h1
  ·split at h1
   ·rcases List.mem_append.1 h1 with h2 | h2
    ·exact .inl h2
    ·rw[List.mem_singleton]at h2;subst h2;exact .inr (List.mem_cons_self ..)
   ·exact .inl h1
  ·exact .inr (List.mem_cons_of_mem _ h1)
theorem xL:∀ (l out:List bA),(fD out l).length<=out.length+l.length
 | [],_=>by simp[fD]
 | x :: l,out=>by
  unfold fD;have:=xL l (if lW x=false/\x ∉ out then out++[x] else out)
  split at this
  ·rename_i h;rw[if_pos h];simp at this ⊢; omega
  ·rename_i h;rw[if_neg h];simp at this ⊢; omega
theorem aAt:∀ (l:List cR) (b:cQ),b∈dN l->∃ x∈l,(∀ c∈b.conds,c∈x.conds)/\b.conds.length<=x.conds.length
 | [],b,h=>by simp[dN]at h
 | x :: l,b,h=>by
  unfold dN at h
  have hrec:b∈dN l->∃ y∈x :: l,(∀ c∈b.conds,c∈y.conds)/\b.conds.length<=y.conds.length:=λh=>by
   obtain⟨y,h1,h2⟩:=aAt l b h;exact⟨y,List.mem_cons_of_mem _ h1,h2⟩
  split at h
  ·exact hrec h
  split at h
  ·rw[List.mem_singleton]at h
   subst h;exact⟨x,List.mem_cons_self ..,by simp,by simp⟩
  ·rcases List.mem_cons.1 h with h | h
   ·subst h
    refine⟨x,List.mem_cons_self ..,λc hc =>?_,?_⟩
    ·rcases xJ x.conds [] c hc with h | h
     ·cases h
     ·exact h
    ·have:=xL x.conds []
     show(fD [] x.conds).length<=_
     simpa using this
   ·exact hrec h
theorem sN{p:lF}{n:BitVec 32}{b:cQ}(h:b∈(mK p n).branches):∃ x∈p.rules,(∀ c∈b.conds,c∈x.conds)/\b.conds.length<=x.conds.length:=by
 obtain⟨x,h1,h2⟩:=aAt _ b h;refine⟨x,?_,h2⟩;have h3:∀ k,x∈mG (gB p.rules n) k->x∈gB p.rules n:=λk hk=>(List.mem_filter.1 hk).1
 have:x∈gB p.rules n:=by
  unfold nO at h1;simp only[List.mem_append]at h1;rcases h1 with ((h | h) | h) | h<;>exact h3 _ h
 exact(List.mem_filter.1 this).1
def aMh(p:lF):Prop:=∀ x∈p.rules,aDG x.conds
theorem aAU{p:lF}(h:aMh p)(ns:List (BitVec 32)):∀ c∈(eI p ns).cases,∀ b∈c.branches,aDG b.conds:=by
 intro c hc b hb x hx;obtain⟨n,_,rfl⟩:=List.mem_map.1 hc;obtain⟨y,h1,h2,_⟩:=sN hb;exact h y h1 x (h2 x hx)
theorem aM1{p:lF}{ns:List (BitVec 32)}(hn:wD p ns){a c:Nat}(h1:p.rules.length<=a)(h2:∀ x∈p.rules,x.conds.length<=c):wP (eI p ns)<=20+8*a+a*(4*a*(12*c+5)+2):=by
 refine aPn ?_ (λx hx =>?_) λx hx y hy =>?_
 ·have:=hn.len
  show(ns.map (mK p)).length<=_
  rw[List.length_map];omega
 ·have:=aCA x hx;omega
 ·obtain⟨n,_,rfl⟩:=List.mem_map.1 hx
  obtain⟨z,h3,_,h4⟩:=sN hy;have:=h2 z h3;omega
theorem aKO(c:gD):0<=c.cond.arg/\c.cond.arg<=5:=by
 have h:(c.arg % 6#8).toNat<6:=by
  rw[BitVec.toNat_umod];exact Nat.mod_lt _ (by decide)
 have:c.cond.arg=((c.arg % 6#8).toNat:Int):=by unfold gD.cond;split<;>rfl
 rw[this];omega
theorem cY.pol_conds(s:cY):∀ x∈s.pol.pol.rules,x.conds.length<=4:=by
 intro x hx;simp only[cY.pol,List.mem_map]at hx;obtain⟨y,_,rfl⟩:=hx;simp only[rP.rule,List.length_map,List.length_take];omega
end
section
set_option maxRecDepth 20000
def nV(p:aG):Bool:=decide (p.kind=2#8)&&decide (p.insn.code=32#16)
theorem zO{p:aG}(h:p.kind=1#8)(l:List aG)(now:Option (BitVec 32)):dH (p :: l) now=p :: dH l none:=by
 show(if p.kind=1#8 then _ else _)=_
 rw[if_pos h]
theorem zE{p:aG}(h:nV p=true)(l:List aG)(now:Option (BitVec 32)):dH (p :: l) now=if now=some p.insn.k then dH l now else p :: dH l (some p.insn.k):=by
 simp only[nV,Bool.and_eq_true,decide_eq_true_eq]at h
 show(if p.kind=1#8 then _ else if p.kind=2#8/\p.insn.code=32#16 then _ else _)=_
 rw[if_neg (by rw[h.1];decide),if_pos h]
theorem qN{p:aG}(h2:p.kind=2#8)(h:nV p=false)(l:List aG)(now:Option (BitVec 32)):dH (p :: l) now=p :: dH l none:=by
 have hc:¬ (p.kind=2#8/\p.insn.code=32#16):=λhc=>by simp[nV,hc.1,hc.2]at h
 show(if p.kind=1#8 then _ else if p.kind=2#8/\p.insn.code=32#16 then _ else if p.kind=2#8 then _ else _)=_
 rw[if_neg (by rw[h2];decide),if_neg hc,if_pos h2]
theorem nC{p:aG}(h1:p.kind≠1#8)(h2:p.kind≠2#8)(l:List aG)(now:Option (BitVec 32)):dH (p :: l) now=p :: dH l now:=by
 show(if p.kind=1#8 then _ else if p.kind=2#8/\p.insn.code=32#16 then _ else if p.kind=2#8 then _ else _)=_
 rw[if_neg h1,if_neg (λh=>h2 h.1),if_neg h2]
theorem aGa{p:aG}(h:nV p=true):p.kind=2#8/\p.insn.code=32#16:=by
 simpa[nV] using h
theorem aB0(r:aU){p:aG}(h:nV p=true)(d:List (Int×Beh)×Beh):fU r p d=(d.1,λ_=>d.2 (kP r p.insn.k).1):=by
 obtain⟨h2,hc⟩:=aGa h;unfold fU;rw[if_neg (by rw[h2];decide),if_neg (by rw[h2];decide),if_neg (by rw[h2];decide)]
 have:∀ a,cH r p.insn a=((kP r p.insn.k).1,0,none):=λa=>by unfold cH;rw[if_pos hc]
 simp only[this]
theorem zA(r:aU){p:aG}(h1:p.kind≠1#8)(d d':List (Int×Beh)×Beh)(he:d'.1=d.1)(hb:p.kind=2#8->d'.2=d.2)(hk:p.kind=2#8\/p.kind=3#8\/p.kind=4#8):fU r p d'=fU r p d:=by
 unfold fU;rw[if_neg h1,if_neg h1];rcases hk with h | h | h
 ·rw[if_neg (by rw[h];decide),if_neg (by rw[h];decide),if_neg (by rw[h];decide),if_neg (by rw[h];decide),he,hb h]
 ·rw[if_neg (by rw[h];decide),if_pos h,if_neg (by rw[h];decide),if_pos h,he]
 ·rw[if_pos h,if_pos h,he]
theorem iY{p:aG}(h:dK p):p.kind=1#8\/p.kind=2#8\/p.kind=3#8\/p.kind=4#8:=by
 rcases h with h | h | ⟨h,_⟩ | ⟨h,_⟩
 ·exact .inl h
 ·exact .inr (.inr (.inr h))
 ·exact .inr (.inl h)
 ·exact .inr (.inr (.inl h))
theorem pT(r:aU):∀ (l:List aG) (now:Option (BitVec 32)),(∀ p∈l,dK p)->(den r (dH l now)).1=(den r l).1/\∀ a,(∀ k,now=some k->a=(kP r k).1)->(den r (dH l now)).2 a=(den r l).2 a
 | [],_,_=>⟨rfl,λ_ _=>rfl⟩
 | p :: l,now,hp=>by
  have hl:∀ q∈l,dK q:=λq hq=>hp q (List.mem_cons_of_mem _ hq);have i0:=pT r l none hl;have e0:(den r (dH l none)).2=(den r l).2:=funext λa=>i0.2 a (λk h=>by cases h)
  rcases iY (hp p (List.mem_cons_self ..)) with h1 | h2 | h3 | h4
  ·rw[zO h1,dQ,dQ]
   unfold fU;rw[if_pos h1,if_pos h1,e0,i0.1];exact⟨rfl,λ_ _=>rfl⟩
  ·cases hld:nV p with
   | true =>
    rw[zE hld]
    by_cases hn:now=some p.insn.k
    ·rw[if_pos hn]
     have i1:=pT r l now hl;rw[dQ,aB0 r hld];refine⟨i1.1,λa ha =>?_⟩;rw[i1.2 a ha]
     show _=(den r l).2 (kP r p.insn.k).1
     rw[ha _ hn]
    ·rw[if_neg hn]
     have i1:=pT r l (some p.insn.k) hl;rw[dQ,dQ,aB0 r hld,aB0 r hld];refine⟨i1.1,λa _ =>?_⟩;exact i1.2 _ λk hk=>by cases hk;rfl
   | false =>
    rw[qN h2 hld,dQ,dQ,zA r (by rw[h2];decide) (den r l) (den r (dH l none)) i0.1 (λ_=>e0) (.inl h2)]
    exact⟨rfl,λ_ _=>rfl⟩
  ·have i1:=pT r l now hl
   rw[nC (by rw[h3];decide) (by rw[h3];decide),dQ,dQ,zA r (by rw[h3];decide) (den r l) (den r (dH l now)) i1.1 (λh=>by rw[h3]at h;exact absurd h (by decide)) (.inr (.inl h3))]
   exact⟨rfl,λ_ _=>rfl⟩
  ·have i1:=pT r l now hl
   rw[nC (by rw[h4];decide) (by rw[h4];decide),dQ,dQ,zA r (by rw[h4];decide) (den r l) (den r (dH l now)) i1.1 (λh=>by rw[h4]at h;exact absurd h (by decide)) (.inr (.inr h4))]
   exact⟨rfl,λ_ _=>rfl⟩
end
section
set_option maxRecDepth 20000
theorem cY.rules_12(s:cY):s.pol.pol.rules.length<=12:=by simp[cY.pol];omega
theorem dL.toZ{Z H:AH}{sz:Nat}{v:Value}{rows:List (List Value)}(h:dL Z H sz v rows):dL zH H sz v rows:=⟨h.1,h.2.imp id λ⟨b,f,c,cs,_,h2⟩=>⟨b,f,c,cs,nQ _,h2⟩⟩
section
variable {E:Sy}{H H' H0 Z:AH}{Q:Value->AH->Prop}{X:List Res}{fb:Nat}{c:List bL}
theorem tJ{H:AH}{z c:List Value}{n:Nat}(hz:z.length=n)(hc:c.length=n)(hp:c.all plain1=true):aI n (ptr H.next 0) (.agg c.toArray) (H.new (.cells z none))=some (H.new (.cells c none)):=by
 rw[cL,AH.get_new_self];have:AM.aQ z 0 c=c:=by simp[aQ,hz,hc]
 simp only[List.size_toArray,List.toList_toArray,hc,hz,hp,Nat.zero_add,Nat.le_refl,and_self,if_true,this,AH.new_put]
theorem rK{H:AH}{c:List Value}{n:Nat}(hc:c.length=n):aE n (ptr H.next 0) (H.new (.cells c none))=some (.agg c.toArray):=by rw[aL,AH.get_new_self,dF _ _ n hc];rfl
theorem aNh(p:jS):(hU p).parts.length<=3*wP p:=by
 have h3:(eH p).1.big=(lower0 p.default).big+p.cases.length:=qM p.cases (lower0 p.default,[]);have h0:=aCp p.default;have h4:(jC p).big+(if p.cases.length=0 then 0 else 6)<=((eH p).1.put (bI (dE 0#32))).big+7*p.cases.length+1:=nL (eH p).2 (p.cases.length+1) p.cases ((eH p).1.put (bI (dE 0#32))) (Nat.lt_succ_self _);rw[cD]at h4;have h5:=uC (eH p).2 p.cases (jC p);have hw:wP p=20+8*p.cases.length+(p.cases.map wK).sum:=rfl;have h6:=yD (LwD.cases (eH p).2 p.cases (jC p)).order (LwD.cases (eH p).2 p.cases (jC p)).acts (LwD.cases (eH p).2 p.cases (jC p));have h7:(LwD.cases (eH p).2 p.cases (jC p)).order.length<=(LwD.cases (eH p).2 p.cases (jC p)).big:=by unfold LwD.big;omega
 have h8:(hU p).parts.length<=(hU p).big:=by unfold LwD.big;omega
 have h9:(hU p).big=(LwD.cases (eH p).2 p.cases (jC p)).big+2*(LwD.cases (eH p).2 p.cases (jC p)).order.length:=h6;have h5:=uC (eH p).2 p.cases (jC p);omega
end
end
section
set_option maxRecDepth 20000
section
variable {E:Sy}{H H' H0 Z:AH}{Q:Value->AH->Prop}
theorem S.names_Word_p(hE:aW E)(hQ:∀ H',Ext H H'->Q (vb true) H'):E.call 33 [(.string ⟨#[112]⟩)] H Q:=by
 apply hE.f68;have k1:fW (.string ⟨#[112]⟩)=some (vi 1):=rfl;have k2:aA .lss (vi 1) (vi 1)=some (vb false):=rfl;have k3:aA .gtr (vi 1) (vi 14)=some (vb false):=rfl;have k4:iR (.string ⟨#[112]⟩) (vi 0)=some (.int .u8 112):=rfl;have k5:aA .lss (.int .u8 112) (.int .u8 97)=some (vb false):=rfl;have k6:aA .gtr (.int .u8 112) (.int .u8 122)=some (vb false):=rfl;have k7:zR (.string ⟨#[112]⟩)=some (.siter ⟨#[112]⟩ 0,oJ):=rfl;simp only[F.f68,k1,k2,k3,k4,k5,k6,k7,AM.aT,aR,aB];have h1:(H.new (.siter ⟨#[112]⟩ 0)).get H.next = .siter ⟨#[112]⟩ 0:=AH.get_new_self _ _;have x1:Ext H (H.new (.siter ⟨#[112]⟩ 0)):=(Ext.refl _).new _;have hlt:H.next<(H.new (.siter ⟨#[112]⟩ 0)).next:=by rw[AH.next_new];omega
 generalize hH1:H.new (.siter ⟨#[112]⟩ 0)=H1 at *
 have n1:rT (ptr H.next 0) H1=some (.tuple #[.bool true,vi 0,.int .i32 112],H1.put H.next (.siter ⟨#[112]⟩ 1)):=by
  simp only[rT,ptr,h1];rfl
 have x2:Ext H (H1.put H.next (.siter ⟨#[112]⟩ 1)):=x1.put (Nat.le_refl _) _;have h2:(H1.put H.next (.siter ⟨#[112]⟩ 1)).get H.next = .siter ⟨#[112]⟩ 1:=AH.get_put_self _ _ hlt
 have n2:rT (ptr H.next 0) (H1.put H.next (.siter ⟨#[112]⟩ 1))=some (.tuple #[.bool false],H1.put H.next (.siter ⟨#[112]⟩ 1)):=by
  simp only[rT,ptr,h2];rfl
 refine aY.step λX hX =>?_;have e0:ext (.tuple #[.bool true,vi 0,.int .i32 112]) 0=some (.bool true):=rfl;have e2:ext (.tuple #[.bool true,vi 0,.int .i32 112]) 2=some (.int .i32 112):=rfl;have e3:ext (.tuple #[.bool false]) 0=some (.bool false):=rfl;have c1:aA .lss (.int .i32 112) (.int .i32 97)=some (vb false):=rfl;have c2:aA .gtr (.int .i32 112) (.int .i32 122)=some (vb false):=rfl;simp only[F.f68_l1,n1,nE,e0,e2,c1,c2,aB];refine hX _ _ ?_;refine aY.step λX' hX' =>?_;simp only[F.f68_l1,n2,nE,e3,aB];exact hQ _ x2
theorem S.policy_action_allow(hE:aW E)(hQ:Q (vb true) H):E.call 34 [u32 2147418112#32] H Q:=by
 apply hE.f87;have k1:(.int .u32 2147483648:Value)=u32 2147483648#32:=rfl;have k2:(.int .u32 2147221504:Value)=u32 2147221504#32:=rfl;have k3:(.int .u32 2147418112:Value)=u32 2147418112#32:=rfl;have d1:decide (2147418112#32=2147483648#32)=false:=by decide
 have d2:decide (2147418112#32=2147221504#32)=false:=by decide
 have d3:decide (2147418112#32=2147418112#32)=true:=by decide
 simp only[F.f87,F.f87_j1,k1,k2,k3,oS,d1,d2,d3,aB];exact hQ
def pc0:List Value:=[(.string ⟨#[112]⟩),u32 2147418112#32,cB,u16 0#16,cB,cB]
theorem S.policy_Policy_Check_0(hE:aW E)(t:Nat)(hQ:∀ H',Ext H H'->Q (vi 0) H'):E.call 14 [.agg pc0.toArray,ptr t 0] H Q:=by
 apply hE.f82;have b1:=AH.get_new_self H (.cells pc0 none);have x1:Ext H (H.new (.cells pc0 none)):=(Ext.refl _).new _;have c0:pc0[0]? = some (.string ⟨#[112]⟩):=rfl;have c1:pc0[1]? = some (u32 2147418112#32):=rfl;have c2:pc0[2]? = some cB:=rfl;have c3:pc0[3]? = some (u16 0#16):=rfl;have c4:pc0[4]? = some cB:=rfl;have c5:pc0[5]? = some cB:=rfl;have ln:lenSlc cB=some (vi 0):=rfl;have g1:aA .gtr (vi 0) (vi 64)=some (vb false):=rfl;have g2:aA .gtr (vi 0) (vi 32)=some (vb false):=rfl;have g3:aA .lss (vi 0) (vi 0)=some (vb false):=rfl;have g4:aA .neq (vi 0) (vi 0)=some (vb false):=rfl;simp only[F.f82,aX,AM.aT,aR,List.toList_toArray,kL,b1,c0,aB];generalize H.new (.cells pc0 none)=H1 at *;generalize H.next=t1 at *;refine S.names_Word_p hE λH2 e2 =>?_;have b2:=e2.cells b1;have x2:=x1.trans e2;simp only[b2,c1,aB];refine S.policy_action_allow hE ?_;simp only[b2,c2,c4,c5,ln,g1,g2,c3,aB];apply hE.f96;have v1:aA .andNot (u16 0#16) (.int .u16 51199)=some (u16 0#16):=rfl;have v2:aA .eql (u16 0#16) (.int .u16 0)=some (vb true):=rfl;simp only[F.f96,v1,v2,b2,c2,ln,aB];refine aY.step λX hX =>?_;have lo:∀ {K:AH},Ext H2 K->aE 6 (ptr t1 0) K=some (.agg pc0.toArray):=λe=>by rw[aL,e.cells b2];rfl
 simp only[F.f82_l1,g3,lo (Ext.refl _),aB];apply hE.f84;have hmw:∀ (H:AH) (K:Value->AH->Prop),mY H K=K (.map (some H.next)) (H.new (.map [] 0 true)):=λ_ _=>rfl;have y1:Ext H2 ((H2.new (.cells pc0 none)).new (.map [] 0 true)):=((Ext.refl _).new _).new _;have b3:((H2.new (.cells pc0 none)).new (.map [] 0 true)).get H2.next = .cells pc0 none:=by rw[AH.get_new_ne _ _ (by rw[AH.next_new];omega),AH.get_new_self]
 simp only[F.f84,aX,AM.aT,aR,List.toList_toArray,hmw,b3,c4,ln,aB];generalize (H2.new (.cells pc0 none)).new (.map [] 0 true)=H3 at *;refine aY.step λX2 hX2 =>?_;simp only[F.f84_l1,g3,g4,lo y1,aB];apply hE.f85;have y2:Ext H3 ((H3.new (.cells pc0 none)).new (.map [] 0 true)):=((Ext.refl _).new _).new _;have b4:((H3.new (.cells pc0 none)).new (.map [] 0 true)).get H3.next = .cells pc0 none:=by rw[AH.get_new_ne _ _ (by rw[AH.next_new];omega),AH.get_new_self]
 simp only[F.f85,aX,AM.aT,aR,List.toList_toArray,hmw,b4,c5,ln,aB];generalize (H3.new (.cells pc0 none)).new (.map [] 0 true)=H4 at *;refine aY.step λX3 hX3 =>?_;simp only[F.f85_l1,g3,aB];exact hQ _ ((x2.trans y1).trans y2)
end
end
end Go.AM
