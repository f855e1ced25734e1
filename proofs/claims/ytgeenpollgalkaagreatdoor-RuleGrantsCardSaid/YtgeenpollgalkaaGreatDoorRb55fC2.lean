/- CONTRACTS ON THE PRINTED FUNCTIONS. -/
import Derived.Test.YtgeenpollgalkaaGreatDoorRb55fC1
set_option linter.all false
section
namespace Go.AM
def Tr.Each (P:Nd->Prop) (T:Tr):Prop:=∀ n,P (T.node n)
structure Keeps (P:Nd->Prop):Prop where
 none:P Nd.none
 addE:∀ s k x,P x->P (Nd.addE s k x)
 delE:∀ s x,P x->P (Nd.delE s x)
 addL:∀ k x,P x->P (Nd.addL k x)
 addH:∀ k x,P x->P (Nd.addH k x)
 par:∀ (q:BitVec 16) (x:Nd),P x->P { x with parent:=q }
 made:∀ inn k text,¬ (k=0#8\/3#8<k\/(k=3#8/\(text.length<1\/120<text.length)))->P (Nd.made inn k text)
 data:∀ (x:Nd) (d:List (BitVec 8)),x.kind=1#8->P x->P { x with data:=d }
section
variable {T:Tr} {P:Nd->Prop} (K:Keeps P)
theorem Tr.Each.upd (h:T.Each P) {n:BitVec 16} {f:Nd->Nd} (hf:∀ x:Nd,P x->P (f x)):(T.upd n f).Each P:=by
 intro k
 rcases T.upd_or n k f with e | e
 ·rw [e]; exact h k
 ·rw [e]; exact hf _ (h k)
theorem Tr.Each.updAt (h:T.Each P) {n:BitVec 16} {f:Nd->Nd} (hf:P (f (T.node n))):(T.upd n f).Each P:=by
 intro k
 unfold Tr.upd Tr.node
 simp only [List.getD_eq_getElem?_getD,List.getElem?_modify]
 have hk:=h k
 unfold Tr.node at hk hf
 simp only [List.getD_eq_getElem?_getD] at hk hf
 by_cases e:n.toNat=k.toNat
 ·rw [e] at hf
  cases hh:T.N[k.toNat]? with
  | none=>rw [hh] at hk; exact hk
  | some x=>rw [hh] at hf; simpa [e] using hf
 ·simp only [e,if_false]
  cases hh:T.N[k.toNat]? with
  | none=>rw [hh] at hk; exact hk
  | some x=>rw [hh] at hk; exact hk
theorem Tr.Each.bump (h:T.Each P):T.bump.Each P:=h
include K
theorem Tr.Each.tidy (h:T.Each P) (n:BitVec 16):(T.tidy n).Each P:=by
 unfold Tr.tidy
 split
 ·exact h.upd fun _ _=>K.none
 ·exact h
theorem Tr.Each.put (h:T.Each P) (a:Nat) (x:Nd) (hx:P x):(T.put a x).Each P:=by
 intro k
 unfold Tr.put Tr.node
 simp only [List.getD_eq_getElem?_getD]
 have hk:=h k
 unfold Tr.node at hk
 simp only [List.getD_eq_getElem?_getD] at hk
 split
 ·rw [List.getElem?_set]
  split
  ·exact hx
  ·exact hk
 ·rw [List.getElem?_append]
  split
  ·exact hk
  ·cases hz:([x][k.toNat - T.N.length]? : Option Nd) with
   | none=>exact K.none
   | some z =>
    have:=List.mem_of_getElem? hz
    simp at this
    subst this
    exact hx
theorem Tr.Each.make (h:T.Each P) (inn:BitVec 16) (s:NameL) (kd:BitVec 8) (text:List UInt8):(T.make inn s kd text).1.Each P:=by
 unfold Tr.make
 split
 ·exact h
 split
 ·exact h
 rename_i hc
 split
 ·exact h
 exact ((h.put K T.free (Nd.made inn kd text) (K.made inn kd text hc)).upd (f:=Nd.addE s (BitVec.ofNat 16 T.free)) fun x hx=>K.addE _ _ _ hx).bump
theorem Tr.Each.add (h:T.Each P) (inn:BitVec 16) (s:NameL) (v:BitVec 16):(T.add inn s v).1.Each P:=by
 unfold Tr.add
 repeat' split
 all_goals try exact h
 exact ((h.upd (f:=Nd.addE s v) fun x hx=>K.addE _ _ _ hx).upd (f:=Nd.addL 1) fun x hx=>K.addL _ _ hx).bump
theorem Tr.Each.drop (h:T.Each P) (inn:BitVec 16) (s:NameL) (d:Bool):(T.drop inn s d).1.Each P:=by
 unfold Tr.drop
 repeat' split
 all_goals try exact h
 exact Tr.Each.tidy K ((h.upd (f:=Nd.delE s) fun x hx=>K.delE _ _ hx).upd (f:=Nd.addL (-1)) fun x hx=>K.addL _ _ hx).bump _
theorem Tr.Each.hold (h:T.Each P) (n:BitVec 16) (more:Bool):(T.hold n more).1.Each P:=by
 unfold Tr.hold
 repeat' split
 all_goals try exact h
 ·exact h.upd fun x hx=>K.addH _ _ hx
 ·exact Tr.Each.tidy K (h.upd fun x hx=>K.addH _ _ hx) _
theorem Tr.Each.move (h:T.Each P) (fr:BitVec 16) (s:NameL) (to:BitVec 16) (other:NameL):(T.move fr s to other).1.Each P:=by
 have key:∀ (U:Tr) (n:BitVec 16),U.Each P->(Tr.moved U fr s to other n).Each P:=by
  intro U n hU
  have h2:((U.upd fr (Nd.delE s)).upd to (Nd.addE other n)).Each P:=(hU.upd (f:=Nd.delE s) fun x hx=>K.delE _ _ hx).upd (f:=Nd.addE other n) fun x hx=>K.addE _ _ _ hx
  unfold Tr.moved
  simp only
  split
  ·exact (h2.upd (f:=fun x=>{ x with parent:=to }) fun x hx=>K.par _ _ hx).bump
  ·exact h2.bump
 unfold Tr.move
 split
 ·exact h
 split
 ·exact h
 split
 ·exact h
 split
 ·exact h
 split
 ·exact h
 refine key _ _ ?_
 split
 ·exact h.drop K _ _ _
 ·exact h
theorem Tr.Each.write (h:T.Each P) (n:BitVec 16) (at_:Int) (b:List (BitVec 8)):(T.write n at_ b).1.Each P:=by
 unfold Tr.write
 split
 ·exact h
 split
 ·exact h
 split
 ·exact h
 rename_i hc
 split
 ·exact h
 refine Tr.Each.bump (Tr.Each.updAt h ?_)
 exact K.data _ _ (by simp only [not_or,Decidable.not_not] at hc; exact hc.1) (h n)
theorem Tr.Each.cut (h:T.Each P) (n:BitVec 16) (size:Int):(T.cut n size).1.Each P:=by
 unfold Tr.cut
 split
 ·exact h
 split
 ·exact h
 split
 ·exact h
 rename_i hc
 split
 ·exact h
 refine Tr.Each.bump (Tr.Each.updAt h ?_)
 exact K.data _ _ (by simp only [not_or,Decidable.not_not] at hc; exact hc.1) (h n)
omit K in
theorem Tr.Each.new (limit:Int) (h0:P Nd.none) (h1:P { Nd.none with kind:=2#8,parent:=1#16,links:=1 }):(Tr.new limit).Each P:=by
 intro n
 unfold Tr.new Tr.node
 simp only [List.getD_eq_getElem?_getD]
 by_cases e0:n.toNat=0
 ·rw [e0]; exact h0
 ·by_cases e1:n.toNat=1
  ·rw [e1]; exact h1
  ·rw [List.getElem?_eq_none (by simp; omega)]; exact h0
end
structure Nd.KD (x:Nd):Prop where
 kind:x.kind=0#8\/x.kind=1#8\/x.kind=2#8\/x.kind=3#8
 text:x.kind=3#8->x.text≠[]/\x.text.length<=120
 notext:x.kind≠3#8->x.text=[]
 nodata:x.kind≠1#8->x.data=[]
theorem keeps_KD:Keeps Nd.KD where
 none:=⟨.inl rfl,by simp [Nd.none],by simp [Nd.none],by simp [Nd.none]⟩
 addE:=fun _ _ _ h=>⟨h.kind,h.text,h.notext,h.nodata⟩
 delE:=fun _ _ h=>⟨h.kind,h.text,h.notext,h.nodata⟩
 addL:=fun _ _ h=>⟨h.kind,h.text,h.notext,h.nodata⟩
 addH:=fun _ _ h=>⟨h.kind,h.text,h.notext,h.nodata⟩
 par:=fun _ _ h=>⟨h.kind,h.text,h.notext,h.nodata⟩
 made:=fun inn k text h=>by
  simp only [not_or,not_and] at h
  obtain ⟨h1,h2,h3⟩:=h
  have hk:k=1#8\/k=2#8\/k=3#8:=by
   have h2:¬ (3<k.toNat):=h2
   have h1:k.toNat≠0:=fun e=>h1 (BitVec.eq_of_toNat_eq e)
   have:k.toNat=1\/k.toNat=2\/k.toNat=3:=by omega
   rcases this with e | e | e
   ·exact .inl (BitVec.eq_of_toNat_eq e)
   ·exact .inr (.inl (BitVec.eq_of_toNat_eq e))
   ·exact .inr (.inr (BitVec.eq_of_toNat_eq e))
  refine ⟨.inr hk,fun e =>?_,fun e =>?_,fun _=>rfl⟩
  ·have e:k=3#8:=e
   obtain ⟨a,b⟩:=h3 e
   have ht:(Nd.made inn k text).text=text:=by simp [Nd.made,e]
   rw [ht]
   refine ⟨fun e0=>a (by rw [e0]; decide),by omega⟩
  ·have e:k≠3#8:=e
   simp [Nd.made,e]
 data:=fun x d hk h=>⟨h.kind,h.text,h.notext,fun e=>(e hk).elim⟩
abbrev Tr.KD (T:Tr):Prop:=T.Each Nd.KD
theorem Tr.KD.new (limit:Int):(Tr.new limit).KD:=Tr.Each.new limit keeps_KD.none ⟨.inr (.inr (.inl rfl)),by simp,by simp [Nd.none],by simp [Nd.none]⟩
end Go.AM
end
section
namespace Go.AM
section
variable {E:Sy} {X:List Res} {H H' H0 Z:AH} {Q:Value->AH->Prop} {w p m:Nat} {T T':Tr} {M M':List MntD} {nx nx':Int} {L:LyL}
abbrev Tr.CO (T:Tr):Prop := -9223372036854775808<=T.change/\T.change<9223372036854775806
theorem Ino.cMake (hE:Fold E) (h:Ino H p m L T) (wf:T.WF) (n:BitVec 16) (s:NameL) (hs:s.length<2 ^ 63) (k:BitVec 8) (text:List UInt8) (ht:text.length<2 ^ 63) (hc:T.CO)
  (hQ:∀ L' H',UpdI p m L T L' (T.make n s k text).1 H H'->Q (.tuple #[u16 (T.make n s k text).2.1,vi (T.make n s k text).2.2]) H'):E.call (E.fid i.f9) [ptr p 0,u16 n,str s,u8 k,str text] H Q:=by
 have hlen:=wf.len16
 have hl2:=wf.len.1
 exact S.f9 hE h n s hs k text ht ⟨hc.1,by have:=hc.2; omega⟩ ⟨by omega,by omega⟩ (fun _ r=>wf.chain ⟨(Tr.room_ok r).1,(Tr.room_ok r).2.2.1⟩ 17) fun L1 H1 _ u1=>hQ _ _ u1
theorem Tr.KD.lt (h:T.KD):T.LT:=fun n hk=>(h n).text hk
end
end Go.AM
end
section
namespace Go.AM
structure SetD where
 h:BitVec 16
 paths:List (BitVec 16×BitVec 16)
 ports:List (BitVec 16×BitVec 16)
abbrev getR (n:BitVec 16) (l:List (BitVec 16×BitVec 16)):BitVec 16:=(l.lookup n).getD 0#16
def fitsR (dir:Bool) (r:BitVec 16):BitVec 16:=if dir then r&&&2047#16 else r&&&1031#16
def addR (n r:BitVec 16) (l:List (BitVec 16×BitVec 16)):List (BitVec 16×BitVec 16):=aset n (getR n l|||r) l
def ofStep (T:Tr) (M:List MntD) (cwd:PlaceD) (l:List (BitVec 16×BitVec 16)) (b:List UInt8×BitVec 16):List (BitVec 16×BitVec 16)×Int :=
 if (findW T M cwd b.1 true).2≠0 then (l,(findW T M cwd b.1 true).2)
 else if fitsR (decide ((T.node (findW T M cwd b.1 true).1.i).kind=2#8)) b.2≠b.2 then (l,22)
 else (addR (findW T M cwd b.1 true).1.i b.2 l,0)
def ofPaths (T:Tr) (M:List MntD) (cwd:PlaceD):List (BitVec 16×BitVec 16)->List (List UInt8×BitVec 16)->List (BitVec 16×BitVec 16)×Int
 | l,[]=>(l,0)
 | l,b :: bs=>if (ofStep T M cwd l b).2≠0 then ofStep T M cwd l b else ofPaths T M cwd (ofStep T M cwd l b).1 bs
def ofPorts (ps:List (BitVec 16×BitVec 16)):List (BitVec 16×BitVec 16):=ps.foldl (fun l x=>addR x.1 x.2 l) []
def PolX.set (T:Tr) (M:List MntD) (cwd:PlaceD) (x:PolX):SetD×Int:=(⟨x.handled,(ofPaths T M cwd [] x.paths).1,ofPorts x.ports⟩,(ofPaths T M cwd [] x.paths).2)
def SetD.at_ (d:SetD) (n:BitVec 16):BitVec 16:=getR n d.paths
def SetD.granted (d:SetD) (n:BitVec 16) (above:List PlaceD):BitVec 16:=above.foldl (fun r p=>r|||d.at_ p.i) (d.at_ n)
def SetD.denied (d:SetD) (want n:BitVec 16) (above:List PlaceD):BitVec 16:=(want&&&d.h) &&& ~~~ d.granted n above
def SetAt (H:AH) (s:Nat) (d:SetD):Prop:=∃ r1 r2,H.get s = .cells [u16 d.h,.map (some r1),.map (some r2)] none/\MapAt u16 u16 H r1 d.paths/\MapAt u16 u16 H r2 d.ports
section
variable {E:Sy} {X:List Res} {H H' H0 Z:AH} {Q:Value->AH->Prop} {t w:Nat} {T T':Tr} {M M':List MntD} {nx nx':Int} {L:List Res} {s:Nat} {d:SetD}
theorem SetAt.mono (h:SetAt H s d) (e:Ext H H'):SetAt H' s d:=by
 obtain ⟨r1,r2,h1,h2,h3⟩:=h
 exact ⟨r1,r2,e.cells h1,h2.keep (e.get h2.lt),h3.keep (e.get h3.lt)⟩
theorem look_u16 {r:Nat} {l:List (BitVec 16×BitVec 16)} (h:MapAt u16 u16 H r l) (n:BitVec 16):look 0 (.int .u16 0) false (.map (some r)) (u16 n) H=some (u16 (getR n l)):=by
 have:=h.look (kd:=0) (fun a b=>same_u16 a b) n (.int .u16 0) false
 rw [this]
 unfold getR
 cases l.lookup n <;> rfl
theorem S.f89 (hE:Fold E) (r:BitVec 16) (dir:Bool) (hQ:Q (u16 (fitsR dir r)) H):E.call (E.fid i.f89) [u16 r,vb dir] H Q:=by
 apply hE.f89
 cases dir <;> simpa [F.f89,fitsR] using hQ
theorem S.f94 (hE:Fold E) (h:SetAt H s d) (hQ:Q (u16 d.h) H):E.call (E.fid i.f94) [ptr s 0] H Q:=by
 apply hE.f94
 obtain ⟨r1,r2,h1,h2,h3⟩:=h
 simp only [F.f94,nilq_p,h1,stdZ]
 exact hQ
theorem S.f91 (hE:Fold E) (h:SetAt H s d) (n:BitVec 16) (hQ:Q (u16 (d.at_ n)) H):E.call (E.fid i.f91) [ptr s 0,u16 n] H Q:=by
 apply hE.f91
 obtain ⟨r1,r2,h1,h2,h3⟩:=h
 simp only [F.f91,nilq_p,h1,look_u16 h2,stdZ]
 exact hQ
theorem S.f93 (hE:Fold E) (h:SetAt H s d) (n:BitVec 16) (v:Value) (l:List PlaceD) (hv:Rows H 2 v (placeR l)) (hl:l.length<2 ^ 63) (hQ:∀ H',Ext H H'->Q (u16 (d.granted n l)) H'):E.call (E.fid i.f93) [ptr s 0,u16 n,v] H Q:=by
 apply hE.f93
 simp only [F.f93]
 refine S.f91 hE h n ?_
 have hls:=hv.lenSlc
 rw [placeR_length] at hls
 simp only [hls,stdZ]
 unfold SetD.granted at hQ
 refine LoopL.count l.length (fun j ls H'=>ls=[ptr s 0,u16 ((l.take j).foldl (fun r p=>r|||d.at_ p.i) (d.at_ n)),v,vi l.length,vi j]/\Ext H H') ?_ ⟨rfl,Ext.refl _⟩
 rintro j _ H1 X hj hX ⟨rfl,e1⟩
 rcases Nat.lt_or_ge j l.length with hjl | hjl
 ·have hX:=hX hjl
  have hjl':(j:Int)<l.length:=by omega
  have hjj:=i64_inc (i:=j) (by omega)
  obtain ⟨b,o,f1,f2⟩:=(hv.mono e1).ix (i:=j) (by rw [placeR_length]; exact hjl)
  have hrow:(placeR l)[j]'(by rw [placeR_length]; exact hjl)=(l[j]).cells:=by simp [placeR]
  rw [hrow] at f2
  rw [List.take_succ_eq_append_getElem hjl,List.foldl_append,List.foldl_cons,List.foldl_nil] at hX
  generalize l[j]=p at *
  have hlo:loadN 2 (ptr b o) H1=some p.v:=by rw [loadN_ptr,f2]; rfl
  have hz2:([(.int .i64 0),(.int .u16 0)]:List Value)=PlaceD.zero.cells:=rfl
  have hst:storeN 2 (ptr H1.next 0) p.v (H1.new (.cells PlaceD.zero.cells none))=some (H1.new (.cells p.cells none)):=by
   rw [storeN_ptr,AH.get_new_self]
   have:AM.splice PlaceD.zero.cells 0 p.cells=p.cells:=rfl
   simp only [List.size_toArray,List.toList_toArray,show p.cells.length=2 from rfl,show PlaceD.zero.cells.length=2 from rfl,show p.cells.all plain1=true from rfl,Nat.zero_add,Nat.le_refl,and_self,if_true,this,AH.new_put]
  have x2:Ext H1 (H1.new (.cells p.cells none)):=(Ext.refl _).new _
  have c1:p.cells[1]? = some (u16 p.i):=rfl
  simp only [F.f93_l1,i64_lss,hjl',decide_true,f1,hlo,allocW_eq,hz2,hst,AH.get_new_self,c1,stdZ]
  refine S.f91 hE (h.mono (e1.trans x2)) p.i ?_
  simp only [u16_or,hjj,stdZ]
  exact hX _ _ ⟨rfl,e1.trans x2⟩
 ·have hjl':¬ (j:Int)<l.length:=by omega
  rw [List.take_of_length_le hjl]
  simp only [F.f93_l1,i64_lss,hjl',decide_false,stdZ]
  exact hQ _ e1
theorem S.f92 (hE:Fold E) (h:SetAt H s d) (want n:BitVec 16) (v:Value) (l:List PlaceD) (hv:Rows H 2 v (placeR l)) (hl:l.length<2 ^ 63) (hQ:∀ H',Ext H H'->Q (u16 (d.denied want n l)) H'):E.call (E.fid i.f92) [ptr s 0,u16 want,u16 n,v] H Q:=by
 apply hE.f92
 simp only [F.f92]
 refine S.f94 hE h ?_
 simp only [u16_and,stdZ]
 refine S.f93 hE h n v l hv hl fun H1 e1 =>?_
 simp only [u16_andNot,stdZ]
 exact hQ _ e1
end
end Go.AM
end
section
namespace Go.AM
def AH.since (H:AH) (n:Nat):AH:=⟨if n<H.next then H.next else 0,fun b=>if b<n then .dead else H.get b⟩
theorem AH.get_since (H:AH) (n b:Nat):(H.since n).get b=if n<=b then H.get b else .dead:=by
 unfold AH.since
 simp only [AH.get]
 by_cases h:n<=b
 ·have h1:¬ b<n:=by omega
  rw [if_pos h]
  simp only [h1,if_false]
  by_cases hb:b<H.next
  ·have hn:n<H.next:=by omega
   simp [hb,hn]
  ·simp [hb]
 ·have h1:b<n:=by omega
  rw [if_neg h]
  simp [h1]
theorem AH.since_get {H:AH} {n b:Nat} (h:n<=b):(H.since n).get b=H.get b:=by rw [AH.get_since,if_pos h]
end Go.AM
end
section
namespace Go.AM
section
variable {E:Sy} {X:List Res} {H H' H0 Z:AH} {Q:Value->AH->Prop} {t w:Nat} {T T':Tr} {M M':List MntD} {nx nx':Int} {L:List Res} {s:Nat} {d:SetD}
theorem findW_kind (T:Tr) (M:List MntD) (c:PlaceD) (path:List UInt8) (follow:Bool):(findW T M c path follow).2=0->(T.node (findW T M c path follow).1.i).kind≠0#8:=by
 unfold findW
 split
 ·rename_i h; intro e; exact (h e).elim
 ·simp only
  split
  ·rename_i h; intro e; exact (h e).elim
  ·split
   ·intro e; simp at e
   ·rename_i h
    split
    ·intro e; simp at e
    ·intro _; exact h
theorem two_store {H:AH} {z c:List Value} (hz:z.length=2) (hc:c.length=2) (hp:c.all plain1=true):storeN 2 (ptr H.next 0) (.agg c.toArray) (H.new (.cells z none))=some (H.new (.cells c none)):=by
 rw [storeN_ptr,AH.get_new_self]
 have:AM.splice z 0 c=c:=by simp [splice,hz,hc]
 simp only [List.size_toArray,List.toList_toArray,hc,hz,hp,Nat.zero_add,Nat.le_refl,and_self,if_true,this,AH.new_put]
theorem of_ports {l:List (BitVec 16×BitVec 16)} (ps:List (BitVec 16×BitVec 16)) {v:Value} (hv:Rows H 2 v (ps.map fun p=>[u16 p.1,u16 p.2])) (hn:ps.length<2 ^ 63) {r1 r2:Nat} {b0 b1:List Value} {x0 x1 h:Nat} {hd:BitVec 16} {pl:List (BitVec 16×BitVec 16)} {H1:AH} (hl:l=[])
  (g:Has H H H1 [boxR x0 b0,boxR x1 b1,mapR u16 u16 r1 pl,mapR u16 u16 r2 l,boxR h [u16 hd,.map (some r1),.map (some r2)]])
  (hQ:∀ H',Ext H H'->SetAt (H'.since H.next) h ⟨hd,pl,ofPorts ps⟩->SetAt H' h ⟨hd,pl,ofPorts ps⟩->Q (.tuple #[ptr h 0,vi 0]) H') :
  LoopL (fun l H X0=>F.f90_l2 E Q (nth l 0) (nth l 1) (nth l 2) (nth l 3) H X0) [ptr h 0,v,vi ps.length,(.int .i64 0)] H1:=by
 subst hl
 refine LoopL.count ps.length (fun j ls H'=>ls=[ptr h 0,v,vi ps.length,vi j]/\Has H H H' [boxR x0 b0,boxR x1 b1,mapR u16 u16 r1 pl,mapR u16 u16 r2 (ofPorts (ps.take j)),boxR h [u16 hd,.map (some r1),.map (some r2)]]) ?_ ⟨rfl,g⟩
 rintro j _ H2 X hj hX ⟨rfl,g2⟩
 rcases Nat.lt_or_ge j ps.length with hjl | hjl
 ·have hX:=hX hjl
  have hjl':(j:Int)<ps.length:=by omega
  have hjj:=i64_inc (i:=j) (by omega)
  obtain ⟨b,o,f1,f2⟩:=(hv.mono g2.ext).ix (i:=j) (by simpa using hjl)
  rw [List.getElem_map] at f2
  have hst:ofPorts (ps.take (j+1))=addR ps[j].1 ps[j].2 (ofPorts (ps.take j)):=by
   unfold ofPorts
   rw [List.take_succ_eq_append_getElem hjl,List.foldl_append]; rfl
  rw [hst] at hX
  generalize ps[j]=p at *
  generalize ofPorts (ps.take j)=l at *
  have hlo:loadN 2 (ptr b o) H2=some (.agg [u16 p.1,u16 p.2].toArray):=by rw [loadN_ptr,f2]; rfl
  have hz2:storeN 2 (ptr H2.next 0) (.agg [u16 p.1,u16 p.2].toArray) (H2.new (.cells [(.int .u16 0),(.int .u16 0)] none))=some (H2.new (.cells [u16 p.1,u16 p.2] none)):=two_store rfl rfl rfl
  have g3:=g2.newbox [u16 p.1,u16 p.2]
  have hb3:=g3.box (k:=4) (b:=h) rfl
  have hp3:=g3.box (k:=5) (b:=H2.next) rfl
  have hm3:=g3.mapAt (k:=3) rfl
  obtain ⟨H4,m1,m2⟩:=g3.mapset (n:=3) (kd:=0) rfl (fun a b=>same_u16 a b) p.1 (getR p.1 l|||p.2)
  have m2:=m2.drop 5
  simp only [F.f90_l2,i64_lss,hjl',decide_true,f1,hlo,allocW_eq,hz2,hb3,hp3,look_u16 hm3,u16_or,m1,hjj,stdZ]
  exact hX _ _ ⟨rfl,m2⟩
 ·have hjl':¬ (j:Int)<ps.length:=by omega
  rw [List.take_of_length_le hjl] at g2
  simp only [F.f90_l2,i64_lss,hjl',decide_false,stdZ]
  have own:∀ {k:Nat} {r:Res} (_:[boxR x0 b0,boxR x1 b1,mapR u16 u16 r1 pl,mapR u16 u16 r2 (ofPorts ps),boxR h [u16 hd,.map (some r1),.map (some r2)]][k]? = some r),∀ b∈r.fp,H.next<=b:=fun hk b hb=>((g2.all _ (List.mem_of_getElem? hk)).2 b hb).1
  have o2:H.next<=r1:=own (k:=2) rfl r1 (by simp [mapR])
  have o3:H.next<=r2:=own (k:=3) rfl r2 (by simp [mapR])
  have o4:H.next<=h:=own (k:=4) rfl h (by simp [boxR])
  exact hQ _ g2.ext ⟨r1,r2,by rw [AH.since_get o4]; exact g2.box (k:=4) rfl,(g2.mapAt (k:=2) rfl).keep (AH.since_get o2),(g2.mapAt (k:=3) rfl).keep (AH.since_get o3)⟩ ⟨r1,r2,g2.box (k:=4) rfl,g2.mapAt (k:=2) rfl,g2.mapAt (k:=3) rfl⟩
theorem S.f90 (hE:Fold E) (h:WkAt H t T M) (wf:T.WF) (lt:T.LT) (x:PolX) (cs:List Value) (hx:PolXAt H x cs) (hf:x.paths.length<2 ^ 63/\x.ports.length<2 ^ 63) (hpl:∀ b∈x.paths,b.1.length<2 ^ 63) (c:PlaceD)
  (hbad:(x.set T M c).2≠0->∀ H',Ext H H'->Q (.tuple #[.pointer none,vi (x.set T M c).2]) H')
  (hok:(x.set T M c).2=0->∀ s H',Ext H H'->SetAt (H'.since H.next) s (x.set T M c).1->SetAt H' s (x.set T M c).1->Q (.tuple #[ptr s 0,vi 0]) H'):E.call (E.fid i.f90) [.agg cs.toArray,ptr t 0,c.v] H Q:=by
 apply hE.f90
 obtain ⟨v,pv,qv,rfl,_,hp,hq⟩:=hx
 have g0:Has H H H []:=Has.start (Ext.refl H)
 have g1:=g0.newbox [str x.name,u32 x.pol.default,v,u16 x.handled,pv,qv]
 have g2:=g1.newbox c.cells
 have g3:=g2.newmap u16 u16
 have g4:=g3.newmap u16 u16
 have hbv:∀ r1 r2,buildV [(0,1),(1,1),(2,1)] #[(.int .u16 0),(.map none),(.map none)] [(0,u16 x.handled),(1,.map (some r1)),(2,.map (some r2))]=some (.agg #[u16 x.handled,.map (some r1),.map (some r2)]):=fun r1 r2=>rfl
 simp only [F.f90,boxO_agg_z,AM.mk_some,mkPtr_eq_z,List.toList_toArray,nilq_p,stdZ]
 have hb2:=g2.box (k:=0) (b:=H.next) rfl
 have d3:([str x.name,u32 x.pol.default,v,u16 x.handled,pv,qv]:List Value)[3]? = some (u16 x.handled):=rfl
 generalize hH2:(H.new (.cells [str x.name,u32 x.pol.default,v,u16 x.handled,pv,qv] none)).new (.cells c.cells none)=H2 at *
 have n2:H2.next=H.next+2:=by subst hH2; simp
 simp only [hb2,mapW_eq,hbv,AM.mk_some,mkPtr_eq_z,stdZ]
 have hlt1:=g2.ext.1
 have g5:=g4.newbox [u16 x.handled,.map (some H2.next),.map (some (H2.new (.map [] 0 true)).next)]
 have hb5:=g5.box (k:=0) (b:=H.next) rfl
 have d4:([str x.name,u32 x.pol.default,v,u16 x.handled,pv,qv]:List Value)[4]? = some pv:=rfl
 have hlp:=hp.lenSlc
 rw [List.length_map] at hlp
 generalize hs:((H2.new (.map [] 0 true)).new (.map [] 0 true)).next=s at *
 have hsn:H.next<=s:=by subst hs; simp; omega
 simp only [AH.next_new_z] at hb5 g5 hs ⊢
 generalize hH5:((H2.new (.map [] 0 true)).new (.map [] 0 true)).new (.cells [u16 x.handled,.map (some H2.next),.map (some (H2.next+1))] none)=H5 at *
 simp only [hb5,d4,hlp,stdZ]
 have g5:Has H H H5 [boxR H.next [str x.name,u32 x.pol.default,v,u16 x.handled,pv,qv],boxR (H.next+1) c.cells,mapR u16 u16 H2.next [],mapR u16 u16 (H2.next+1) [],boxR s [u16 x.handled,.map (some H2.next),.map (some (H2.next+1))]]:=g5
 clear hH5 hs hH2 g4 g3 g2 g1
 generalize H2.next=r1 at *
 unfold PolX.set at hbad hok
 simp only at hbad hok
 refine LoopL.count x.paths.length (fun j ls H'=>∃ l,ls=[ptr t 0,ptr H.next 0,ptr (H.next+1) 0,ptr s 0,pv,vi x.paths.length,vi j]/\Has H H H' [boxR H.next [str x.name,u32 x.pol.default,v,u16 x.handled,pv,qv],boxR (H.next+1) c.cells,mapR u16 u16 r1 l,mapR u16 u16 (r1+1) [],boxR s [u16 x.handled,.map (some r1),.map (some (r1+1))]]/\ofPaths T M c [] x.paths=ofPaths T M c l (x.paths.drop j)) ?_ ⟨[],rfl,g5,rfl⟩
 rintro j _ H6 X hj hX ⟨l,rfl,g6,hof⟩
 rcases Nat.lt_or_ge j x.paths.length with hjl | hjl
 ·have hX:=hX hjl
  have hjl':(j:Int)<x.paths.length:=by omega
  have hjj:=i64_inc (i:=j) (by omega)
  obtain ⟨b,o,f1,f2⟩:=(hp.mono g6.ext).ix (i:=j) (by simpa using hjl)
  rw [List.getElem_map] at f2
  rw [List.drop_eq_getElem_cons hjl] at hof
  have hpj:=hpl x.paths[j] (List.getElem_mem hjl)
  generalize x.paths[j]=p at *
  have hlo:loadN 2 (ptr b o) H6=some (.agg [str p.1,u16 p.2].toArray):=by rw [loadN_ptr,f2]; rfl
  have hst:storeN 2 (ptr H6.next 0) (.agg [str p.1,u16 p.2].toArray) (H6.new (.cells [(.string ⟨#[]⟩),(.int .u16 0)] none))=some (H6.new (.cells [str p.1,u16 p.2] none)):=two_store rfl rfl rfl
  have g7:=g6.newbox [str p.1,u16 p.2]
  have hb7:=g7.box (k:=5) (b:=H6.next) rfl
  have hlc:loadN 2 (ptr (H.next+1) 0) (H6.new (.cells [str p.1,u16 p.2] none))=some c.v:=by rw [loadN_ptr,g7.box (k:=1) (b:=H.next+1) rfl]; rfl
  simp only [F.f90_l1,i64_lss,hjl',decide_true,f1,hlo,allocW_eq,hst,hlc,hb7,stdZ]
  refine S.f110 hE (h.mono g7.ext) wf lt c p.1 hpj true fun H8 e8 =>?_
  have g8:=g7.grow e8
  have hstep:ofStep T M c l p=if (findW T M c p.1 true).2≠0 then (l,(findW T M c p.1 true).2) else if fitsR (decide ((T.node (findW T M c p.1 true).1.i).kind=2#8)) p.2≠p.2 then (l,22) else (addR (findW T M c p.1 true).1.i p.2 l,0):=rfl
  have hfk:(findW T M c p.1 true).2=0->(T.node (findW T M c p.1 true).1.i).kind≠0#8:=findW_kind T M c p.1 true
  generalize findW T M c p.1 true=r at *
  have hst8:storeN 2 (ptr H8.next 0) r.1.v (H8.new (.cells [(.int .i64 0),(.int .u16 0)] none))=some (H8.new (.cells r.1.cells none)):=two_store rfl rfl rfl
  have g9:=g8.newbox r.1.cells
  simp only [allocW_eq,hst8,i64_neq,stdZ]
  by_cases he:r.2=0
  rotate_left
  ·rw [if_pos (by simpa using he)] at hstep
   have hof2:ofPaths T M c [] x.paths=(l,r.2):=by rw [hof,ofPaths,hstep,if_pos (by simpa using he)]
   rw [hof2] at hbad
   simp only [ne_eq,he,not_false_eq_true,decide_true,stdZ]
   exact hbad he _ g9.ext
  rw [if_neg (by simpa using he)] at hstep
  obtain ⟨⟨q,m,L',q',nx,q1,q2,q3⟩,_⟩:=h.mono g9.ext
  have hb9:=g9.box (k:=6) (b:=H8.next) rfl
  have hb9':=g9.box (k:=5) (b:=H6.next) rfl
  have hb9s:=g9.box (k:=4) (b:=s) rfl
  have hm9:=g9.mapAt (k:=2) rfl
  have e1:r.1.cells[1]? = some (u16 r.1.i):=rfl
  have n2':(.int .u8 2:Value)=u8 2#8:=rfl
  simp only [ne_eq,he,not_true,decide_false,q1,hb9,e1,stdZ]
  refine S.f6 hE q2 r.1.i ?_
  rcases q2.get r.1.i with ⟨k0,_⟩ | ⟨kk,yy,k0,k1,k2,k3,k4⟩
  ·exact (hfk he k0).elim
  simp only [nodeP_some q2.cov.nd k1,k3,inC,n2',u8_eql,hb9',stdZ]
  refine S.f89 hE p.2 _ ?_
  refine ⟨rfl,?_⟩
  simp only [u16_neq,stdZ]
  by_cases hfit:fitsR (decide ((T.node r.1.i).kind=2#8)) p.2=p.2
  ·rw [if_neg (by simpa using hfit)] at hstep
   have hof2:ofPaths T M c [] x.paths=ofPaths T M c (addR r.1.i p.2 l) (x.paths.drop (j+1)):=by rw [hof,ofPaths,hstep,if_neg (by simp)]
   obtain ⟨H10,m1,m2⟩:=g9.mapset (n:=2) (kd:=0) rfl (fun a b=>same_u16 a b) r.1.i (getR r.1.i l|||p.2)
   have m2:=(m2.drop 6).drop 5
   simp only [ne_eq,hfit,not_true,decide_false,hb9s,hb9,hb9',e1,look_u16 hm9,u16_or,m1,hjj,stdZ]
   exact hX _ _ ⟨addR r.1.i p.2 l,rfl,m2,hof2⟩
  ·rw [if_pos (by simpa using hfit)] at hstep
   have hof2:ofPaths T M c [] x.paths=(l,22):=by rw [hof,ofPaths,hstep,if_pos (by simp)]
   rw [hof2] at hbad
   simp only [ne_eq,hfit,not_false_eq_true,decide_true,stdZ]
   exact hbad (by simp) _ g9.ext
 ·have hjl':¬ (j:Int)<x.paths.length:=by omega
  rw [List.drop_of_length_le hjl] at hof
  have hof:ofPaths T M c [] x.paths=(l,0):=hof
  rw [hof] at hok
  have d5:([str x.name,u32 x.pol.default,v,u16 x.handled,pv,qv]:List Value)[5]? = some qv:=rfl
  have hlq:=hq.lenSlc
  rw [List.length_map] at hlq
  simp only [F.f90_l1,i64_lss,hjl',decide_false,g6.box (k:=0) (b:=H.next) rfl,d5,hlq,stdZ]
  exact of_ports x.ports hq hf.2 rfl g6 fun H' e hz hs=>hok rfl s H' e hz hs
end
end Go.AM
end
section
namespace Go.AM
section
variable {E:Sy} {X:List Res} {H H' H0 Z:AH} {Q:Value->AH->Prop} {t w:Nat} {T T':Tr} {M M':List MntD} {nx nx':Int} {L:List Res} {s:Nat} {d:SetD}
def awkPol:PolX:=⟨[],⟨0#32,[]⟩,4#16,[([47,97],4#16)],[]⟩
theorem S.f48 (hE:Fold E) (hQ:∀ H',Ext H H'->Q (vb true) H'):E.call (E.fid i.f48) [] H Q:=by
 apply hE.f48
 simp only [F.f48]
 refine S.f107 hE 9 fun w H1 h1 =>?_
 obtain ⟨p,q,hw,⟨m,L,hi,ki⟩,_⟩:=h1.open_
 have s97:(.string ⟨#[97]⟩:Value)=str [97]:=rfl
 have s0:(.string ⟨#[]⟩:Value)=str []:=rfl
 have n1:(.int .u16 1:Value)=u16 1#16:=rfl
 have n4:(.int .u16 4:Value)=u16 4#16:=rfl
 have n7:(.int .u16 7:Value)=u16 7#16:=rfl
 have n0:(.int .u16 0:Value)=u16 0#16:=rfl
 have k2:(.int .u8 2:Value)=u8 2#8:=rfl
 simp only [nilq_p,hw,s97,s0,n1,k2,stdZ]
 have f1:((Tr.new 9).make 1#16 [97] 2#8 []).2=(2#16,0):=by decide +kernel
 refine Ino.cMake hE hi (Tr.new_wf 9) 1#16 [97] (by decide) 2#8 [] (by decide) (by decide) fun L2 H2 u2 =>?_
 have h2:=ki _ _ _ u2
 have w2:=(Tr.new_wf 9).make 1#16 [97] 2#8 []
 have d2:=(Tr.KD.new 9).make keeps_KD 1#16 [97] 2#8 []
 rw [f1]
 generalize hT2:((Tr.new 9).make 1#16 [97] 2#8 []).1=T2 at *
 have sp:(.string ⟨#[47,97]⟩:Value)=str [47,97]:=rfl
 have b1:buildV [(0,1),(1,1)] #[str [],u16 0#16] [(0,str [47,97]),(1,u16 4#16)]=some (.agg #[str [47,97],u16 4#16]):=rfl
 have b2:=buildS_one 2 [str [],u16 0#16] [str [47,97],u16 4#16] rfl rfl
 have b2:buildS 1 2 #[str [],u16 0#16] [(0,.agg #[str [47,97],u16 4#16])]=some (.cells [str [47,97],u16 4#16] none,mkSlc 1 1):=b2
 have z32:(.int .u32 0:Value)=u32 0#32:=rfl
 have b3:∀ v,buildV [(0,1),(1,1),(2,1),(3,1),(4,1),(5,1)] #[str [],u32 0#32,(.slice none 0 0),u16 0#16,(.slice none 0 0),(.slice none 0 0)] [(3,u16 4#16),(4,slc v 0 1 1)]=some (.agg #[str [],u32 0#32,nilS,u16 4#16,slc v 0 1 1,nilS]):=fun v=>rfl
 simp only [sp,s0,n4,n0,b1,b2,z32,b3,stdZ]
 have x3:Ext H2 (H2.new (.cells [str [47,97],u16 4#16] none)):=(Ext.refl _).new _
 have r3:Rows (H2.new (.cells [str [47,97],u16 4#16] none)) 2 (slc H2.next 0 1 1) ([([47,97],4#16)].map fun p:List UInt8×BitVec 16=>[str p.1,u16 p.2]):=Rows.made (f:=none) (by rw [AH.get_new_self]; rfl) (.inl rfl) rfl (by simp)
 have h3:=h2.mono x3
 generalize H2.new (.cells [str [47,97],u16 4#16] none)=H3 at *
 refine S.f35 hE fun H4 e4 =>?_
 have h4:=h3.mono e4
 have hp:PolXAt H4 awkPol [str [],u32 0#32,nilS,u16 4#16,slc H2.next 0 1 1,nilS]:=⟨nilS,_,nilS,rfl,⟨[],Rows.nil _ _ none,rfl,fun i h=>by simp [awkPol] at h⟩,r3.mono e4,Rows.nil _ _ none⟩
 have f2:(awkPol.set T2 tab0 ⟨0,1#16⟩).2=0:=by subst hT2; decide +kernel
 have f3:(awkPol.set T2 tab0 ⟨0,1#16⟩).1.at_ 2#16=4#16:=by subst hT2; decide +kernel
 have f4:(awkPol.set T2 tab0 ⟨0,1#16⟩).1.denied 4#16 7#16 [⟨0,1#16⟩]=4#16:=by subst hT2; decide +kernel
 have f5:(awkPol.set T2 tab0 ⟨0,1#16⟩).1.denied 4#16 7#16 [⟨0,2#16⟩]=0#16:=by subst hT2; decide +kernel
 refine S.f90 hE h4.at_ w2 (Tr.KD.lt d2) awkPol _ hp ⟨by decide,by decide⟩ (by simp [awkPol]) ⟨0,1#16⟩ (fun h=>(h f2).elim) fun _ s H5 e5 _ hs5 =>?_
 generalize (awkPol.set T2 tab0 ⟨0,1#16⟩).1=d at *
 have h5:=h4.mono e5
 simp only [i64_eql,decide_true,stdZ]
 refine S.f91 hE hs5 2#16 ?_
 simp only [f3,n4,u16_eql,decide_true,stdZ]
 refine S.f35 hE fun H6 e6 =>?_
 have hz2:([(.int .i64 0),u16 0#16]:List Value)=PlaceD.zero.cells:=rfl
 have bp:∀ c:PlaceD,buildS 1 2 #[(.int .i64 0),u16 0#16] [(0,c.v)]=some (.cells c.cells none,mkSlc 1 1):=fun c=>buildS_one 2 [vi 0,u16 0#16] c.cells rfl rfl
 have rp:∀ (H:AH) (c:PlaceD),Rows (H.new (.cells c.cells none)) 2 (slc H.next 0 1 1) (placeR [c]):=fun H c=>Rows.made (f:=none) (by rw [AH.get_new_self]; simp [placeR]) (.inl rfl) rfl (by simp [placeR,PlaceD.cells])
 have x7:Ext H6 (H6.new (.cells (PlaceD.cells ⟨0,1#16⟩) none)):=(Ext.refl _).new _
 simp only [bp,n0,n4,n7,stdZ]
 refine S.f92 hE (hs5.mono (e6.trans x7)) 4#16 7#16 _ _ (rp H6 ⟨0,1#16⟩) (by decide) fun H8 e8 =>?_
 have bv:buildV [(0,1),(1,1)] #[(.int .i64 0),u16 0#16] [(1,u16 2#16)]=some (PlaceD.v ⟨0,2#16⟩):=rfl
 have x9:Ext H8 (H8.new (.cells (PlaceD.cells ⟨0,2#16⟩) none)):=(Ext.refl _).new _
 simp only [f4,u16_eql,decide_true,bv,bp,n0,n4,n7,stdZ]
 refine S.f92 hE (hs5.mono (e6.trans (x7.trans (e8.trans x9)))) 4#16 7#16 _ _ (rp H8 ⟨0,2#16⟩) (by decide) fun H10 e10 =>?_
 simp only [f5,n0,u16_eql,decide_true,stdZ]
 exact hQ _ ((h5.mono (e6.trans (x7.trans (e8.trans (x9.trans e10))))).ext)
end
end Go.AM
end
section
namespace Go.AM
section
variable {X:List Res} {E:Sy} {H0 H H' H'':AH} {Q:Value->AH->Prop} {p m:Nat} {L L' L'':LyL} {T T' T'' T2 T2':Tr} {t:Nat} {nv nv' mv:Value} {nx:Int} {mr:List (List Value)} {Y Y':List RLy}
theorem ofInt_nat16 (j:Nat):BitVec.ofInt 16 (j:Int)=BitVec.ofNat 16 j:=by
 apply BitVec.eq_of_toNat_eq
 simp
theorem conv16 (a:Nat):convInt .u16 (vi a)=some (u16 (BitVec.ofNat 16 a)):=by rw [i64_to_u16,ofInt_nat16]
theorem convN (a:BitVec 16):convInt .u16 (vi (a.toNat:Int))=some (u16 a):=by rw [conv16]; simp
end
end Go.AM
end
section
namespace Go.AM
structure ActD where
 kind:BitVec 8
 in_:BitVec 8
 to:BitVec 8
 name:BitVec 8
 other:BitVec 8
 any:List UInt8
 n:Int
 bytes:Value
 bl:List (BitVec 8)
 flag:Bool
 raw:Bool
def ActD.cells (x:ActD):List Value:=[u8 x.kind,u8 x.in_,u8 x.to,u8 x.name,u8 x.other,str x.any,vi x.n,x.bytes,vb x.flag,vb x.raw]
abbrev actSh:Sh := .struct [.int .u8,.int .u8,.int .u8,.int .u8,.int .u8,.str,.int .i64,.slice 1 (.int .u8),.bool,.bool]
structure ActD.ok (H:AH) (x:ActD):Prop where
 any:x.any.length<=9223372036854775807
 n : -9223372036854775808<=x.n/\x.n<9223372036854775808
 bytes:Rows H 1 x.bytes (byteR x.bl)
 bl:x.bl.length<=9223372036854775807
theorem ActD.ok.mono {H H':AH} {x:ActD} (h:x.ok H) (e:Ext H H'):x.ok H':=⟨h.any,h.n,h.bytes.mono e,h.bl⟩
theorem SV.act {H:AH} {cs:List Value} (h:SV H actSh cs):∃ x:ActD,cs=x.cells/\x.ok H:=by
 obtain ⟨c0,e0,rfl,h0,c1,e1,rfl,h1,c2,e2,rfl,h2,c3,e3,rfl,h3,c4,e4,rfl,h4,c5,e5,rfl,h5,c6,e6,rfl,h6,c7,e7,rfl,h7,c8,e8,rfl,h8,c9,e9,rfl,h9,rfl⟩:=h
 obtain ⟨x0,rfl⟩:=h0.u8
 obtain ⟨x1,rfl⟩:=h1.u8
 obtain ⟨x2,rfl⟩:=h2.u8
 obtain ⟨x3,rfl⟩:=h3.u8
 obtain ⟨x4,rfl⟩:=h4.u8
 obtain ⟨x5,rfl,g5⟩:=h5
 obtain ⟨x6,rfl,g6⟩:=h6.i64
 obtain ⟨v7,x7,rfl,g7,l7⟩:=SV.vals (fun r hr=>SV.u8 hr) h7
 obtain ⟨x8,rfl⟩:=h8
 obtain ⟨x9,rfl⟩:=h9
 refine ⟨⟨x0,x1,x2,x3,x4,x5,x6,v7,x7,x8,x9⟩,rfl,g5,g6,?_,by simpa using l7⟩
 show Rows H 1 v7 (byteR x7)
 have:byteR x7=(x7.map AM.u8).map fun v=>[v]:=by simp [byteR]
 rw [this]; exact g7
section
variable {X:List Res} {E:Sy} {H0 H H' H'':AH} {Q:Value->AH->Prop} {p m:Nat} {L L' L'':LyL} {T T' T'' T2 T2':Tr} {t:Nat} {nv nv' mv:Value} {nx:Int} {mr:List (List Value)} {Y Y':List RLy}
def actNames:List NameL:=[[97],[98],[99],[100,46,101],[102],[103],[],[46,46],[97,47,98]]
theorem S.f43 (hE:Fold E) (hQ:∀ v H',Ext H H'->Rows H' 1 v (strR actNames)->Q v H'):E.call (E.fid i.f43) [] H Q:=by
 apply hE.f43
 have hb:buildS 9 1 #[(.string ⟨#[]⟩)] [(0,(.string ⟨#[97]⟩)),(1,(.string ⟨#[98]⟩)),(2,(.string ⟨#[99]⟩)),(3,(.string ⟨#[100,46,101]⟩)),(4,(.string ⟨#[102]⟩)),(5,(.string ⟨#[103]⟩)),(6,(.string ⟨#[]⟩)),(7,(.string ⟨#[46,46]⟩)),(8,(.string ⟨#[97,47,98]⟩))]=some (.cells (actNames.map str) none,mkSlc 9 9):=by
  have:=buildS_full 9 1 [str []] [(0,str [97]),(1,str [98]),(2,str [99]),(3,str [100,46,101]),(4,str [102]),(5,str [103]),(6,str []),(7,str [46,46]),(8,str [97,47,98])] (actNames.map str) rfl rfl rfl rfl (by
   intro v hv
   obtain ⟨s,_,rfl⟩:=List.mem_map.1 hv
   rfl)
  simpa [actNames] using this
 simp only [F.f43,hb,AM.mk_some,mkSlc_eq,tk_eq]
 refine hQ _ _ ((Ext.refl H).new _) (Rows.made (f:=none) (by rw [AH.get_new_self]; rfl) (.inl rfl) rfl ?_)
 intro r hr
 obtain ⟨s,_,rfl⟩:=List.mem_map.1 hr
 rfl
theorem actZero:([(.int .u8 0),(.int .u8 0),(.int .u8 0),(.int .u8 0),(.int .u8 0),(.string ⟨#[]⟩),(.int .i64 0),(.slice none 0 0),(.bool false),(.bool false)]:List Value)=(ActD.mk 0#8 0#8 0#8 0#8 0#8 [] 0 nilS [] false false).cells:=rfl
theorem ActD.all_plain (x:ActD) (h:plain1 x.bytes=true):x.cells.all plain1=true:=by
 simp only [ActD.cells,List.all_cons,List.all_nil,h]; rfl
theorem act_store {x:ActD} (hp:plain1 x.bytes=true) (z:ActD):storeN 10 (ptr H.next 0) (.agg x.cells.toArray) (H.new (.cells z.cells none))=some (H.new (.cells x.cells none)):=by
 rw [storeN_ptr,AH.get_new_self]
 have hs:AM.splice z.cells 0 x.cells=x.cells:=rfl
 have h1:x.cells.length=10:=rfl
 have h2:z.cells.length=10:=rfl
 simp only [List.size_toArray,List.toList_toArray,h1,h2,ActD.all_plain x hp,Nat.zero_add,Nat.le_refl,and_self,if_true,hs,AH.new_put]
theorem rows_plain {v:Value} {rows:List (List Value)} {sz:Nat} (h:Rows H sz v rows):plain1 v=true:=by
 rcases h.at_ with ⟨_,c,rfl⟩ | ⟨b,o,c,rfl,_⟩
 ·cases c <;> rfl
 ·rfl
end
end Go.AM
end
section
namespace Go.AM
section
variable {X:List Res} {E:Sy} {H0 H H' H'':AH} {Q:Value->AH->Prop} {p m:Nat} {L L' L'':LyL} {T T' T'' T2 T2':Tr} {t:Nat} {nv nv' mv:Value} {nx:Int} {mr:List (List Value)} {Y Y':List RLy}
structure ActTo (X:List Res) (H0 H':AH) (p m t:Nat) (mv:Value) (nx:Int) (mr:List (List Value)) (T:Tr) (B:Int) (L':LyL) (nv':Value) (Y':List RLy) (T':Tr):Prop where
 two:TwoX X H0 H' p m L' T' t nv' mv nx mr Y' T'
 wf:T'.WF
 cb:T.CB T'
 hb:T'.HB (B+1)
inductive Tr.Did (up:Bool) (T:Tr):Tr->Prop
 | make (a:BitVec 16) (s:NameL) (k:BitVec 8) (text:List UInt8):T.Did up (T.make a s k text).1
 | add (a:BitVec 16) (s:NameL) (b:BitVec 16):T.Did up (T.add a s b).1
 | drop (a:BitVec 16) (s:NameL) (d:Bool):T.Did up (T.drop a s d).1
 | move (a:BitVec 16) (s:NameL) (b:BitVec 16) (o:NameL):T.Did up (T.move a s b o).1
 | hold (a:BitVec 16):T.Did up (T.hold a up).1
 | write (a:BitVec 16) (n:Int) (l:List (BitVec 8)):T.Did up (T.write a n l).1
 | cut (a:BitVec 16) (n:Int):T.Did up (T.cut a n).1
 | refl:T.Did up T
theorem tab5 (o:BitVec 8) (k:BitVec 8) (hk:k<5#8):∃ kd:BitVec 8,([[u8 1#8],[u8 2#8],[u8 2#8],[u8 3#8],[u8 o]]:List (List Value))[k.toNat]? = some [u8 kd]:=by
 have h:k.toNat<5:=hk
 have:k.toNat=0\/k.toNat=1\/k.toNat=2\/k.toNat=3\/k.toNat=4:=by omega
 rcases this with e | e | e | e | e <;> rw [e]
 ·exact ⟨_,rfl⟩
 ·exact ⟨_,rfl⟩
 ·exact ⟨_,rfl⟩
 ·exact ⟨_,rfl⟩
 ·exact ⟨_,rfl⟩
theorem do_j1 (hE:Fold E) {bx:Nat} {x:ActD} (h:TwoX (X++[boxR bx x.cells]) H0 H p m L T t nv mv nx mr Y T) (w:T.WF) {B:Int} (hb:T.HB B) (hB:0<=B/\B<1000000) (hc:0<=T.change/\T.change<1000000) (hx:x.ok H0) (hl:x.any.length<=200/\x.bl.length<=200) {up:Bool} (hup:x.kind % 15#8=11#8->x.flag=up)
  (a b:BitVec 16) (s o:NameL) (hs:s.length<2 ^ 63) (ho:o.length<2 ^ 63) (hQ:∀ L' nv' Y' T' H',ActTo X H0 H' p m t mv nx mr T B L' nv' Y' T'->T.Did up T'->Q (vb true) H') :
  F.f42_j1 E Q (ptr p 0) (ptr t 0) (ptr bx 0) (vi (a.toNat:Int)) (vi (b.toNat:Int)) (str s) (str o) H:=by
 have hbx:=h.held
 have c0:x.cells[0]? = some (u8 x.kind):=rfl
 have c4:x.cells[4]? = some (u8 x.other):=rfl
 have c5:x.cells[5]? = some (str x.any):=rfl
 have c6:x.cells[6]? = some (vi x.n):=rfl
 have c7:x.cells[7]? = some x.bytes:=rfl
 have c8:x.cells[8]? = some (vb x.flag):=rfl
 have hrem:binInt .rem (u8 x.kind) (.int .u8 15)=some (u8 (x.kind % 15#8)):=u8_rem x.kind 15#8 (by decide)
 have hlt:(x.kind % 15#8).toNat<15:=by rw [BitVec.toNat_umod]; exact Nat.mod_lt _ (by decide)
 have n5:(.int .u8 5:Value)=u8 5#8:=rfl
 have n8:(.int .u8 8:Value)=u8 8#8:=rfl
 have n11:(.int .u8 11:Value)=u8 11#8:=rfl
 have n12:(.int .u8 12:Value)=u8 12#8:=rfl
 have n13:(.int .u8 13:Value)=u8 13#8:=rfl
 simp only [F.f42_j1,convN,addOff_ptr,load1_ptr,Nat.zero_add,hbx,cell_cells_z,c0,hrem,tk_eq,opt_some]
 generalize x.kind % 15#8=k at *
 have lss:∀ c:BitVec 8,binInt .lss (u8 k) (u8 c)=some (vb (decide (k<c))):=fun c=>by rw [u8_lss]; rfl
 by_cases k5:k<5#8
 ·have q1:binInt .lss (u8 k) (.int .u8 5)=some (vb true):=by rw [n5,lss]; simp [k5]
  have k5n:k.toNat<5:=k5
  obtain ⟨kd,hkd⟩:=tab5 x.other k k5
  have hbS:buildS 5 1 #[(.int .u8 0)] [(0,(.int .u8 1)),(1,(.int .u8 2)),(2,(.int .u8 2)),(3,(.int .u8 3)),(4,u8 x.other)]=some (.cells [u8 1#8,u8 2#8,u8 2#8,u8 3#8,u8 x.other] none,mkSlc 5 5):=by
   have:=buildS_full 5 1 [u8 0#8] [(0,u8 1#8),(1,u8 2#8),(2,u8 2#8),(3,u8 3#8),(4,u8 x.other)] [u8 1#8,u8 2#8,u8 2#8,u8 3#8,u8 x.other] rfl rfl rfl rfl (by intro v hv; simp at hv; rcases hv with rfl | rfl | rfl | rfl <;> rfl)
   simpa using this
  have hx1:Ext H (H.new (.cells [u8 1#8,u8 2#8,u8 2#8,u8 3#8,u8 x.other] none)):=(Ext.refl H).new _
  have hr:Rows (H.new (.cells [u8 1#8,u8 2#8,u8 2#8,u8 3#8,u8 x.other] none)) 1 (slc H.next 0 5 5) [[u8 1#8],[u8 2#8],[u8 2#8],[u8 3#8],[u8 x.other]]:=Rows.made (f:=none) (by rw [AH.get_new_self]; rfl) (.inl rfl) rfl (by intro r hr; simp at hr; rcases hr with rfl | rfl | rfl | rfl <;> rfl)
  obtain ⟨b1,o1,p1,p2⟩:=hr.ix (i:=k.toNat) k5n
  rw [List.getElem?_eq_getElem (by simpa using k5n)] at hkd
  rw [Option.some.inj hkd] at p2
  have p3:((H.new (.cells [u8 1#8,u8 2#8,u8 2#8,u8 3#8,u8 x.other] none)).get b1).cell o1=some (u8 kd):=by have:=row_at p2 (j:=0) (by omega); simpa using this
  have h1:=h.mono hx1
  simp only [q1,addOff_ptr,load1_ptr,Nat.zero_add,hbx,cell_cells_z,c4,hbS,AM.mk_some,mkSlc_eq,ixSlc_u8,p1,p3,h1.held,c5,tk_eq,opt_some,ifB_true]
  refine TwoX.cMake hE h1 w a s hs kd x.any (by omega) ⟨by omega,by omega⟩ fun L2 H2 h2 =>?_
  simp only [ext_tuple,List.getElem?_cons_zero,List.getElem?_cons_succ,u8_to_i64,addOff_ptr,load1_ptr,Nat.zero_add,h2.held,cell_cells_z,c5,tk_eq,opt_some]
  refine TwoX.rMake hE h2 w a s hs kd x.any ⟨by omega,by omega⟩ fun nv3 Y3 H3 h3 =>?_
  simp only [ext_tuple,List.getElem?_cons_zero,List.getElem?_cons_succ,u16_to_i64,i64_eql,decide_true,gd_tt,pick_true_z,tk_eq,opt_some]
  exact hQ _ _ _ _ _ ⟨h3.drop,w.make a s kd x.any,.make a s kd x.any,(hb.make hB.1 a s kd x.any).mono (by omega)⟩ (.make a s kd x.any)
 by_cases e5:k=5#8
 ·have q1:binInt .lss (u8 k) (.int .u8 5)=some (vb false):=by rw [n5,lss]; simp [k5]
  have q2:binInt .eql (u8 k) (.int .u8 5)=some (vb true):=by rw [n5]; simp [e5]
  simp only [q1,q2,tk_eq,opt_some,ifB_false,ifB_true]
  refine TwoX.cAdd hE h w a s hs b ⟨by omega,by omega⟩ fun L1 H1 h1 =>?_
  refine TwoX.rAdd hE h1 w a s hs b ⟨by omega,by omega⟩ fun Y2 H2 h2 =>?_
  simp only [i64_eql,decide_true,tk_eq,opt_some]
  exact hQ _ _ _ _ _ ⟨h2.drop,w.add a s b,.add a s b,(hb.add a s b).mono (by omega)⟩ (.add a s b)
 by_cases k8:k<8#8
 ·have q1:binInt .lss (u8 k) (.int .u8 5)=some (vb false):=by rw [n5,lss]; simp [k5]
  have q2:binInt .eql (u8 k) (.int .u8 5)=some (vb false):=by rw [n5]; simp [e5]
  have q3:binInt .lss (u8 k) (.int .u8 8)=some (vb true):=by rw [n8,lss]; simp [k8]
  simp only [q1,q2,q3,addOff_ptr,load1_ptr,Nat.zero_add,hbx,cell_cells_z,c8,tk_eq,opt_some,ifB_false,ifB_true]
  refine TwoX.cDrop hE h w a s x.flag ⟨by omega,by omega⟩ fun L1 H1 h1 =>?_
  refine ⟨by rw [load1_ptr,load1_ptr,h1.held,hbx],?_⟩
  refine TwoX.rDrop hE h1 w a s x.flag ⟨by omega,by omega⟩ fun Y2 H2 h2 =>?_
  simp only [i64_eql,decide_true,tk_eq,opt_some]
  exact hQ _ _ _ _ _ ⟨h2.drop,w.drop a s x.flag,.drop a s x.flag,(hb.drop hB.1 a s x.flag).mono (by omega)⟩ (.drop a s x.flag)
 by_cases k11:k<11#8
 ·have q1:binInt .lss (u8 k) (.int .u8 5)=some (vb false):=by rw [n5,lss]; simp [k5]
  have q2:binInt .eql (u8 k) (.int .u8 5)=some (vb false):=by rw [n5]; simp [e5]
  have q3:binInt .lss (u8 k) (.int .u8 8)=some (vb false):=by rw [n8,lss]; simp [k8]
  have q4:binInt .lss (u8 k) (.int .u8 11)=some (vb true):=by rw [n11,lss]; simp [k11]
  simp only [q1,q2,q3,q4,tk_eq,opt_some,ifB_false,ifB_true]
  refine TwoX.cMove hE h w a b s o ho ⟨by omega,by omega⟩ fun L1 H1 h1 =>?_
  refine TwoX.rMove hE h1 w a b s o ho ⟨by omega,by omega⟩ fun Y2 H2 h2 =>?_
  simp only [i64_eql,decide_true,tk_eq,opt_some]
  exact hQ _ _ _ _ _ ⟨h2.drop,w.move a s b o,.move a s b o,(hb.move hB.1 a s b o).mono (by omega)⟩ (.move a s b o)
 have q1:binInt .lss (u8 k) (.int .u8 5)=some (vb false):=by rw [n5,lss]; simp [k5]
 have q2:binInt .eql (u8 k) (.int .u8 5)=some (vb false):=by rw [n5]; simp [e5]
 have q3:binInt .lss (u8 k) (.int .u8 8)=some (vb false):=by rw [n8,lss]; simp [k8]
 have q4:binInt .lss (u8 k) (.int .u8 11)=some (vb false):=by rw [n11,lss]; simp [k11]
 by_cases e11:k=11#8
 ·have q5:binInt .eql (u8 k) (.int .u8 11)=some (vb true):=by rw [n11]; simp [e11]
  simp only [q1,q2,q3,q4,q5,addOff_ptr,load1_ptr,Nat.zero_add,hbx,cell_cells_z,c8,tk_eq,opt_some,ifB_false,ifB_true]
  refine TwoX.cHold hE h w a x.flag (by have:=hb a; omega) fun L1 H1 h1 =>?_
  refine ⟨by rw [load1_ptr,load1_ptr,h1.held,hbx],?_⟩
  refine TwoX.rHold hE h1 w a x.flag (by have:=hb a; omega) fun Y2 H2 h2 =>?_
  simp only [i64_eql,decide_true,tk_eq,opt_some]
  exact hQ _ _ _ _ _ ⟨h2.drop,w.hold a x.flag,.hold a x.flag,hb.hold hB.1 a x.flag⟩ (hup e11 ▸ .hold a)
 have q5:binInt .eql (u8 k) (.int .u8 11)=some (vb false):=by rw [n11]; simp [e11]
 by_cases e12:k=12#8
 ·have q6:binInt .eql (u8 k) (.int .u8 12)=some (vb true):=by rw [n12]; simp [e12]
  simp only [q1,q2,q3,q4,q5,q6,addOff_ptr,load1_ptr,Nat.zero_add,hbx,cell_cells_z,c6,c7,tk_eq,opt_some,ifB_false,ifB_true]
  refine TwoX.cWrite hE h w a x.n x.bytes x.bl (hx.bytes.mono h.ext) (by omega) hx.n ⟨by omega,by omega⟩ fun L1 H1 h1 =>?_
  refine ⟨by rw [load1_ptr,load1_ptr,h1.held,hbx],by rw [load1_ptr,load1_ptr,h1.held,hbx],?_⟩
  refine TwoX.rWrite hE h1 w a x.n x.bytes x.bl (hx.bytes.mono h1.ext) (by omega) ⟨by omega,by omega⟩ fun Y2 H2 h2 =>?_
  simp only [i64_eql,decide_true,tk_eq,opt_some]
  exact hQ _ _ _ _ _ ⟨h2.drop,w.write a x.n x.bl,.write a x.n x.bl,(hb.write a x.n x.bl).mono (by omega)⟩ (.write a x.n x.bl)
 have q6:binInt .eql (u8 k) (.int .u8 12)=some (vb false):=by rw [n12]; simp [e12]
 by_cases e13:k=13#8
 ·have q7:binInt .eql (u8 k) (.int .u8 13)=some (vb true):=by rw [n13]; simp [e13]
  simp only [q1,q2,q3,q4,q5,q6,q7,addOff_ptr,load1_ptr,Nat.zero_add,hbx,cell_cells_z,c6,tk_eq,opt_some,ifB_false,ifB_true]
  refine TwoX.cCut hE h w a x.n ⟨by omega,by omega⟩ fun L1 H1 h1 =>?_
  refine ⟨by rw [load1_ptr,load1_ptr,h1.held,hbx],?_⟩
  refine TwoX.rCut hE h1 w a x.n ⟨by omega,by omega⟩ fun Y2 H2 h2 =>?_
  simp only [i64_eql,decide_true,tk_eq,opt_some]
  exact hQ _ _ _ _ _ ⟨h2.drop,w.cut a x.n,.cut a x.n,(hb.cut a x.n).mono (by omega)⟩ (.cut a x.n)
 have q7:binInt .eql (u8 k) (.int .u8 13)=some (vb false):=by rw [n13]; simp [e13]
 simp only [q1,q2,q3,q4,q5,q6,q7,tk_eq,opt_some,ifB_false]
 refine S.f8 hE h.ino a s ?_
 simp only [ext_tuple,List.getElem?_cons_zero,List.getElem?_cons_succ,tk_eq,opt_some]
 refine S.f69 hE h.ref w.small a s fun H2 e2 =>?_
 simp only [ext_tuple,List.getElem?_cons_zero,List.getElem?_cons_succ,u16_to_i64,i64_eql,decide_true,gd_tt,pick_true_z,tk_eq,opt_some]
 exact hQ _ _ _ _ _ ⟨(h.mono e2).drop,w,.refl,hb.mono (by omega)⟩ .refl
theorem names_at {v:Value} (h:Rows H 1 v (strR actNames)) (k:Nat):∃ b o s,ixSlc 1 v (vi ((k % 9:Nat):Int))=some (ptr b o)/\(∀ H',Ext H H'->(H'.get b).cell o=some (str s))/\s.length<2 ^ 63:=by
 have hk:k % 9<9:=Nat.mod_lt _ (by omega)
 have hlen:(strR actNames).length=9:=rfl
 obtain ⟨b,o,p1,p2⟩:=h.ix (i:=k % 9) (by rw [hlen]; exact hk)
 have hmem:(strR actNames)[k % 9]'(by rw [hlen]; exact hk)∈strR actNames:=List.getElem_mem _
 obtain ⟨s,hs,he⟩:=List.mem_map.1 hmem
 rw [<- he] at p2
 refine ⟨b,o,s,p1,fun H' e =>?_,?_⟩
 ·rw [e.get (AH.lt_of_get (row_notdead p2))]
  have:=row_at p2 (j:=0) (by omega)
  simpa using this
 ·have:∀ s∈actNames,s.length<2 ^ 63:=by decide
  exact this s hs
theorem S.f42 (hE:Fold E) {x:ActD} (h:TwoX X H0 H p m L T t nv mv nx mr Y T) (w:T.WF) {B:Int} (hb:T.HB B) (hB:0<=B/\B<1000000) (hc:0<=T.change/\T.change<1000000) (hx:x.ok H0) (hl:x.any.length<=200/\x.bl.length<=200) (hraw:x.raw=false) {up:Bool} (hup:x.kind % 15#8=11#8->x.flag=up)
  (hQ:∀ L' nv' Y' T' H',ActTo X H0 H' p m t mv nx mr T B L' nv' Y' T'->T.Did up T'->Q (vb true) H'):E.call (E.fid i.f42) [ptr p 0,ptr t 0,.agg x.cells.toArray] H Q:=by
 apply hE.f42
 have hbo:boxO (.agg x.cells.toArray)=some (.cells x.cells none,fun b=>ptr b 0):=by
  have:x.cells.all plain1=true:=x.all_plain (rows_plain hx.bytes)
  first
   | rfl
   | simp [boxO,this]
 have h1:=h.box x.cells
 have hb1:=h1.held
 have c1:x.cells[1]? = some (u8 x.in_):=rfl
 have c2:x.cells[2]? = some (u8 x.to):=rfl
 have c3:x.cells[3]? = some (u8 x.name):=rfl
 have c4:x.cells[4]? = some (u8 x.other):=rfl
 have c9:x.cells[9]? = some (vb x.raw):=rfl
 have r1:binInt .rem (u8 x.in_) (.int .u8 8)=some (u8 (x.in_ % 8#8)):=u8_rem _ 8#8 (by decide)
 have r2:binInt .rem (u8 x.to) (.int .u8 8)=some (u8 (x.to % 8#8)):=u8_rem _ 8#8 (by decide)
 have n1:(((x.in_ % 8#8).setWidth 16:BitVec 16).toNat)=(x.in_ % 8#8).toNat:=by simp; omega
 have n2:(((x.to % 8#8).setWidth 16:BitVec 16).toNat)=(x.to % 8#8).toNat:=by simp; omega
 simp only [F.f42,hbo,AM.mk_some,addOff_ptr,load1_ptr,Nat.zero_add,hb1,cell_cells_z,c1,c2,c3,c4,r1,r2,u8_to_i64,tk_eq,opt_some]
 generalize hH1:H.new (.cells x.cells none)=H1 at *
 have ld:∀ {H'} (k:Nat),Ext H1 H'->load1 (ptr H.next k) H'=load1 (ptr H.next k) H1:=fun k e=>by rw [load1_ptr,load1_ptr,(h1.mono e).held,hb1]
 refine S.f43 hE fun v2 H2 e2 s2 =>?_
 refine ⟨ld 4 e2,ld 3 e2,?_⟩
 refine S.f43 hE fun v3 H3 e3 s3 =>?_
 have e13:=e2.trans e3
 refine ⟨ld 4 e13,ld 3 e13,?_⟩
 have l3:AM.lenSlc v3=some (vi (9:Nat)):=s3.lenSlc
 obtain ⟨b4,o4,sn,p4,q4,w4⟩:=names_at s2 x.name.toNat
 simp only [l3,i64_rem_nat x.name.toNat 9 (by omega),p4,load1_ptr,q4 H3 e3,tk_eq,opt_some]
 refine S.f43 hE fun v5 H5 e5 s5 =>?_
 have e15:=e13.trans e5
 refine ⟨by rw [load1_ptr,load1_ptr,q4 H5 (e3.trans e5),q4 H3 e3],ld 4 e15,ld 3 e15,?_⟩
 refine S.f43 hE fun v6 H6 e6 s6 =>?_
 have e16:=e15.trans e6
 refine ⟨by rw [load1_ptr,load1_ptr,q4 H6 (e3.trans (e5.trans e6)),q4 H3 e3],ld 4 e16,ld 3 e16,?_⟩
 have l6:AM.lenSlc v6=some (vi (9:Nat)):=s6.lenSlc
 obtain ⟨b7,o7,so,p7,q7,w7⟩:=names_at s5 x.other.toNat
 have h6:=h1.mono e16
 have hj:=do_j1 (Q:=Q) hE h6 w hb hB hc hx hl hup ((x.in_ % 8#8).setWidth 16) ((x.to % 8#8).setWidth 16) sn so w4 w7 hQ
 rw [n1,n2] at hj
 simp only [l6,i64_rem_nat x.other.toNat 9 (by omega),p7,load1_ptr,q7 H6 e6,addOff_ptr,Nat.zero_add,h6.held,cell_cells_z,c9,hraw,tk_eq,opt_some,ifB_false]
 exact hj
end
end Go.AM
end
section
namespace Go.AM
def Tr.Stay (T T':Tr):Prop:=∀ n,(T.node n).kind≠0#8->1<=(T.node n).held->(T'.node n).kind=(T.node n).kind/\(T.node n).held<=(T'.node n).held
section
variable {T T' T'':Tr}
theorem Tr.node_upd_ne {n k:BitVec 16} (h:k≠n) (f:Nd->Nd):(T.upd n f).node k=T.node k:=by
 have e:¬ n.toNat=k.toNat:=fun e=>h (BitVec.eq_of_toNat_eq e.symm)
 unfold Tr.upd Tr.node
 simp only [List.getD_eq_getElem?_getD,List.getElem?_modify,e,if_false]
 cases T.N[k.toNat]? <;> rfl
theorem Tr.Stay.refl:T.Stay T:=fun _ _ _=>⟨rfl,Int.le_refl _⟩
theorem Tr.Stay.trans (h:T.Stay T') (h':T'.Stay T''):T.Stay T'':=fun n hk hh=>by
 obtain ⟨a,b⟩:=h n hk hh
 obtain ⟨c,d⟩:=h' n (by rw [a]; exact hk) (by omega)
 exact ⟨c.trans a,by omega⟩
theorem Tr.Stay.upd (n:BitVec 16) (f:Nd->Nd) (hf:∀ x:Nd,(f x).kind=x.kind/\x.held<=(f x).held):T.Stay (T.upd n f):=fun k _ _=>by
 rcases T.upd_or n k f with e | e
 ·rw [e]; exact ⟨rfl,Int.le_refl _⟩
 ·rw [e]; exact hf _
theorem Tr.Stay.bump (h:T.Stay T'):T.Stay T'.bump:=h
theorem Tr.Stay.tidy (n:BitVec 16):T.Stay (T.tidy n):=fun k hk hh=>by
 unfold Tr.tidy
 split
 ·rename_i hc
  have e:k≠n:=by rintro rfl; omega
  rw [Tr.node_upd_ne e]
  exact ⟨rfl,Int.le_refl _⟩
 ·exact ⟨rfl,Int.le_refl _⟩
theorem Tr.Stay.make (w:T.WF) (inn:BitVec 16) (s:NameL) (kd:BitVec 8) (text:List UInt8):T.Stay (T.make inn s kd text).1:=by
 rcases w.make_node inn s kd text with e | ⟨_,_,A,_,hA,hi,hn⟩
 ·rw [e]; exact .refl
 ·intro n hk hh
  rw [hn]
  split
  ·rename_i e; subst e; exact ⟨rfl,Int.le_refl _⟩
  ·split
   ·rename_i e; subst e; exact (hk hA).elim
   ·exact ⟨rfl,Int.le_refl _⟩
theorem Tr.Stay.add (inn:BitVec 16) (s:NameL) (v:BitVec 16):T.Stay (T.add inn s v).1:=by
 unfold Tr.add
 repeat' split
 all_goals try exact .refl
 exact (Tr.Stay.upd inn (Nd.addE s v) fun _=>⟨rfl,Int.le_refl _⟩).trans (Tr.Stay.upd v (Nd.addL 1) fun _=>⟨rfl,Int.le_refl _⟩)
theorem Tr.Stay.drop (inn:BitVec 16) (s:NameL) (d:Bool):T.Stay (T.drop inn s d).1:=by
 unfold Tr.drop
 repeat' split
 all_goals try exact .refl
 exact ((Tr.Stay.upd inn (Nd.delE s) fun _=>⟨rfl,Int.le_refl _⟩).trans (Tr.Stay.upd _ (Nd.addL (-1)) fun _=>⟨rfl,Int.le_refl _⟩)).bump.trans (Tr.Stay.tidy _)
theorem Tr.Stay.hold (n:BitVec 16):T.Stay (T.hold n true).1:=by
 unfold Tr.hold
 repeat' split
 all_goals try exact .refl
 ·exact Tr.Stay.upd n (Nd.addH 1) fun x=>⟨rfl,by show x.held<=x.held+1; omega⟩
 ·rename_i h _; exact (h rfl).elim
theorem Tr.Stay.move (fr:BitVec 16) (s:NameL) (to:BitVec 16) (other:NameL):T.Stay (T.move fr s to other).1:=by
 have key:∀ (U:Tr) (n:BitVec 16),U.Stay (Tr.moved U fr s to other n):=by
  intro U n
  have h2:U.Stay ((U.upd fr (Nd.delE s)).upd to (Nd.addE other n)):=(Tr.Stay.upd fr (Nd.delE s) fun _=>⟨rfl,Int.le_refl _⟩).trans (Tr.Stay.upd to (Nd.addE other n) fun _=>⟨rfl,Int.le_refl _⟩)
  unfold Tr.moved
  simp only
  split
  ·exact (h2.trans (Tr.Stay.upd n (fun x=>{ x with parent:=to }) fun _=>⟨rfl,Int.le_refl _⟩)).bump
  ·exact h2.bump
 unfold Tr.move
 split
 ·exact .refl
 split
 ·exact .refl
 split
 ·exact .refl
 split
 ·exact .refl
 split
 ·exact .refl
 refine Tr.Stay.trans ?_ (key _ _)
 split
 ·exact .drop _ _ _
 ·exact .refl
theorem Tr.Stay.write (n:BitVec 16) (at_:Int) (b:List (BitVec 8)):T.Stay (T.write n at_ b).1:=by
 unfold Tr.write
 repeat' split
 all_goals try exact .refl
 exact (Tr.Stay.upd n (fun x=>{ x with data:=writeL x.data at_.toNat b }) fun _=>⟨rfl,Int.le_refl _⟩).bump
theorem Tr.Stay.cut (n:BitVec 16) (size:Int):T.Stay (T.cut n size).1:=by
 unfold Tr.cut
 repeat' split
 all_goals try exact .refl
 exact (Tr.Stay.upd n (fun x=>{ x with data:=cutL x.data size.toNat }) fun _=>⟨rfl,Int.le_refl _⟩).bump
theorem Tr.Did.stay (h:T.Did true T') (w:T.WF):T.Stay T':=by
 cases h
 ·exact .make w _ _ _ _
 ·exact .add _ _ _
 ·exact .drop _ _ _
 ·exact .move _ _ _ _
 ·exact .hold _
 ·exact .write _ _ _
 ·exact .cut _ _
 ·exact .refl
theorem Tr.Did.kd {up:Bool} (h:T.Did up T') (k:T.KD):T'.KD:=by
 cases h
 ·exact k.make keeps_KD _ _ _ _
 ·exact k.add keeps_KD _ _ _
 ·exact k.drop keeps_KD _ _ _
 ·exact k.move keeps_KD _ _ _ _
 ·exact k.hold keeps_KD _ _
 ·exact k.write keeps_KD _ _ _
 ·exact k.cut keeps_KD _ _
 ·exact k
end
end Go.AM
end
section
namespace Go.AM
def Tr.dead (T:Tr) (n:BitVec 16):Prop:=(T.node n).kind=2#8/\(T.node n).links=0
structure Tr.Order (T:Tr):Prop where
 rank:∃ (r:BitVec 16->Nat) (B:Nat),(∀ n,r n<B)/\∀ n,T.dead n->T.dead (T.node n).parent->r n<r (T.node n).parent
 par:∀ n,(T.node n).kind≠2#8->(T.node n).parent=0#16
def Tr.DAt (T T':Tr) (n:BitVec 16):Prop:=(T'.dead n->(T'.node n).parent=(T.node n).parent/\(T.dead n\/¬ T'.dead (T'.node n).parent))/\((T'.node n).kind≠2#8->(T'.node n).parent=0#16\/((T.node n).kind≠2#8/\(T'.node n).parent=(T.node n).parent))
def Tr.DStep (T T':Tr):Prop:=∀ n,T.DAt T' n
section
variable {T T' T'':Tr}
open Classical in
theorem Tr.Order.step (h:T.Order) (d:T.DStep T'):T'.Order:=by
 obtain ⟨r,B,hr,ho⟩:=h.rank
 refine ⟨⟨fun n=>if T.dead n then r n else B,B+1,fun n =>?_,fun n hn hp =>?_⟩,fun n hk =>?_⟩
 ·have:=hr n
  simp only
  split <;> omega
 ·obtain ⟨e,h1⟩:=(d n).1 hn
  rcases h1 with h1 | h1
  ·simp only [if_pos h1]
   split
   ·rename_i h2
    rw [e] at h2 ⊢
    exact ho n h1 h2
   ·exact hr n
  ·exact (h1 hp).elim
 ·rcases (d n).2 hk with e | ⟨a,b⟩
  ·exact e
  ·rw [b]; exact h.par n a
theorem Tr.DAt.same {n:BitVec 16} (h1:(T'.node n).kind=(T.node n).kind) (h2:(T'.node n).parent=(T.node n).parent) (h3:(T'.node n).links=(T.node n).links):T.DAt T' n :=
 ⟨fun h=>⟨h2,.inl ⟨by rw [<- h1]; exact h.1,by rw [<- h3]; exact h.2⟩⟩,fun h => .inr ⟨by rw [<- h1]; exact h,h2⟩⟩
theorem Tr.DAt.none {n:BitVec 16} (h:T'.node n=Nd.none):T.DAt T' n :=
 ⟨fun hd=>by have:=hd.1; rw [h] at this; simp [Nd.none] at this,fun _ => .inl (by rw [h]; rfl)⟩
theorem Tr.DAt.file {n:BitVec 16} (h:(T'.node n).kind≠2#8) (h1:(T.node n).kind≠2#8) (h2:(T'.node n).parent=(T.node n).parent):T.DAt T' n :=
 ⟨fun hd=>(h hd.1).elim,fun _ => .inr ⟨h1,h2⟩⟩
theorem Tr.DAt.live {n:BitVec 16} (h:(T'.node n).kind=2#8) (h1:(T'.node n).links≠0):T.DAt T' n :=
 ⟨fun hd=>(h1 hd.2).elim,fun hk=>(hk h).elim⟩
theorem Tr.DStep.refl:T.DStep T:=fun _ => .same rfl rfl rfl
theorem Tr.DStep.upd (n:BitVec 16) (f:Nd->Nd) (hf:∀ x:Nd,(f x).kind=x.kind/\(f x).parent=x.parent/\(f x).links=x.links):T.DStep (T.upd n f):=fun k=>by
 rcases T.upd_or n k f with e | e
 ·exact .same (by rw [e]) (by rw [e]) (by rw [e])
 ·obtain ⟨a,b,c⟩:=hf (T.node k)
  exact .same (by rw [e,a]) (by rw [e,b]) (by rw [e,c])
theorem Tr.DStep.make (w:T.WF) (inn:BitVec 16) (s:NameL) (kd:BitVec 8) (text:List UInt8):T.DStep (T.make inn s kd text).1:=by
 rcases w.make_node inn s kd text with e | ⟨_,_,A,_,hA,hi,hn⟩
 ·rw [e]; exact .refl
 ·intro n
  have hn:=hn n
  generalize (T.make inn s kd text).1=T' at *
  by_cases e:n=inn
  ·subst e
   rw [if_pos rfl] at hn
   exact .same (by rw [hn]; rfl) (by rw [hn]; rfl) (by rw [hn]; rfl)
  rw [if_neg e] at hn
  by_cases e2:n=A
  ·subst e2
   rw [if_pos rfl] at hn
   by_cases hk:kd=2#8
   ·exact .live (by rw [hn]; exact hk) (by rw [hn]; exact Int.one_ne_zero)
   ·exact ⟨fun hd=>by have:=hd.1; rw [hn] at this; exact (hk this).elim,fun _ => .inl (by rw [hn]; exact if_neg hk)⟩
  ·rw [if_neg e2] at hn
   exact .same (by rw [hn]) (by rw [hn]) (by rw [hn])
theorem Tr.DStep.add (inn:BitVec 16) (s:NameL) (v:BitVec 16):T.DStep (T.add inn s v).1:=by
 unfold Tr.add
 split
 ·exact .refl
 split
 ·exact .refl
 split
 ·exact .refl
 split
 ·exact .refl
 split
 ·exact .refl
 rename_i h2 _ _ _
 intro k
 have hV:((T.upd inn (Nd.addE s v)).node k).kind=(T.node k).kind/\((T.upd inn (Nd.addE s v)).node k).parent=(T.node k).parent/\((T.upd inn (Nd.addE s v)).node k).links=(T.node k).links:=by
  rcases T.upd_or inn k (Nd.addE s v) with e | e <;> rw [e] <;> exact ⟨rfl,rfl,rfl⟩
 obtain ⟨a,b,c⟩:=hV
 by_cases e:k=v
 ·subst e
  have:(((T.upd inn (Nd.addE s k)).upd k (Nd.addL 1)).node k).kind=(T.node k).kind/\(((T.upd inn (Nd.addE s k)).upd k (Nd.addL 1)).node k).parent=(T.node k).parent:=by
   rcases (T.upd inn (Nd.addE s k)).upd_or k k (Nd.addL 1) with e | e <;> rw [e] <;> exact ⟨a,b⟩
  exact .file (by show ¬ _=_; rw [Tr.bump_node,this.1]; exact h2) h2 this.2
 ·have hn:(((T.upd inn (Nd.addE s v)).upd v (Nd.addL 1)).bump.node k)=(T.upd inn (Nd.addE s v)).node k:=Tr.node_upd_ne e _
  exact .same (by rw [hn,a]) (by rw [hn,b]) (by rw [hn,c])
theorem Tr.DStep.hold (n:BitVec 16) (up:Bool):T.DStep (T.hold n up).1:=by
 unfold Tr.hold
 split
 ·exact .refl
 split
 ·exact .upd n _ fun _=>⟨rfl,rfl,rfl⟩
 split
 ·exact .refl
 intro k
 have hV:((T.upd n (Nd.addH (-1))).node k).kind=(T.node k).kind/\((T.upd n (Nd.addH (-1))).node k).parent=(T.node k).parent/\((T.upd n (Nd.addH (-1))).node k).links=(T.node k).links:=by
  rcases T.upd_or n k (Nd.addH (-1)) with e | e <;> rw [e] <;> exact ⟨rfl,rfl,rfl⟩
 obtain ⟨a,b,c⟩:=hV
 unfold Tr.tidy
 split
 ·rcases (T.upd n (Nd.addH (-1))).upd_or n k (fun _=>Nd.none) with e | e
  ·exact .same (by rw [e,a]) (by rw [e,b]) (by rw [e,c])
  ·exact .none e
 ·exact .same a b c
theorem Tr.DStep.drop (w:T.WF) (inn:BitVec 16) (s:NameL) (d:Bool):T.DStep (T.drop inn s d).1:=by
 unfold Tr.drop
 split
 ·exact .refl
 split
 ·exact .refl
 split
 ·exact .refl
 split
 ·exact .refl
 rename_i c1 _ _ _
 have c1:(T.look inn s).2=0:=by simpa using c1
 obtain ⟨k1,k2⟩:=Tr.look_ok c1
 generalize (T.look inn s).1=y at *
 obtain ⟨e1,e2,e3,o0,o1,e6⟩:=w.pos k2
 have hyi:inn≠y:=by rintro rfl; exact w.no_self (alook_mem k2)
 intro k
 have hV:∀ k,((T.upd inn (Nd.delE s)).node k).kind=(T.node k).kind/\((T.upd inn (Nd.delE s)).node k).parent=(T.node k).parent/\((T.upd inn (Nd.delE s)).node k).links=(T.node k).links:=fun k=>by
  rcases T.upd_or inn k (Nd.delE s) with e | e <;> rw [e] <;> exact ⟨rfl,rfl,rfl⟩
 have hW:∀ k,k≠y->((((T.upd inn (Nd.delE s)).upd y (Nd.addL (-1))).bump).tidy y).node k=(T.upd inn (Nd.delE s)).node k:=fun k e=>by
  unfold Tr.tidy
  split
  ·rw [Tr.node_upd_ne e,Tr.bump_node,Tr.node_upd_ne e]
  ·rw [Tr.bump_node,Tr.node_upd_ne e]
 by_cases e:k=y
 ·subst e
  have hin:¬ ((((T.upd inn (Nd.delE s)).upd k (Nd.addL (-1))).bump).tidy k).dead inn:=fun hd=>by
   have h2:=hd.2
   rw [hW inn hyi,(hV inn).2.2] at h2
   exact e2 h2
  have hk:(((T.upd inn (Nd.delE s)).upd k (Nd.addL (-1))).node k).kind=(T.node k).kind/\(((T.upd inn (Nd.delE s)).upd k (Nd.addL (-1))).node k).parent=(T.node k).parent:=by
   rcases (T.upd inn (Nd.delE s)).upd_or k k (Nd.addL (-1)) with e | e <;> rw [e] <;> exact ⟨(hV k).1,(hV k).2.1⟩
  unfold Tr.tidy at hin ⊢
  split at hin
  ·rename_i hc
   rw [if_pos hc]
   have hz:((((T.upd inn (Nd.delE s)).upd k (Nd.addL (-1))).bump).upd k (fun _=>Nd.none)).node k=Nd.none:=by
    rw [Tr.node_upd (by rw [Tr.bump_node,hk.1]; exact o0),if_pos rfl]
   exact .none hz
  ·rename_i hc
   rw [if_neg hc]
   by_cases h2:(T.node k).kind=2#8
   ·refine ⟨fun _=>⟨hk.2,.inr ?_⟩,fun h=>(h (hk.1.trans h2)).elim⟩
    have:(((T.upd inn (Nd.delE s)).upd k (Nd.addL (-1))).bump.node k).parent=inn:=hk.2.trans (e6 h2)
    rw [this]
    exact hin
   ·exact .file (fun h=>h2 (hk.1.symm.trans h)) h2 hk.2
 ·obtain ⟨a,b,c⟩:=hV k
  have hn:=hW k e
  exact .same (by rw [hn,a]) (by rw [hn,b]) (by rw [hn,c])
theorem Tr.node_upd_lt {n:BitVec 16} (h:n.toNat<T.N.length) (f:Nd->Nd):(T.upd n f).node n=f (T.node n):=by
 unfold Tr.upd Tr.node
 simp [List.getD_eq_getElem?_getD,List.getElem?_modify,h]
theorem Tr.len_upd (n:BitVec 16) (f:Nd->Nd):(T.upd n f).N.length=T.N.length:=by simp [Tr.upd]
theorem Tr.len_tidy (n:BitVec 16):(T.tidy n).N.length=T.N.length:=by
 unfold Tr.tidy
 split
 ·exact Tr.len_upd _ _
 ·rfl
theorem Tr.len_drop (inn:BitVec 16) (s:NameL) (d:Bool):(T.drop inn s d).1.N.length=T.N.length:=by
 unfold Tr.drop
 repeat' split
 all_goals try rfl
 rw [Tr.len_tidy]
 show ((T.upd _ _).upd _ _).N.length=_
 rw [Tr.len_upd,Tr.len_upd]
theorem Tr.DStep.moved {U:Tr} {fr to n:BitVec 16} {s other:NameL} (hl:to.toNat<U.N.length) (w:(Tr.moved U fr s to other n).WF):U.DStep (Tr.moved U fr s to other n):=by
 have hV:∀ m,(((U.upd fr (Nd.delE s)).upd to (Nd.addE other n)).node m).kind=(U.node m).kind/\(((U.upd fr (Nd.delE s)).upd to (Nd.addE other n)).node m).parent=(U.node m).parent/\(((U.upd fr (Nd.delE s)).upd to (Nd.addE other n)).node m).links=(U.node m).links:=fun m=>by
  have h1:((U.upd fr (Nd.delE s)).node m).kind=(U.node m).kind/\((U.upd fr (Nd.delE s)).node m).parent=(U.node m).parent/\((U.upd fr (Nd.delE s)).node m).links=(U.node m).links:=by
   rcases U.upd_or fr m (Nd.delE s) with e | e <;> rw [e] <;> exact ⟨rfl,rfl,rfl⟩
  rcases (U.upd fr (Nd.delE s)).upd_or to m (Nd.addE other n) with e | e <;> rw [e] <;> exact h1
 have hm:(other,n)∈(((U.upd fr (Nd.delE s)).upd to (Nd.addE other n)).node to).ents:=by
  rw [Tr.node_upd_lt (by rw [Tr.len_upd]; exact hl)]
  exact mem_insertE.2 (.inl rfl)
 unfold Tr.moved at w ⊢
 simp only at w ⊢
 split at w
 ·rename_i hk
  rw [if_pos hk]
  intro m
  by_cases e:m=n
  ·subst e
   have hk':((((U.upd fr (Nd.delE s)).upd to (Nd.addE other m)).upd m (fun x=>{ x with parent:=to })).bump.node m).kind=2#8:=by
    rw [Tr.bump_node]
    rcases ((U.upd fr (Nd.delE s)).upd to (Nd.addE other m)).upd_or m m (fun x=>{ x with parent:=to }) with e | e <;> rw [e] <;> exact (hV m).1.trans hk
   have hm':(other,m)∈((((U.upd fr (Nd.delE s)).upd to (Nd.addE other m)).upd m (fun x=>{ x with parent:=to })).bump.node to).ents:=by
    rw [Tr.bump_node]
    rcases ((U.upd fr (Nd.delE s)).upd to (Nd.addE other m)).upd_or m to (fun x=>{ x with parent:=to }) with e | e <;> rw [e] <;> exact hm
   have:=w.live_of hm' hk'
   exact .live this.1 this.2
  ·obtain ⟨a,b,c⟩:=hV m
   have hn:((((U.upd fr (Nd.delE s)).upd to (Nd.addE other n)).upd n (fun x=>{ x with parent:=to })).bump.node m)=((U.upd fr (Nd.delE s)).upd to (Nd.addE other n)).node m:=Tr.node_upd_ne e _
   exact .same (by rw [hn,a]) (by rw [hn,b]) (by rw [hn,c])
 ·rename_i hk
  rw [if_neg hk]
  intro m
  obtain ⟨a,b,c⟩:=hV m
  exact .same a b c
theorem Tr.Order.move (h:T.Order) (w:T.WF) (fr:BitVec 16) (s:NameL) (to:BitVec 16) (other:NameL):(T.move fr s to other).1.Order:=by
 have w':=w.move fr s to other
 unfold Tr.move at w' ⊢
 split
 ·exact h
 rename_i c1
 split
 ·exact h
 rename_i c2
 split
 ·exact h
 rename_i c3
 split
 ·exact h
 rename_i c4
 split
 ·exact h
 rename_i c5
 simp only [if_neg c1,if_neg c2,if_neg c3,if_neg c4,if_neg c5] at w'
 have hto:to.toNat<T.N.length:=by
  have c2:T.dir to=0:=by simpa using c2
  exact Tr.node_lt (by rw [Tr.dir_zero.1 c2]; decide)
 refine Tr.Order.step (T:=if (alook other (T.node to).ents).isSome then (T.drop to other (decide ((T.node (T.look fr s).1).kind=2#8))).1 else T) ?_ (Tr.DStep.moved ?_ w')
 ·split
  ·exact h.step (.drop w _ _ _)
  ·exact h
 ·split
  ·rw [Tr.len_drop]; exact hto
  ·exact hto
theorem Tr.Did.order {up:Bool} (h:T.Did up T') (w:T.WF) (o:T.Order):T'.Order:=by
 cases h
 ·exact o.step (.make w _ _ _ _)
 ·exact o.step (.add _ _ _)
 ·exact o.step (.drop w _ _ _)
 ·exact o.move w _ _ _ _
 ·exact o.step (.hold _ _)
 ·unfold Tr.write
  repeat' split
  all_goals try exact o
  exact o.step (.upd _ _ fun _=>⟨rfl,rfl,rfl⟩)
 ·unfold Tr.cut
  repeat' split
  all_goals try exact o
  exact o.step (.upd _ _ fun _=>⟨rfl,rfl,rfl⟩)
 ·exact o
theorem Tr.Order.new (limit:Int):(Tr.new limit).Order:=by
 have hp:∀ n,((Tr.new limit).node n).kind≠2#8->((Tr.new limit).node n).parent=0#16:=by
  intro n hk
  unfold Tr.new Tr.node at hk ⊢
  simp only [List.getD_eq_getElem?_getD] at hk ⊢
  by_cases e0:n.toNat=0
  ·rw [e0]; rfl
  ·by_cases e1:n.toNat=1
   ·rw [e1] at hk; exact (hk rfl).elim
   ·rw [List.getElem?_eq_none (by simp; omega)]; rfl
 refine ⟨⟨fun _=>0,1,fun _=>Nat.zero_lt_one,fun n hd _ =>?_⟩,hp⟩
 obtain ⟨a,b⟩:=hd
 unfold Tr.new Tr.node at a b
 simp only [List.getD_eq_getElem?_getD] at a b
 by_cases e0:n.toNat=0
 ·rw [e0] at a; exact absurd a (by decide)
 ·by_cases e1:n.toNat=1
  ·rw [e1] at b; exact absurd b (by decide)
  ·rw [List.getElem?_eq_none (by simp; omega)] at a; exact absurd a (by decide)
end
end Go.AM
end
section
namespace Go.AM
variable {E:Sy} {H:AH} {Q:Value->AH->Prop}
def RefAt (H:AH) (p:Nat) (t:TreeI) (M:List MntI):Prop:=H.get p = .cells t.cells none/\M.length<2 ^ 62/\Rows H 5 t.m (M.map MntI.cells)
theorem RefAt.mono {H H':AH} {p:Nat} {t:TreeI} {M:List MntI} (h:RefAt H p t M) (e:Ext H H'):RefAt H' p t M:=⟨e.cells h.1,h.2.1,h.2.2.mono e⟩
theorem RefAt.len {H:AH} {p:Nat} {t:TreeI} {M:List MntI} (h:RefAt H p t M):lenSlc t.m=some (vi M.length):=by
 have:=h.2.2.lenSlc
 simpa using this
theorem S.f80 (hE:Fold E) (p:Nat) (t:TreeI) (M:List MntI) (hT:RefAt H p t M) (id:Int) (hQ:Q (vi (ixOf (fun m:MntI=>decide (m.id=id)) M)) H):E.call (E.fid i.f80) [ptr p 0,vi id] H Q:=by
 apply hE.f80
 have hl:=hT.len
 have h0:=hT.2.1
 simp [F.f80]
 refine LoopL.count M.length (fun j s H'=>s=[ptr p 0,vi id,vi j]/\H'=H/\∀ i (hi:i<M.length),i<j->¬ M[i].id=id) ?_ ⟨rfl,rfl,fun i _ h=>by omega⟩
 rintro j _ _ X hj hX ⟨rfl,rfl,hn⟩
 simp only [F.f80_l1,nth_0,nth_s]
 simp [hT.1,hl]
 refine ifB_split (fun h =>?_) (fun h =>?_)
 ·have hjl:j<M.length:=by omega
  obtain ⟨b,o,f1,f2,f3,_⟩:=MntI.elem hT.2.2 hjl
  simp [hT.1,f1,f3]
  refine ifB_split (fun h =>?_) (fun h =>?_)
  ·have:ixOf (fun m:MntI=>decide (m.id=id)) M=(j:Int):=by
    have:M.findIdx? (fun m:MntI=>decide (m.id=id))=some j:=List.findIdx?_eq_some_iff_getElem.2 ⟨hjl,by simpa using h,fun i hi=>by simpa using hn i (by omega) hi⟩
    simp [ixOf,this]
   rw [<- this]
   exact hQ
  ·rw [i64_inc (by omega),opt_some]
   refine hX hjl _ _ ⟨rfl,rfl,fun i hi hij =>?_⟩
   by_cases e:i=j
   ·subst e; exact h
   ·exact hn i hi (by omega)
 ·have:j=M.length:=by omega
  subst this
  have:ixOf (fun m:MntI=>decide (m.id=id)) M = -1:=by
   have:M.findIdx? (fun m:MntI=>decide (m.id=id))=none:=by
    rw [List.findIdx?_eq_none_iff]
    intro x hx
    obtain ⟨i,hi,rfl⟩:=List.getElem_of_mem hx
    simpa using hn i hi hi
   simp [ixOf,this]
  rw [<- this]
  exact hQ
def standsI (p:PlaceI) (m:MntI):Bool:=decide (m.id≠0)&&decide (m.at_=p)
def lastIx {α:Type} (P:α->Bool) (l:List α):Int:=match (List.range l.length).reverse.find? (fun i=>(l[i]?).any P) with | some i=>(i:Int) | none => -1
theorem lastIx_snoc {α:Type} (P:α->Bool) (l:List α) (x:α):lastIx P (l++[x])=if P x then (l.length:Int) else lastIx P l:=by
 unfold lastIx
 rw [List.length_append,List.length_singleton,List.range_succ,List.reverse_append,List.reverse_singleton,List.singleton_append,List.find?_cons]
 have h0:((l++[x])[l.length]?).any P=P x:=by simp
 rw [h0]
 cases P x with
 | true=>simp
 | false =>
  simp only [Bool.false_eq_true,if_false]
  have:∀ (L:List Nat),(∀ i∈L,i<l.length)->L.find? (fun i=>((l++[x])[i]?).any P)=L.find? (fun i=>(l[i]?).any P):=by
   intro L hL
   induction L with
   | nil=>rfl
   | cons a L ih =>
    have ha:=hL a (by simp)
    rw [List.find?_cons,List.find?_cons,List.getElem?_append_left ha,ih fun i hi=>hL i (by simp [hi])]
  rw [this _ (fun i hi=>by simpa using hi)]
theorem lastIx_cases {α:Type} (P:α->Bool) (l:List α):(lastIx P l = -1/\∀ x∈l,P x=false)\/∃ (i:Nat) (hi:i<l.length),lastIx P l=i/\P l[i]=true:=by
 unfold lastIx
 cases h:(List.range l.length).reverse.find? (fun i=>(l[i]?).any P) with
 | none =>
  refine .inl ⟨rfl,fun x hx =>?_⟩
  obtain ⟨i,hi,rfl⟩:=List.getElem_of_mem hx
  have:=List.find?_eq_none.1 h i (by simpa using hi)
  simpa [hi] using this
 | some i =>
  have h1:=List.find?_some h
  have h2:=List.mem_of_find?_eq_some h
  have hi:i<l.length:=by simpa using h2
  exact .inr ⟨i,hi,rfl,by simpa [hi] using h1⟩
def seenI (M:List MntI):Nat->PlaceI->PlaceI
 | 0,p=>p
 | n+1,p=>if h:0<=lastIx (standsI p) M/\(lastIx (standsI p) M).toNat<M.length then seenI M n ⟨(M[(lastIx (standsI p) M).toNat]'h.2).id,(M[(lastIx (standsI p) M).toNat]'h.2).root⟩ else p
theorem S.f73 (hE:Fold E) (p:Nat) (t:TreeI) (M:List MntI) (hT:RefAt H p t M) (q:PlaceI) (hQ:∀ H',Ext H H'->Q (seenI M 20 q).v H'):E.call (E.fid i.f73) [ptr p 0,q.v] H Q:=by
 apply hE.f73
 have hl:=hT.len
 have h0:=hT.2.1
 simp [F.f73]
 generalize hH2:(H.new _).new _=H2
 have x2:Ext H H2:=by subst hH2; exact ((Ext.refl H).new _).new _
 have k1:H2.get H.next = .cells q.cells none:=by subst hH2; simp [AH.get_new]
 have k2:H2.get (H.next+1) = .cells [vi 0,vi 0] none:=by subst hH2; simp [AH.get_new]
 clear hH2
 refine LoopL.count 20 (fun k s H'=>∃ r,s=[ptr p 0,ptr H.next 0,ptr (H.next+1) 0,vi k]/\Ext H H'/\seenI M (20 - k) r=seenI M 20 q/\H'.get H.next = .cells r.cells none/\H'.get (H.next+1) = .cells [vi 0,vi 0] none) ?_ ⟨q,rfl,x2,rfl,k1,k2⟩
 rintro k _ H' X hk hX ⟨r,rfl,e1,hs,m1,m2⟩
 have hT1:=hT.mono e1
 have l1:=AH.lt_cells m1
 have l2:=AH.lt_cells m2
 have leave:seenI M 20 q=r->Q (seenI M 20 q).v (H'.put (H.next+1) (.cells r.cells none)):=by
  intro h
  exact hQ _ (e1.put (b:=H.next+1) (by omega) _)
 simp only [F.f73_l1,nth_0,nth_s]
 simp
 by_cases hk20:(k:Int)<20
 ·simp [hk20]
  refine LoopL.count M.length (fun j s H''=>s=[ptr p 0,ptr H.next 0,ptr (H.next+1) 0,vi k,vi (lastIx (standsI r) (M.take j)),vi j]/\H''=H') ?_ ⟨rfl,rfl⟩
  rintro j _ _ X1 hj hX1 ⟨rfl,rfl⟩
  simp only [F.f73_l2,nth_0,nth_s]
  simp [hT1.1,hl]
  refine ifB_split (fun h =>?_) (fun h =>?_)
  ·have hjl:j<M.length:=by omega
   obtain ⟨b,o,f1,f2,f3,f4,f5,f6,f7,f8⟩:=MntI.elem hT1.2.2 hjl
   have htk:M.take (j+1)=M.take j++[M[j]]:=by rw [List.take_succ,List.getElem?_eq_getElem hjl]; rfl
   have hln:(M.take j).length=j:=by rw [List.length_take]; omega
   by_cases hid:M[j].id=0
   ·simp [hT1.1,f1,f3,hid]
    rw [i64_inc (by omega),opt_some]
    refine hX1 hjl _ _ ⟨?_,rfl⟩
    rw [htk,lastIx_snoc]
    simp [standsI,hid]
   ·by_cases hat:M[j].at_=r
    ·simp [hT1.1,f1,f3,hid,m1,f8,hat]
     rw [i64_inc (by omega),opt_some]
     refine hX1 hjl _ _ ⟨?_,rfl⟩
     rw [htk,lastIx_snoc,hln]
     simp [standsI,hid,hat]
    ·simp [hT1.1,f1,f3,hid,m1,f8,hat]
     rw [i64_inc (by omega),opt_some]
     refine hX1 hjl _ _ ⟨?_,rfl⟩
     rw [htk,lastIx_snoc]
     simp [standsI,hid,hat]
  ·have:j=M.length:=by omega
   subst this
   rw [List.take_length]
   have hstep:seenI M (20 - k) r=if h:0<=lastIx (standsI r) M/\(lastIx (standsI r) M).toNat<M.length then seenI M (20 - (k+1)) ⟨(M[(lastIx (standsI r) M).toNat]'h.2).id,(M[(lastIx (standsI r) M).toNat]'h.2).root⟩ else r:=by
    rw [show 20 - k=(20 - (k+1))+1 by omega]
    rfl
   rcases lastIx_cases (standsI r) M with ⟨h1,_⟩ | ⟨i,hi,h1,_⟩
   ·rw [h1] at hstep
    simp at hstep
    simp [h1,m1,m2]
    have:=leave (by rw [<- hs,hstep])
    rw [<- hs,hstep] at this
    simpa [l2] using this
   ·rw [h1] at hstep
    simp [hi] at hstep
    have hneg:¬ ((i:Int)<0):=by omega
    obtain ⟨b,o,f1,f2,f3,f4,f5,f6,f7,f8⟩:=MntI.elem hT1.2.2 hi
    simp [hT1.1,h1,hneg,f1,f3,f4,m1]
    rw [i64_inc (by omega),opt_some]
    refine hX (by omega) _ _ ⟨⟨M[i].id,M[i].root⟩,rfl,e1.put (b:=H.next) (by omega) _,by rw [<- hs,hstep,show 20 - (k+1)=19 - k by omega],?_,?_⟩
    ·simp [l1]
    ·rw [AH.get_put_ne _ _ (by omega)]; exact m2
 ·have:k=20:=by omega
  subst this
  simp at hs
  simp [m1,m2]
  have:=leave (by rw [<- hs]; rfl)
  rw [<- hs] at this
  simpa [l2,seenI] using this
end Go.AM
end
section
namespace Go.AM
variable {E:Sy} {H:AH} {Q:Value->AH->Prop}
def getI (M:List MntI) (id:Int):Option MntI:=M.find? fun m=>decide (m.id=id)
def downI (M:List MntI) (p:PlaceI):Option PlaceI:=match getI M p.mount with
 | none=>none
 | some m=>if p.mount=0\/m.root≠p.inode then none else some m.at_
theorem S.f64 (hE:Fold E) (p:Nat) (t:TreeI) (M:List MntI) (hT:RefAt H p t M) (q:PlaceI) (hQ:∀ H',Ext H H'->Q (.tuple #[((downI M q).getD PlaceI.zero).v,vb (downI M q).isSome]) H'):E.call (E.fid i.f64) [ptr p 0,q.v] H Q:=by
 apply hE.f64
 simp [F.f64]
 generalize hH2:(H.new _).new _=H2
 have x2:Ext H H2:=by subst hH2; exact ((Ext.refl H).new _).new _
 have k1:H2.get H.next = .cells q.cells none:=by subst hH2; simp [AH.get_new]
 have k2:H2.get (H.next+1) = .cells [vi 0,vi 0] none:=by subst hH2; simp [AH.get_new]
 clear hH2
 have l2:=AH.lt_cells k2
 have hT2:=hT.mono x2
 simp [k1]
 refine S.f80 hE p t M hT2 q.mount ?_
 have fin:downI M q=none->Q (.tuple #[PlaceI.zero.v,vb false]) (H2.put (H.next+1) (.cells PlaceI.zero.cells none)):=by
  intro h
  rw [h] at hQ
  exact hQ _ (x2.put (b:=H.next+1) (by omega) _)
 rcases ixOf_cases (fun m:MntI=>decide (m.id=q.mount)) M with ⟨h1,h2⟩ | ⟨j,hj,h1,h2,h4,_⟩
 ·have h1:getI M q.mount=none:=h1
  simp [h2,k2]
  simpa [l2] using fin (by simp [downI,h1])
 ·have h2:getI M q.mount=some M[j]:=h2
  have hneg:¬ ((j:Int)<0):=by omega
  obtain ⟨b,o,f1,f2,f3,f4,f5,f6,f7,f8⟩:=MntI.elem hT2.2.2 hj
  rw [h1]
  by_cases hm:q.mount=0
  ·simp [hneg,k1,k2,hm]
   simpa [l2] using fin (by simp only [downI,hm,true_or,if_true]; split <;> rfl)
  ·by_cases hr:M[j].root=q.inode
   ·simp [hneg,k1,k2,hm,hT2.1,f1,f4,f8,hr]
    have hd:downI M q=some M[j].at_:=by simp [downI,h2,hm,hr]
    rw [hd] at hQ
    simpa [l2] using hQ _ (x2.put (b:=H.next+1) (by omega) _)
   ·simp [hneg,k1,k2,hm,hT2.1,f1,f4,f8,hr]
    simpa [l2] using fin (by simp [downI,h2,hr])
def refMR (p:Nat) (t:TreeI) (N:List NodeI) (M:List MntI):Res:=⟨p :: (blkL t.n++blkL t.m),fun H=>H.get p = .cells t.cells none/\Grow zH H 7 t.n (N.map NodeI.cells)/\Grow zH H 5 t.m (M.map MntI.cells),
 fun h e=>⟨by rw [e _ (by simp)]; exact h.1,h.2.1.keep fun b hb _=>e b (by simp [mem_blkL.2 hb]),h.2.2.keep fun b hb _=>e b (by simp [mem_blkL.2 hb])⟩⟩
section
variable {p:Nat} {t:TreeI} {N:List NodeI} {M M':List MntI} {H1:AH} {v':Value}
theorem refMR.at_ (h:(refMR p t N M).P H) (hn:M.length<2 ^ 62):RefAt H p t M:=⟨h.1,hn,h.2.2.toRows⟩
theorem refMR.nodup (hnd:(refMR p t N M).fp.Nodup):p ∉ blkL t.n/\p ∉ blkL t.m/\∀ b∈blkL t.n,b ∉ blkL t.m:=by
 simp only [refMR,List.nodup_cons,List.mem_append,List.nodup_append,not_or] at hnd
 obtain ⟨⟨h1,h2⟩,h3,h4,h5⟩:=hnd
 exact ⟨h1,h2,fun b hb hm=>h5 b hb b hm rfl⟩
theorem refMR.fp_lt (hr:(refMR p t N M).P H):∀ b∈(refMR p t N M).fp,b<H.next:=by
 intro b hb
 simp only [refMR,List.mem_cons,List.mem_append] at hb
 rcases hb with rfl | hb | hb
 ·exact AH.lt_cells hr.1
 ·exact hr.2.1.blk_lt (mem_blkL.1 hb)
 ·exact hr.2.2.blk_lt (mem_blkL.1 hb)
theorem refMR.updM (h:(refMR p t N M).P H) (hnd:(refMR p t N M).fp.Nodup) (o:Only (p :: blkL t.m) H H1) (g:Grow zH H1 5 v' (M'.map MntI.cells)) (hb:∀ b,blk v'=some b->blk t.m=some b\/H.next<=b) (nx:Int) :
  Upd (refMR p t N M) (refMR p { t with m:=v',next:=nx } N M') H (H1.put p (.cells ({ t with m:=v',next:=nx }:TreeI).cells none)):=by
 obtain ⟨n1,n2,n3⟩:=refMR.nodup hnd
 have hlt:p<H.next:=AH.lt_cells h.1
 have hpb:p ∉ blkL v':=fun k=>by
  rcases hb p (mem_blkL.1 k) with k | k
  ·exact n2 (mem_blkL.2 k)
  ·omega
 have hN:∀ b,blk t.n=some b->b<H.next:=fun b hb=>h.2.1.blk_lt hb
 have hNn:∀ b,blk t.n=some b->b ∉ blkL v':=fun b hbn k=>by
  rcases hb b (mem_blkL.1 k) with k | k
  ·exact n3 b (mem_blkL.2 hbn) (mem_blkL.2 k)
  ·have:=hN b hbn; omega
 refine ⟨(o.put (.inl (by simp)) _).mono fun b hb => .inl ?_,⟨AH.get_put_self _ _ (Nat.lt_of_lt_of_le hlt o.1),?_,?_⟩,fun b hb' =>?_,?_⟩
 ·simp only [List.mem_cons,refMR,List.mem_append] at hb ⊢
  exact hb.imp id .inr
 ·refine h.2.1.keep fun b hb _ =>?_
  have hbp:b≠p:=by rintro rfl; exact n1 (mem_blkL.2 hb)
  rw [AH.get_put_ne _ _ hbp]
  exact o.get (hN b hb) (by simp only [List.mem_cons,not_or]; exact ⟨hbp,n3 b (mem_blkL.2 hb)⟩)
 ·exact g.keep fun b hb _=>AH.get_put_ne _ _ (by rintro rfl; exact hpb (mem_blkL.2 hb))
 ·simp only [refMR,List.mem_cons,List.mem_append] at hb' ⊢
  rcases hb' with rfl | hb' | hb'
  ·exact ⟨.inl (by simp),Nat.lt_of_lt_of_le hlt o.1⟩
  ·exact ⟨.inl (by simp [hb']),Nat.lt_of_lt_of_le (hN b (mem_blkL.1 hb')) o.1⟩
  ·exact ⟨(hb b (mem_blkL.1 hb')).imp (fun k=>by simp [mem_blkL.2 k]) id,g.blk_lt (mem_blkL.1 hb')⟩
 ·simp only [refMR,List.nodup_cons,List.mem_append,not_or,List.nodup_append]
  exact ⟨⟨n1,hpb⟩,blkL_nodup _,blkL_nodup _,fun a ha b hb' e=>hNn a (mem_blkL.1 ha) (e▸hb')⟩
end
end Go.AM
end
section
namespace Go.AM
variable {E:Sy} {H:AH} {Q:Value->AH->Prop}
structure BoundI where
 M:List MntI
 nx:Int
 n:Int
 e:Int
def bindI (M:List MntI) (nx root:Int) (q:PlaceI):BoundI :=
 if ixOf (fun m:MntI=>decide (m.id=q.mount)) M<0 then ⟨M,nx,0,22⟩ else if seenI M 20 q≠q then ⟨M,nx,0,16⟩ else if 16<=M.length then ⟨M,nx,0,28⟩ else ⟨M++[⟨nx,root,q,0⟩],nx+1,nx,0⟩
theorem S.f61 (hE:Fold E) (p:Nat) (t:TreeI) (N:List NodeI) (M:List MntI) (hr:(refMR p t N M).P H) (hnd:(refMR p t N M).fp.Nodup) (hn:M.length<2 ^ 20) (hx:0<=t.next/\t.next<2 ^ 61) (root:Int) (q:PlaceI)
  (hQ:∀ t' H',t'.next=(bindI M t.next root q).nx/\t'.n=t.n/\t'.limit=t.limit/\t'.change=t.change->Upd (refMR p t N M) (refMR p t' N (bindI M t.next root q).M) H H'->Q (.tuple #[vi (bindI M t.next root q).n,vi (bindI M t.next root q).e]) H'):E.call (E.fid i.f61) [ptr p 0,vi root,q.v] H Q:=by
 apply hE.f61
 have hT:=refMR.at_ hr (by omega)
 have same:∀ H',Ext H H'->Upd (refMR p t N M) (refMR p t N M) H H':=fun H' e=>(Upd.refl hr (refMR.fp_lt hr) hnd).ext e
 have x1:Ext H (H.new (.cells q.cells none)):=(Ext.refl H).new _
 have k1:(H.new (.cells q.cells none)).get H.next = .cells q.cells none:=AH.get_new_self _ _
 obtain ⟨n1,n2,n3⟩:=refMR.nodup hnd
 have hlp:=AH.lt_cells hr.1
 simp [F.f61]
 refine S.f80 hE p t M (hT.mono x1) q.mount ?_
 unfold bindI at hQ
 by_cases hf:ixOf (fun m:MntI=>decide (m.id=q.mount)) M<0
 ·simp only [hf,if_true] at hQ
  simp [hf]
  exact hQ t _ ⟨rfl,rfl,rfl,rfl⟩ (same _ x1)
 ·simp only [hf,if_false] at hQ
  simp [hf]
  refine S.f73 hE p t M (hT.mono x1) q fun H3 e3 =>?_
  have x3:=x1.trans e3
  have k3:=e3.cells k1
  simp [k3]
  by_cases hs:seenI M 20 q=q
  ·simp only [hs,ne_eq,not_true,if_false] at hQ
   have hT3:=hT.mono x3
   simp [hs,hT3.1,hT3.len]
   by_cases h16:16<=M.length
   ·simp only [h16,if_true] at hQ
    have h16':(16:Int)<=M.length:=by omega
    simp [h16']
    exact hQ t _ ⟨rfl,rfl,rfl,rfl⟩ (same _ x3)
   ·simp only [h16,if_false] at hQ
    have h16':¬ (16:Int)<=M.length:=by omega
    have l3:=AH.lt_cells hT3.1
    simp [h16',hT3.1]
    rw [i64_add (by omega) (by omega),opt_some]
    simp [hT3.1,l3]
    have hpk:H.next≠p:=by omega
    have k4:(H3.put p (.cells ({ t with next:=t.next+1 }:TreeI).cells none)).get H.next = .cells q.cells none:=by rw [AH.get_put_ne _ _ hpk]; exact k3
    have hg3:=hr.2.2.ext x3
    have hg4:Grow zH (H3.put p (.cells ({ t with next:=t.next+1 }:TreeI).cells none)) 5 t.m (M.map MntI.cells):=hg3.keep fun b hb _=>AH.get_put_ne _ _ (by rintro rfl; exact n2 (mem_blkL.2 hb))
    obtain ⟨v',H6,a1,a2,a3,a4⟩:=hg4.app1 (Nat.zero_le _) (bytes:=40) (MntI.cells ⟨t.next,root,q,0⟩) rfl rfl (by omega) (by omega) (by simp; omega)
    have hpv6:H6.get p = .cells ({ t with next:=t.next+1 }:TreeI).cells none:=a3.cells (AH.get_put_self _ _ l3) n2
    have l6:=AH.lt_cells hpv6
    simp only [AH.next_put] at a1
    simp [k4]
    rw [a1]
    simp [a2.plain,hpv6]
    refine hQ { t with m:=v',next:=t.next+1 } _ ⟨rfl,rfl,rfl,rfl⟩ ?_
    have hO:Only (p :: blkL t.m) H H6:=by
     refine ((x3.only (F:=p :: blkL t.m)).put (.inl (by simp)) _).trans a3 fun b hb => .inl (by simp [hb])
    exact refMR.updM hr hnd hO (by simpa using a2) (fun b hb=>(a4 b hb).imp id fun h=>by have:=x3.1; simp at h; omega) _
  ·simp only [hs,ne_eq,not_false_eq_true,if_true] at hQ
   simp [hs]
   exact hQ t _ ⟨rfl,rfl,rfl,rfl⟩ (same _ x3)
end Go.AM
end
section
namespace Go.AM
abbrev PlaceD.sh:Sh := .struct [.int .i64,.int .u16]
def PlaceD.ok (x:PlaceD):Prop:=(-9223372036854775808<=x.m/\x.m<9223372036854775808)
theorem PlaceD.ofSV {H:AH} {cs:List Value} (h:SV H PlaceD.sh cs):∃ d:PlaceD,cs=d.cells/\d.ok:=by
 obtain ⟨c0,e0,rfl,h0,c1,e1,rfl,h1,rfl⟩:=h
 obtain ⟨x0,rfl,g0⟩:=h0.i64
 obtain ⟨x1,rfl⟩:=h1.u16
 exact ⟨⟨x0,x1⟩,rfl,g0⟩
theorem PlaceD.ofSlice {H:AH} {v:Value} (h:ArgSV H (.slice 2 PlaceD.sh) v):∃ l:List PlaceD,Rows H 2 v (l.map PlaceD.cells)/\l.length<=9223372036854775807/\∀ x∈l,x.ok:=ArgSV.rowsOf (fun _ h=>PlaceD.ofSV h) h
end Go.AM
end
section
namespace Go.AM
variable {E:Sy} {H0 Z H:AH} {L:List Res} {Q:Value->AH->Prop}
def PlaceD.toI (p:PlaceD):PlaceI:=⟨p.m,p.i.toNat⟩
def MntD.toI (m:MntD):MntI:=⟨m.id,m.root.toNat,m.at_.toI,m.held⟩
theorem toI_inj (p q:PlaceD):p.toI=q.toI↔p=q:=by
 simp only [PlaceD.toI,PlaceI.ext_iff,PlaceD.ext_iff]
 constructor
 ·rintro ⟨h1,h2⟩; exact ⟨h1,BitVec.eq_of_toNat_eq (by omega)⟩
 ·rintro ⟨h1,h2⟩; rw [h2]; exact ⟨h1,rfl⟩
theorem toNat_inj (a b:BitVec 16):((a.toNat:Int)=b.toNat)↔a=b:=by
 constructor
 ·intro h; exact BitVec.eq_of_toNat_eq (by omega)
 ·rintro rfl; rfl
theorem S.f44 (hE:Fold E) (q:PlaceD) (hQ:∀ H',Ext H H'->Q q.toI.v H'):E.call (E.fid i.f44) [q.v] H Q:=by
 apply hE.f44
 simp [F.f44,AH.get_new,PlaceD.cells]
 exact hQ _ (((Ext.refl H).new _).new _)
theorem ix_toI (T:List MntD) (k:Int):ixOf (fun m:MntI=>decide (m.id=k)) (T.map MntD.toI)=findT T k:=by
 unfold findT ixOf
 rw [List.findIdx?_map]; rfl
theorem get_toI (T:List MntD) (k:Int):getI (T.map MntD.toI) k=(getT T k).map MntD.toI:=by
 unfold getI getT
 rw [List.find?_map]; rfl
theorem stands_toI (p:PlaceD) (m:MntD):standsI p.toI m.toI=standsAt p m:=by
 simp only [standsI,standsAt,MntD.toI,toI_inj]
 congr
theorem down_toI (T:List MntD) (p:PlaceD):downI (T.map MntD.toI) p.toI=(downT T p).map PlaceD.toI:=by
 unfold downI downT
 have h0:p.toI.mount=p.m:=rfl
 rw [h0,get_toI]
 cases hg:getT T p.m with
 | none=>rfl
 | some m =>
  have hm:m.id=p.m:=by have:=List.find?_some hg; simpa using this
  have h1:(m.toI.root≠p.toI.inode)↔m.root≠p.i:=not_congr (toNat_inj m.root p.i)
  simp only [Option.map_some,h1,hm]
  split <;> rfl
structure PInv (T:List MntD) (nx k:Int):Prop where
 older:Older T
 uniq:∀ a∈T,∀ b∈T,a.id≠0->b.id≠0->a.at_=b.at_->a.id=b.id
 nodup:(T.map MntD.id).Nodup
 len:T.length<=16
 ids:∀ m∈T,0<=m.id/\m.id<nx
 nx0:1<=nx
 nx1:nx<=1+k
 held:∀ m∈T,0<=m.held/\m.held<=k
theorem PInv.ok {T:List MntD} {nx k:Int} (h:PInv T nx k) (hk:k<=1000):TabOk T nx :=
 ⟨h.older,h.len,by have:=h.nx0; omega,by have:=h.nx1; omega,fun m hm=>by have:=h.held m hm; omega⟩
theorem PInv.mono {T:List MntD} {nx k k':Int} (h:PInv T nx k) (hk:k<=k'):PInv T nx k' :=
 { h with nx1:=by have:=h.nx1; omega,held:=fun m hm=>by have:=h.held m hm; omega }
theorem pinv0:PInv tab0 1 0:=⟨by unfold Older; simp [tab0],by simp [tab0],by simp [tab0],by simp [tab0],by simp [tab0],by omega,by omega,by simp [tab0]⟩
theorem PInv.inj {T:List MntD} {nx k:Int} (h:PInv T nx k) {i j:Nat} (hi:i<T.length) (hj:j<T.length) (e:T[i].id=T[j].id):i=j:=by
 have h1:i<(T.map MntD.id).length:=by simpa using hi
 have h2:j<(T.map MntD.id).length:=by simpa using hj
 have key:=List.pairwise_iff_getElem.1 h.nodup
 rcases Nat.lt_trichotomy i j with g | g | g
 ·exact absurd (by simpa using e) (key i j h1 h2 g)
 ·exact g
 ·exact absurd (by simpa using e.symm) (key j i h2 h1 g)
theorem last_toI {T:List MntD} {nx k:Int} (h:PInv T nx k) (p:PlaceD):lastIx (standsI p.toI) (T.map MntD.toI)=ixOf (standsAt p) T:=by
 have hs:∀ i (hi:i<T.length),standsI p.toI ((T.map MntD.toI)[i]'(by simpa using hi))=standsAt p T[i]:=fun i hi=>by rw [List.getElem_map,stands_toI]
 rcases lastIx_cases (standsI p.toI) (T.map MntD.toI) with ⟨h1,h2⟩ | ⟨i,hi,h1,h2⟩ <;> rcases ixOf_cases (standsAt p) T with ⟨g1,g2⟩ | ⟨j,hj,g1,_,g3,_⟩
 ·rw [h1,g2]
 ·have:=h2 _ (List.getElem_mem (by simpa using hj))
  rw [hs j hj,g3] at this
  simp at this
 ·have hi':i<T.length:=by simpa using hi
  rw [hs i hi'] at h2
  have:=List.find?_eq_none.1 g1 _ (List.getElem_mem hi')
  exact absurd h2 this
 ·have hi':i<T.length:=by simpa using hi
  rw [hs i hi'] at h2
  simp only [standsAt,Bool.and_eq_true,decide_eq_true_eq] at h2 g3
  have:=h.inj hi' hj (h.uniq _ (List.getElem_mem hi') _ (List.getElem_mem hj) h2.1 g3.1 (h2.2.trans g3.2.symm))
  subst this
  rw [h1,g1]
theorem seenI_toI {T:List MntD} {nx k:Int} (h:PInv T nx k):∀ (n:Nat) (p:PlaceD),seenI (T.map MntD.toI) n p.toI=(seenN T n p).toI
 | 0,p=>rfl
 | n+1,p=>by
  simp only [seenI,seenN,last_toI h]
  rcases ixOf_cases (standsAt p) T with ⟨g1,g2⟩ | ⟨j,hj,g1,g2,g3,_⟩
  ·simp [g2,g1]
  ·simp only [g1,g2,List.length_map]
   rw [dif_pos ⟨by omega,by simpa using hj⟩]
   have:=seenI_toI h n ⟨T[j].id,T[j].root⟩
   simp only [List.getElem_map]
   exact this
theorem seen20 {T:List MntD} {nx k:Int} (h:PInv T nx k) (p:PlaceD):seenI (T.map MntD.toI) 20 p.toI=(seen T p).toI:=by
 rw [seenI_toI h]
 have h1:=h.len
 have h2:=above_le T p
 have:=seenN_enough h.older p (20 - T.length) T.length h2
 rw [show T.length+(20 - T.length)=20 by omega] at this
 rw [this]; rfl
theorem seenN_ge {T:List MntD} (h:Older T):∀ (n:Nat) (p:PlaceD),p.m<=(seenN T n p).m
 | 0,p=>by simp [seenN]
 | n+1,p=>by
  rw [seenN]
  cases hf:T.find? (standsAt p) with
  | none=>simp
  | some m =>
   have h1:=List.find?_some hf
   have h2:=List.mem_of_find?_eq_some hf
   simp only [standsAt,Bool.and_eq_true,decide_eq_true_eq] at h1
   have h3:=h m h2 h1.1
   have h4:=seenN_ge h n ⟨m.id,m.root⟩
   rw [h1.2] at h3
   simp only at h4 ⊢
   omega
theorem seen_fix {T:List MntD} (h:Older T) {p:PlaceD} (e:seen T p=p):T.find? (standsAt p)=none:=by
 cases hf:T.find? (standsAt p) with
 | none=>rfl
 | some m =>
  have h1:=List.find?_some hf
  have h2:=List.mem_of_find?_eq_some hf
  simp only [standsAt,Bool.and_eq_true,decide_eq_true_eq] at h1
  have h3:=h m h2 h1.1
  have h4:=seenN_ge h T.length ⟨m.id,m.root⟩
  have h5:=seen_some h hf
  rw [e] at h5
  unfold seen at h5
  rw [<- h5] at h4
  rw [h1.2] at h3
  simp only at h4
  omega
theorem bind_toI {T:List MntD} {nx k:Int} (h:PInv T nx k) (r:BitVec 16) (p:PlaceD):(bindI (T.map MntD.toI) nx r.toNat p.toI).M=(bindT T nx r p).T.map MntD.toI/\(bindI (T.map MntD.toI) nx r.toNat p.toI).nx=(bindT T nx r p).nx /\
  (bindI (T.map MntD.toI) nx r.toNat p.toI).n=(bindT T nx r p).n/\(bindI (T.map MntD.toI) nx r.toNat p.toI).e=(bindT T nx r p).e:=by
 unfold bindI bindT
 have h0:p.toI.mount=p.m:=rfl
 rw [h0,ix_toI,seen20 h,List.length_map]
 simp only [ne_eq,toI_inj]
 split
 ·simp
 ·split
  ·simp
  ·split
   ·simp
   ·simp [MntD.toI]
theorem PInv.bind {T:List MntD} {nx k:Int} (h:PInv T nx k) (r:BitVec 16) (p:PlaceD):PInv (bindT T nx r p).T (bindT T nx r p).nx (k+1):=by
 have hk:PInv T nx (k+1):=h.mono (by omega)
 unfold bindT
 split
 ·exact hk
 ·rename_i hf
  split
  ·exact hk
  ·rename_i hs
   split
   ·exact hk
   ·rename_i hl
    have hs:seen T p=p:=Classical.not_not.1 hs
    have hno:=seen_fix h.older hs
    have hpm:p.m<nx:=by
     rcases ixOf_cases (fun m:MntD=>decide (m.id=p.m)) T with ⟨h1,h2⟩ | ⟨j,hj,h1,h2,h3,_⟩
     ·have h2:findT T p.m = -1:=h2
      omega
     ·have:=(h.ids _ (List.getElem_mem hj)).2
      simp only [decide_eq_true_eq] at h3
      omega
    have hnx:=h.nx0
    refine ⟨fun m hm h0 =>?_,fun a ha b hb a0 b0 e =>?_,?_,by simp; omega,fun m hm =>?_,by simp only; omega,by have:=h.nx1; simp only; omega,fun m hm =>?_⟩
    ·rcases List.mem_append.1 hm with hm | hm
     ·exact h.older m hm h0
     ·simp only [List.mem_singleton] at hm; subst hm; exact hpm
    ·rcases List.mem_append.1 ha with ha | ha <;> rcases List.mem_append.1 hb with hb | hb
     ·exact h.uniq a ha b hb a0 b0 e
     ·simp only [List.mem_singleton] at hb; subst hb
      exact absurd (by simp only [standsAt,Bool.and_eq_true,decide_eq_true_eq]; exact ⟨a0,e⟩) (List.find?_eq_none.1 hno a ha)
     ·simp only [List.mem_singleton] at ha; subst ha
      exact absurd (by simp only [standsAt,Bool.and_eq_true,decide_eq_true_eq]; exact ⟨b0,e.symm⟩) (List.find?_eq_none.1 hno b hb)
     ·simp only [List.mem_singleton] at ha hb; subst ha hb; rfl
    ·rw [List.map_append,List.nodup_append]
     refine ⟨h.nodup,by simp,fun a ha b hb =>?_⟩
     obtain ⟨m,hm,rfl⟩:=List.mem_map.1 ha
     simp at hb; subst hb
     have:=(h.ids m hm).2
     omega
    ·rcases List.mem_append.1 hm with hm | hm
     ·have:=h.ids m hm; simp only; omega
     ·simp only [List.mem_singleton] at hm; subst hm; simp only; omega
    ·rcases List.mem_append.1 hm with hm | hm
     ·have:=h.held m hm; omega
     ·simp only [List.mem_singleton] at hm; subst hm; simp only; have:=h.nx1; omega
end Go.AM
end
section
namespace Go.AM
theorem Upd.congr {r r' s s':Res} {H H':AH} (h:Upd r r' H H') (f:r.fp=s.fp) (f':r'.fp=s'.fp) (p':∀ H,r'.P H->s'.P H):Upd s s' H H':=by
 obtain ⟨a,b,c,d⟩:=h
 exact ⟨f▸a,p' _ b,by rw [<- f,<- f']; exact c,f'▸d⟩
def nodesI (T:Tr) (Y:List RLy):List NodeI:=(T.N.zip Y).map fun p=>refI p.1 p.2
theorem nodesI_rows (T:Tr) (Y:List RLy):(nodesI T Y).map NodeI.cells=nodeRows T Y:=by simp [nodesI,nodeRows]
def mntI (M:List MntD):List (List Value):=(M.map MntD.toI).map MntI.cells
section
variable {E:Sy} {H H':AH} {Q:Value->AH->Prop} {t:Nat} {nv mv mv':Value} {nx nx':Int} {Y:List RLy} {T:Tr} {M M':List MntI}
def restR (Y:List RLy) (T:Tr):List Res:=(T.N.zip Y).map fun p=>nodeRR p.1 p.2
theorem refR_fp:(refR t nv mv nx (M.map MntI.cells) Y T).fp=(joinR (refMR t ⟨nv,T.limit,mv,nx,T.change⟩ (nodesI T Y) M :: restR Y T)).fp:=by
 simp [refR,refRs,joinR,refMR,restR,boxR,growR]
theorem refR_holds (H:AH):(refR t nv mv nx (M.map MntI.cells) Y T).P H↔(joinR (refMR t ⟨nv,T.limit,mv,nx,T.change⟩ (nodesI T Y) M :: restR Y T)).P H:=by
 simp only [refR,refRs,joinR,restR,List.mem_cons,forall_eq_or_imp]
 constructor
 ·rintro ⟨a,b,c,d⟩
  exact ⟨⟨a,by rw [nodesI_rows]; exact b,c⟩,d⟩
 ·rintro ⟨⟨a,b,c⟩,d⟩
  exact ⟨a,by rw [nodesI_rows] at b; exact b,c,d⟩
theorem refR_toM (h:Ow (refR t nv mv nx (M.map MntI.cells) Y T) H):Ow (joinR (refMR t ⟨nv,T.limit,mv,nx,T.change⟩ (nodesI T Y) M :: restR Y T)) H :=
 ⟨(refR_holds H).1 h.holds,by rw [<- refR_fp]; exact h.lt,by rw [<- refR_fp]; exact h.nd⟩
theorem refR_at (h:Ow (refR t nv mv nx (M.map MntI.cells) Y T) H) (hn:M.length<2 ^ 62):RefAt H t ⟨nv,T.limit,mv,nx,T.change⟩ M :=
 refMR.at_ ((refR_toM h).part (k:=0) rfl).holds hn
theorem refR_upd (h:Ow (refR t nv mv nx (M.map MntI.cells) Y T) H) (u:Upd (refMR t ⟨nv,T.limit,mv,nx,T.change⟩ (nodesI T Y) M) (refMR t ⟨nv,T.limit,mv',nx',T.change⟩ (nodesI T Y) M') H H') :
  Upd (refR t nv mv nx (M.map MntI.cells) Y T) (refR t nv mv' nx' (M'.map MntI.cells) Y T) H H' :=
 ((refR_toM h).set (k:=0) rfl u).congr refR_fp.symm refR_fp.symm fun H h=>(refR_holds H).2 h
theorem S.pinfoldref16_Tree_BindT (hE:Fold E) (h:Ow (refR t nv mv nx (M.map MntI.cells) Y T) H) (hn:M.length<2 ^ 20) (hx:0<=nx/\nx<2 ^ 61) (root:Int) (q:PlaceI)
  (hQ:∀ mv' H',Upd (refR t nv mv nx (M.map MntI.cells) Y T) (refR t nv mv' (bindI M nx root q).nx ((bindI M nx root q).M.map MntI.cells) Y T) H H'->Q (.tuple #[vi (bindI M nx root q).n,vi (bindI M nx root q).e]) H') :
  E.call (E.fid i.f61) [ptr t 0,vi root,q.v] H Q:=by
 have o:=(refR_toM h).part (k:=0) rfl
 refine S.f61 hE t ⟨nv,T.limit,mv,nx,T.change⟩ (nodesI T Y) M o.holds o.nd hn hx root q fun t' H' ht u =>?_
 obtain ⟨a,b,c,d⟩:=ht
 obtain ⟨n',l',m',x',c'⟩:=t'
 simp only at a b c d
 subst a b c d
 exact hQ m' H' (refR_upd h u)
end
end Go.AM
end
section
namespace Go.AM
theorem Tr.Did.limit {up:Bool} {T T':Tr} (h:T.Did up T'):T'.limit=T.limit:=by
 have htd:∀ (U:Tr) (n:BitVec 16),(U.tidy n).limit=U.limit:=fun U n=>by unfold Tr.tidy; split <;> rfl
 have hdr:∀ (U:Tr) (n:BitVec 16) (s:NameL) (d:Bool),(U.drop n s d).1.limit=U.limit:=fun U n s d=>by
  unfold Tr.drop
  repeat' split
  all_goals try rfl
  rw [htd]; rfl
 have hmv:∀ (U:Tr) (fr to n:BitVec 16) (s o:NameL),(Tr.moved U fr s to o n).limit=U.limit:=fun U fr to n s o=>by
  unfold Tr.moved
  simp only
  split <;> rfl
 cases h
 ·unfold Tr.make
  repeat' split
  all_goals rfl
 ·unfold Tr.add
  repeat' split
  all_goals rfl
 ·exact hdr _ _ _ _
 ·unfold Tr.move
  split
  ·rfl
  split
  ·rfl
  split
  ·rfl
  split
  ·rfl
  split
  ·rfl
  rw [hmv]
  split
  ·exact hdr _ _ _ _
  ·rfl
 ·unfold Tr.hold
  repeat' split
  all_goals try rfl
  exact htd _ _
 ·unfold Tr.write
  repeat' split
  all_goals rfl
 ·unfold Tr.cut
  repeat' split
  all_goals rfl
 ·rfl
def topM:MntD:=⟨0,⟨0,0#16⟩,1#16,0⟩
structure GI (k:Int) (T:Tr) (M:List MntD) (nx l:Int):Prop where
 k0:0<=k
 k1:k<=900
 wf:T.WF
 kd:T.KD
 ord:T.Order
 lim:T.limit<=l
 hb:T.HB (2*k)
 c0:0<=T.change
 c1:T.change<=2*k
 pin:PInv M nx k
 top:getT M 0=some topM
 mnt:∀ m∈M,(T.node m.root).kind=2#8/\(m.id=0->m=topM)/\(m.id≠0->1<=(T.node m.root).held/\(T.node m.at_.i).kind=2#8/\1<=(T.node m.at_.i).held/\0<=m.at_.m/\m.at_.m<=2)
section
variable {T T':Tr} {M:List MntD} {nx k l:Int}
theorem GI.atOk (g:GI k T M nx l):AtOk T M:=fun m hm h0=>by rw [((g.mnt m hm).2.2 h0).2.1]; decide
theorem GI.mono (g:GI k T M nx l) {k':Int} (h:k<=k') (h1:k'<=900):GI k' T M nx l :=
 { g with k0:=by have:=g.k0; omega,k1:=h1,hb:=g.hb.mono (by omega),c1:=by have:=g.c1; omega,pin:=g.pin.mono h }
theorem GI.co (g:GI k T M nx l):T.CO:=⟨by have:=g.c0; omega,by have:=g.c1; have:=g.k1; omega⟩
theorem GI.stay (g:GI k T M nx l) (s:T.Stay T') (wf:T'.WF) (kd:T'.KD) (ord:T'.Order) (lim:T'.limit<=l) {k':Int} (hk:k<=k') (h1:k'<=900) (hb:T'.HB (2*k')) (c0:0<=T'.change) (c1:T'.change<=2*k'):GI k' T' M nx l where
 k0:=by have:=g.k0; omega
 k1:=h1
 wf:=wf
 kd:=kd
 ord:=ord
 lim:=lim
 hb:=hb
 c0:=c0
 c1:=c1
 pin:=g.pin.mono hk
 top:=g.top
 mnt:=fun m hm=>by
  obtain ⟨a,b,c⟩:=g.mnt m hm
  refine ⟨?_,b,fun h0 =>?_⟩
  ·by_cases h0:m.id=0
   ·rw [b h0]; exact wf.root.1
   ·obtain ⟨c1,_⟩:=c h0
    rw [(s m.root (by rw [a]; decide) c1).1]; exact a
  ·obtain ⟨c1,c2,c3,c4⟩:=c h0
   have h1:=s m.root (by rw [a]; decide) c1
   have h2:=s m.at_.i (by rw [c2]; decide) c3
   exact ⟨by omega,by rw [h2.1]; exact c2,by omega,c4⟩
theorem GI.did (g:GI k T M nx l) (d:T.Did true T') (wf:T'.WF) (cb:T.CB T') (hb:T'.HB (2*k+1)) (h1:k+1<=900):GI (k+1) T' M nx l:=by
 have hc0:=g.c0
 have hc1:=g.c1
 exact g.stay (d.stay g.wf) wf (d.kd g.kd) (d.order g.wf g.ord) (by rw [d.limit]; exact g.lim) (by omega) h1 (hb.mono (by omega)) (by have:=cb.1; omega) (by have:=cb.2; omega)
theorem getT_append {l:List MntD} {x:MntD} {id:Int} {m:MntD} (h:getT l id=some m):getT (l++[x]) id=some m:=by
 unfold getT at h ⊢
 rw [List.find?_append,h]; rfl
theorem GI.new (limit l:Int) (hl:1<=l/\limit<=l):GI 0 (Tr.new limit) tab0 1 l where
 k0:=Int.le_refl _
 k1:=by decide
 wf:=Tr.new_wf limit
 kd:=Tr.KD.new limit
 ord:=Tr.Order.new limit
 lim:=by show min (max limit 1) 256<=l; omega
 hb:=Tr.HB.new limit
 c0:=Int.le_refl _
 c1:=Int.le_refl _
 pin:=pinv0
 top:=rfl
 mnt:=fun m hm=>by
  simp [tab0] at hm
  subst hm
  exact ⟨(Tr.new_wf limit).root.1,fun _=>rfl,fun h=>(h rfl).elim⟩
theorem GI.bind (g:GI k T M nx l) (h1:k+1<=900) (root:BitVec 16) (p:PlaceD) (hp:0<=p.m/\p.m<=2) (hr:(T.node root).kind=2#8) (ha:(T.node p.i).kind=2#8) (ok:(bindT M nx root p).e=0) :
  GI (k+1) ((T.hold root true).1.hold p.i true).1 (bindT M nx root p).T (bindT M nx root p).nx l:=by
 have s1:T.Stay (T.hold root true).1 := .hold root
 have s2:(T.hold root true).1.Stay ((T.hold root true).1.hold p.i true).1 := .hold p.i
 have w1:=g.wf.hold root true
 have w2:=w1.hold p.i true
 have hk0:=g.k0
 have hc0:=g.c0
 have hc1:=g.c1
 have b1:=g.hb.hold (by omega) root true
 have b2:=b1.hold (by omega) p.i true
 have e1:(T.hold root true).1=T.upd root (Nd.addH 1):=by
  unfold Tr.hold
  rw [if_neg (by rw [hr]; decide),if_pos rfl]
 have n1:∀ m,(T.hold root true).1.node m=if m=root then Nd.addH 1 (T.node root) else T.node m:=fun m=>by
  rw [e1,Tr.node_upd (by rw [hr]; decide)]
 have ha1:((T.hold root true).1.node p.i).kind=2#8:=by
  rw [n1]; split
  ·exact hr
  ·exact ha
 have e2:((T.hold root true).1.hold p.i true).1=(T.hold root true).1.upd p.i (Nd.addH 1):=by
  show (Tr.hold _ _ _).1=_
  rw [Tr.hold,if_neg (by rw [ha1]; decide),if_pos rfl]
 have n2:∀ m,((T.hold root true).1.hold p.i true).1.node m=if m=p.i then Nd.addH 1 ((T.hold root true).1.node p.i) else (T.hold root true).1.node m:=fun m=>by
  rw [e2,Tr.node_upd (by rw [ha1]; decide)]
 have q1:=g.wf.held root
 have q2:=g.wf.held p.i
 have hr2:(((T.hold root true).1.hold p.i true).1.node root).kind=2#8/\1<=(((T.hold root true).1.hold p.i true).1.node root).held:=by
  rw [n2]
  split
  ·rename_i e
   refine ⟨ha1,?_⟩
   show 1<=((T.hold root true).1.node p.i).held+1
   have:=w1.held p.i
   omega
  ·rw [n1,if_pos rfl]
   refine ⟨hr,?_⟩
   show 1<=(T.node root).held+1
   omega
 have ha2:(((T.hold root true).1.hold p.i true).1.node p.i).kind=2#8/\1<=(((T.hold root true).1.hold p.i true).1.node p.i).held:=by
  rw [n2,if_pos rfl]
  refine ⟨ha1,?_⟩
  show 1<=((T.hold root true).1.node p.i).held+1
  have:=w1.held p.i
  omega
 have c1:(T.hold root true).1.change=T.change:=by rw [e1]; rfl
 have c2:((T.hold root true).1.hold p.i true).1.change=T.change:=by rw [e2]; exact c1
 have l1:(T.hold root true).1.limit=T.limit:=by rw [e1]; rfl
 have l2:((T.hold root true).1.hold p.i true).1.limit=T.limit:=by rw [e2]; exact l1
 have kd:=(g.kd.hold keeps_KD root true).hold keeps_KD p.i true
 have o2:=(g.ord.step (.hold root true)).step (.hold p.i true)
 have pin:=g.pin.bind root p
 have base:=g.stay (s1.trans s2) w2 kd o2 (by rw [l2]; exact g.lim) (k':=k+1) (by omega) h1 (b2.mono (by omega)) (by rw [c2]; exact hc0) (by rw [c2]; omega)
 have hT:(bindT M nx root p).T=M++[⟨nx,p,root,0⟩]:=by
  unfold bindT at ok ⊢
  split at ok
  ·simp at ok
  ·rename_i h
   rw [if_neg h]
   split at ok
   ·simp at ok
   ·rename_i h
    rw [if_neg h]
    split at ok
    ·simp at ok
    ·rename_i h
     rw [if_neg h]
 refine { base with pin:=pin,top :=?_,mnt:=fun m hm =>?_ }
 ·rw [hT]; exact getT_append g.top
 ·rw [hT] at hm
  rcases List.mem_append.1 hm with hm | hm
  ·exact base.mnt m hm
  ·simp only [List.mem_singleton] at hm
   subst hm
   have:=g.pin.nx0
   exact ⟨hr2.1,fun h=>by simp only at h; omega,fun _=>⟨hr2.2,ha2.1,ha2.2,hp⟩⟩
end
end Go.AM
end
section
namespace Go.AM
set_option maxRecDepth 20000
structure GActD where
 kind:BitVec 8
 act:ActD
 root:BitVec 8
 seen:BitVec 8
 link:BitVec 8
def GActD.cells (x:GActD):List Value:=u8 x.kind :: (x.act.cells++[u8 x.root,u8 x.seen,u8 x.link])
abbrev gactSh:Sh := .struct [.int .u8,actSh,.int .u8,.int .u8,.int .u8]
theorem SV.gact {H:AH} {cs:List Value} (h:SV H gactSh cs):∃ x:GActD,cs=x.cells/\x.act.ok H:=by
 obtain ⟨c0,e0,rfl,h0,c1,e1,rfl,h1,c2,e2,rfl,h2,c3,e3,rfl,h3,c4,e4,rfl,h4,rfl⟩:=h
 obtain ⟨x0,rfl⟩:=h0.u8
 obtain ⟨x1,rfl,ok⟩:=SV.act h1
 obtain ⟨x2,rfl⟩:=h2.u8
 obtain ⟨x3,rfl⟩:=h3.u8
 obtain ⟨x4,rfl⟩:=h4.u8
 exact ⟨⟨x0,x1,x2,x3,x4⟩,by simp [GActD.cells],ok⟩
theorem ArgSV.gacts {H:AH} {v:Value} (h:ArgSV H (.slice 14 gactSh) v):∃ l:List GActD,Rows H 14 v (l.map GActD.cells)/\l.length<=9223372036854775807/\∀ x∈l,x.act.ok H:=ArgSV.rowsOf (fun _ h=>SV.gact h) h
theorem gactZero:([(.int .u8 0),(.int .u8 0),(.int .u8 0),(.int .u8 0),(.int .u8 0),(.int .u8 0),(.string ⟨#[]⟩),(.int .i64 0),(.slice none 0 0),(.bool false),(.bool false),(.int .u8 0),(.int .u8 0),(.int .u8 0)]:List Value)=(GActD.mk 0#8 (ActD.mk 0#8 0#8 0#8 0#8 0#8 [] 0 nilS [] false false) 0#8 0#8 0#8).cells:=rfl
theorem GActD.len (x:GActD):x.cells.length=14:=rfl
theorem GActD.all_plain (x:GActD) (h:plain1 x.act.bytes=true):x.cells.all plain1=true:=by
 have:=x.act.all_plain h
 simp only [GActD.cells,List.all_cons,List.all_append,this,List.all_nil,Bool.and_true,Bool.true_and]; rfl
theorem gact_store {H:AH} {x:GActD} (hp:plain1 x.act.bytes=true) (z:GActD):storeN 14 (ptr H.next 0) (.agg x.cells.toArray) (H.new (.cells z.cells none))=some (H.new (.cells x.cells none)):=by
 rw [storeN_ptr,AH.get_new_self]
 have hs:AM.splice z.cells 0 x.cells=x.cells:=rfl
 simp only [List.size_toArray,List.toList_toArray,GActD.len,GActD.all_plain x hp,Nat.zero_add,Nat.le_refl,and_self,if_true,hs,AH.new_put]
section
variable {X:List Res} {E:Sy} {H0 H H' H'':AH} {Q:Value->AH->Prop} {w t:Nat} {T T':Tr} {M M':List MntD} {nx nx' k l:Int}
def lightL (l:List GActD):Bool:=l.all fun x=>decide (x.act.any.length<=200)&&decide (x.act.bl.length<=200)
theorem S.f45 (hE:Fold E) (v:Value) (l:List GActD) (hv:Rows H 14 v (l.map GActD.cells)) (hll:l.length<=9223372036854775807) (hok:∀ x∈l,x.act.ok H)
  (hQ:∀ H',Ext H H'->Q (vb (lightL l)) H'):E.call (E.fid i.f45) [v] H Q:=by
 apply hE.f45
 have hl:=hv.lenSlc
 rw [List.length_map] at hl
 simp only [F.f45,hl,tk_eq,opt_some]
 refine LoopL.count l.length (fun j ls H'=>ls=[v,vi l.length,vi j]/\Ext H H'/\lightL (l.take j)=true) ?_ ⟨rfl,Ext.refl H,rfl⟩
 rintro j _ H1 X hj hX ⟨rfl,e1,hn⟩
 by_cases hjl:j<l.length
 ·have hjl':(j:Int)<l.length:=by omega
  have hX:=hX hjl
  have hjj:=i64_inc (i:=j) (by omega)
  obtain ⟨b,o,p1,p2⟩:=(hv.mono e1).ix (i:=j) (by simpa using hjl)
  rw [List.getElem_map] at p2
  have hmem:=List.getElem_mem hjl
  have hx:=(hok l[j] hmem).mono e1
  have htk:l.take (j+1)=l.take j++[l[j]]:=by rw [List.take_succ,List.getElem?_eq_getElem hjl]; rfl
  have hno:¬ (l[j].act.any.length<=200/\l[j].act.bl.length<=200)->lightL l=false:=by
   intro h
   unfold lightL
   rw [List.all_eq_false]
   refine ⟨l[j],hmem,?_⟩
   simpa using h
  have hyes:l[j].act.any.length<=200->l[j].act.bl.length<=200->lightL (l.take (j+1))=true:=by
   intro h1 h2
   unfold lightL at hn ⊢
   rw [htk,List.all_append,hn]
   simp [h1,h2]
  generalize l[j]=x at *
  generalize hj1:j+1=j1 at *
  have hlo:loadN 14 (ptr b o) H1=some (.agg x.cells.toArray):=by rw [loadN_ptr,p2]; rfl
  have hst:=gact_store (H:=H1) (rows_plain hx.bytes) (GActD.mk 0#8 (ActD.mk 0#8 0#8 0#8 0#8 0#8 [] 0 nilS [] false false) 0#8 0#8 0#8)
  have hx2:Ext H1 (H1.new (.cells x.cells none)):=(Ext.refl H1).new _
  have hb2:=AH.get_new_self H1 (.cells x.cells none)
  have c6:x.cells[6]? = some (str x.act.any):=rfl
  have c8:x.cells[8]? = some x.act.bytes:=rfl
  have hbl:=hx.bytes.lenSlc
  rw [byteR_length] at hbl
  by_cases a1:200<x.act.any.length
  ·have a1':(200:Int)<x.act.any.length:=by omega
   have hQ:=hQ _ (e1.trans hx2)
   rw [hno (by omega)] at hQ
   simp only [F.f45_l1,i64_lss,hjl',decide_true,p1,hlo,allocW_eq,gactZero,hst,hb2,c6,lenStr_s,i64_gtr,gt_iff_lt,a1',stdZ]
   exact hQ
  have a1':¬ (200:Int)<x.act.any.length:=by omega
  by_cases a2:200<x.act.bl.length
  ·have a2':(200:Int)<x.act.bl.length:=by omega
   have hQ:=hQ _ (e1.trans hx2)
   rw [hno (by omega)] at hQ
   simp only [F.f45_l1,i64_lss,hjl',decide_true,p1,hlo,allocW_eq,gactZero,hst,hb2,c6,c8,lenStr_s,i64_gtr,gt_iff_lt,a1',a2',decide_false,hbl,stdZ]
   exact hQ
  have a2':¬ (200:Int)<x.act.bl.length:=by omega
  simp only [F.f45_l1,i64_lss,hjl',decide_true,p1,hlo,allocW_eq,gactZero,hst,hb2,c6,c8,lenStr_s,i64_gtr,gt_iff_lt,a1',a2',decide_false,hbl,hjj,stdZ]
  exact hX _ _ ⟨rfl,e1.trans hx2,hyes (by omega) (by omega)⟩
 ·have hjl':¬ (j:Int)<l.length:=by omega
  have:j=l.length:=by omega
  subst this
  rw [List.take_length] at hn
  have hQ:=hQ _ e1
  rw [hn] at hQ
  simp only [F.f45_l1,i64_lss,hjl',decide_false,stdZ]
  exact hQ
def linkTexts:List NameL:=[[97],[47,97],[46,46,47,98],[98,47,99],[47],[46],[46,46],[47,98,47,46,46,47,97],[102],[97,47],[110,111,116,104,105,110,103],[47,97,47,98,47,99]]
theorem S.f47 (hE:Fold E) (hQ:∀ v H',Ext H H'->Rows H' 1 v (strR linkTexts)->Q v H'):E.call (E.fid i.f47) [] H Q:=by
 apply hE.f47
 have hb:=buildS_full 12 1 [str []] [(0,str [97]),(1,str [47,97]),(2,str [46,46,47,98]),(3,str [98,47,99]),(4,str [47]),(5,str [46]),(6,str [46,46]),(7,str [47,98,47,46,46,47,97]),(8,str [102]),(9,str [97,47]),(10,str [110,111,116,104,105,110,103]),(11,str [47,97,47,98,47,99])] (linkTexts.map str) rfl rfl rfl rfl (by
   intro v hv
   obtain ⟨s,_,rfl⟩:=List.mem_map.1 hv
   rfl)
 have hb:buildS 12 1 #[(.string ⟨#[]⟩)] [(0,(.string ⟨#[97]⟩)),(1,(.string ⟨#[47,97]⟩)),(2,(.string ⟨#[46,46,47,98]⟩)),(3,(.string ⟨#[98,47,99]⟩)),(4,(.string ⟨#[47]⟩)),(5,(.string ⟨#[46]⟩)),(6,(.string ⟨#[46,46]⟩)),(7,(.string ⟨#[47,98,47,46,46,47,97]⟩)),(8,(.string ⟨#[102]⟩)),(9,(.string ⟨#[97,47]⟩)),(10,(.string ⟨#[110,111,116,104,105,110,103]⟩)),(11,(.string ⟨#[47,97,47,98,47,99]⟩))]=some (.cells (linkTexts.map str) none,mkSlc 12 12):=by
  simpa [linkTexts] using hb
 simp only [F.f47,hb,AM.mk_some,mkSlc_eq,tk_eq]
 refine hQ _ _ ((Ext.refl H).new _) (Rows.made (f:=none) (by rw [AH.get_new_self]; rfl) (.inl rfl) rfl ?_)
 intro r hr
 obtain ⟨s,_,rfl⟩:=List.mem_map.1 hr
 rfl
def GwO (X:List Res) (H0 H:AH) (w t:Nat) (T:Tr) (M:List MntD) (nx:Int):Prop:=∃ nv mv Y,WkO (refR t nv mv nx (mntI M) Y T :: X) H0 H w T M nx/\Y.length=T.N.length/\T.N.length<=60000
theorem GwO.ext (h:GwO X H0 H w t T M nx):Ext H0 H:=by obtain ⟨_,_,_,h,_⟩:=h; exact h.ext
theorem GwO.mono (h:GwO X H0 H w t T M nx) (e:Ext H H'):GwO X H0 H' w t T M nx:=by obtain ⟨nv,mv,Y,h,a,b⟩:=h; exact ⟨nv,mv,Y,h.mono e,a,b⟩
theorem GwO.at_ (h:GwO X H0 H w t T M nx):WkAt H w T M:=by obtain ⟨nv,mv,Y,h,a,b⟩:=h; exact h.at_
theorem GwO.box (h:GwO X H0 H w t T M nx) (c:List Value):GwO (X++[boxR H.next c]) H0 (H.new (.cells c none)) w t T M nx:=by obtain ⟨nv,mv,Y,h,a,b⟩:=h; exact ⟨nv,mv,Y,h.box c,a,b⟩
theorem GwO.drop {r:Res} (h:GwO (X++[r]) H0 H w t T M nx):GwO X H0 H w t T M nx:=by obtain ⟨nv,mv,Y,h,a,b⟩:=h; exact ⟨nv,mv,Y,WkO.drop (X:=refR t nv mv nx (mntI M) Y T :: X) h,a,b⟩
theorem GwO.held {b:Nat} {c:List Value} (h:GwO (X++[boxR b c]) H0 H w t T M nx):H.get b = .cells c none:=by obtain ⟨nv,mv,Y,h,_⟩:=h; exact WkO.held (X:=refR t nv mv nx (mntI M) Y T :: X) h
theorem GwO.put {b:Nat} {c:List Value} (h:GwO (X++[boxR b c]) H0 H w t T M nx) (c':List Value):GwO (X++[boxR b c']) H0 (H.put b (.cells c' none)) w t T M nx:=by obtain ⟨nv,mv,Y,h,a,b⟩:=h; exact ⟨nv,mv,Y,WkO.put (X:=refR t nv mv nx (mntI M) Y T :: X) h c',a,b⟩
theorem more_j2 (hE:Fold E) {c:Nat} {x:ActD} (h:GwO (X++[boxR c x.cells]) H0 H w t T M nx) (g:GI k T M nx l) (hk:k+1<=900) (hx:x.ok H0) (hl:x.any.length<=200/\x.bl.length<=200) (hraw:x.raw=false) (hup:x.kind % 15#8=11#8->x.flag=true)
  {av nv:Value} {j:Nat} (hj:j<2 ^ 62) {X0:List Value->AH->Prop} (next:∀ T' H',GwO X H0 H' w t T' M nx->GI (k+1) T' M nx l->X0 [ptr w 0,ptr t 0,av,nv,vi ((j+1:Nat):Int)] H') :
  F.f46_j2 E Q X0 (ptr w 0) (ptr t 0) (ptr c 0) av nv (vi j) H:=by
 have hb:=h.held
 have hlo:loadN 10 (ptr c 0) H=some (.agg x.cells.toArray):=by rw [loadN_ptr,hb,row_all _ _ 10 rfl]; rfl
 obtain ⟨rv,mv,Y,h,hyl,hyf⟩:=h
 obtain ⟨p,q,hw,_⟩:=h.open_
 obtain ⟨p',q',v,m,L,h2,back⟩:=h.two hyl hyf
 have hw2:=h2.ow.holds (boxR w [ptr p' 0,ptr q' 0]) (by simp)
 have hw2:H.get w = .cells [ptr p' 0,ptr q' 0] none:=hw2
 have hjj:=i64_inc (i:=j) (by omega)
 have hk0:=g.k0
 have hc0:=g.c0
 have hc1:=g.c1
 generalize hj1:j+1=j1 at *
 simp only [F.f46_j2,hw2,hlo,stdZ]
 refine S.f42 hE h2 g.wf g.hb ⟨by omega,by omega⟩ ⟨by omega,by omega⟩ hx hl hraw hup fun L' nv' Y' T' H' ha hd =>?_
 simp only [hjj,stdZ]
 have ho:=back _ _ _ _ _ _ ha.two
 have hg:GwO (X++[boxR c x.cells]) H0 H' w t T' M nx:=⟨nv',mv,Y',ho,ha.two.len,ha.two.fit⟩
 exact next T' H' hg.drop (g.did hd ha.wf ha.cb ha.hb hk)
end
end Go.AM
end
section
namespace Go.AM
set_option maxRecDepth 20000
section
variable {X:List Res} {E:Sy} {H0 H H' H'':AH} {Q:Value->AH->Prop} {w t:Nat} {T T':Tr} {M M':List MntD} {nx nx' k l:Int}
theorem bindT_not {root:BitVec 16} {p:PlaceD} (h:(bindT M nx root p).e≠0):(bindT M nx root p).T=M/\(bindT M nx root p).nx=nx:=by
 unfold bindT at h ⊢
 split
 ·exact ⟨rfl,rfl⟩
 ·rename_i h1
  rw [if_neg h1] at h
  split
  ·exact ⟨rfl,rfl⟩
  ·rename_i h2
   rw [if_neg h2] at h
   split
   ·exact ⟨rfl,rfl⟩
   ·rename_i h3
    rw [if_neg h3] at h
    exact (h rfl).elim
theorem more_j1 (hE:Fold E) {a c:Nat} {z:GActD} {x:ActD} (h:GwO ((X++[boxR a z.cells])++[boxR c x.cells]) H0 H w t T M nx) (g:GI k T M nx l) (hk:k+1<=900) (hx:x.ok H0) (hl:x.any.length<=200/\x.bl.length<=200) (hraw:x.raw=false) (hup:x.kind % 15#8=11#8->x.flag=true)
  {av nv:Value} {j:Nat} (hj:j<2 ^ 62) {X0:List Value->AH->Prop} (next:∀ T' H',GwO X H0 H' w t T' M nx->GI (k+1) T' M nx l->X0 [ptr w 0,ptr t 0,av,nv,vi ((j+1:Nat):Int)] H') :
  F.f46_j1 E Q X0 (ptr w 0) (ptr t 0) (ptr a 0) (ptr c 0) av nv (vi j) H:=by
 have hb:=h.held
 have ha:=h.drop.held
 have c0:x.cells[0]? = some (u8 x.kind):=rfl
 have z13:z.cells[13]? = some (u8 z.link):=rfl
 have r1:binInt .rem (u8 x.kind) (.int .u8 15)=some (u8 (x.kind % 15#8)):=u8_rem _ 15#8 (by decide)
 have e1:binInt .eql (u8 (x.kind % 15#8)) (.int .u8 3)=some (vb (decide (x.kind % 15#8=3#8))):=u8_eql _ 3#8
 simp only [F.f46_j1,hb,c0,r1,e1,stdZ]
 by_cases h3:x.kind % 15#8=3#8
 ·simp only [h3,decide_true,ha,z13,u8_to_i64,stdZ]
  refine S.f47 hE fun v1 H1 x1 s1 =>?_
  refine ⟨by rw [load1_ptr,load1_ptr,x1.cells ha,ha],?_⟩
  refine S.f47 hE fun v2 H2 x2 s2 =>?_
  refine ⟨by rw [load1_ptr,load1_ptr,x2.cells (x1.cells ha),ha],?_⟩
  have l2:AM.lenSlc v2=some (vi ((12:Nat):Int)):=s2.lenSlc
  have hlen:(strR linkTexts).length=12:=rfl
  have hlt:z.link.toNat % 12<(strR linkTexts).length:=by rw [hlen]; exact Nat.mod_lt _ (by omega)
  obtain ⟨b,o,p1,p2⟩:=(s1.mono x2).ix hlt
  obtain ⟨s,hs,he⟩:=List.mem_map.1 (List.getElem_mem hlt)
  rw [<- he] at p2
  have p3:(H2.get b).cell o=some (str s):=by
   have:=row_at p2 (j:=0) (by omega)
   simpa using this
  have hsl:s.length<=120:=by
   have:∀ s∈linkTexts,s.length<=120:=by decide
   exact this s hs
  have h2:=(h.mono x1).mono x2
  have hst:store1 (ptr c 5) (str s) H2=some (H2.put c (.cells ({ x with any:=s }:ActD).cells none)):=by
   rw [store1_ptr,if_pos (show plain1 (str s)=true from rfl),h2.held]
   have q1:x.cells.length=10:=rfl
   have q2:x.cells.set 5 (str s)=({ x with any:=s }:ActD).cells:=rfl
   simp only [q1,q2,show (5<10)=True from by simp,if_true]
  simp only [l2,i64_rem_nat z.link.toNat 12 (by omega),p1,p3,hst,stdZ]
  exact more_j2 hE (h2.put ({ x with any:=s }:ActD).cells) g hk ⟨by show s.length<=_; omega,hx.n,hx.bytes,hx.bl⟩ ⟨by show s.length<=200; omega,hl.2⟩ hraw hup hj fun T' H' h' g'=>next T' H' h'.drop g'
 ·simp only [h3,decide_false,stdZ]
  exact more_j2 hE h g hk hx hl hraw hup hj fun T' H' h' g'=>next T' H' h'.drop g'
theorem more_l2 (hE:Fold E) {a b:BitVec 16} {c:Nat} (h:GwO (X++[boxR c [vi a.toNat,vi b.toNat]]) H0 H w t T M nx) (wf:T.WF) {B:Int} (hb:T.HB B) (hB:0<=B/\B<1000000)
  {av nv:Value} {j:Nat} (hj:j<2 ^ 62) {X0:List Value->AH->Prop} (next:∀ H',GwO X H0 H' w t ((T.hold a true).1.hold b true).1 M nx->X0 [ptr w 0,ptr t 0,av,nv,vi ((j+1:Nat):Int)] H') :
  LoopL (fun l H X1=>F.f46_l2 E Q X0 (nth l 0) (nth l 1) (nth l 2) (nth l 3) (nth l 4) (nth l 5) (nth l 6) (nth l 7) H X1) [ptr w 0,ptr t 0,av,nv,vi j,slc c 0 2 2,vi 2,(.int .i64 0)] H:=by
 have hjj:=i64_inc (i:=j) (by omega)
 generalize hj1:j+1=j1 at *
 have one:∀ {T:Tr} {H:AH} {B:Int} (n:BitVec 16) (Q1:Value->AH->Prop),GwO (X++[boxR c [vi a.toNat,vi b.toNat]]) H0 H w t T M nx->T.WF->T.HB B->B<1100000->(∀ H',GwO (X++[boxR c [vi a.toNat,vi b.toNat]]) H0 H' w t (T.hold n true).1 M nx->Q1 (.tuple #[]) H') ->
   ∃ p q,H.get w = .cells [ptr p 0,ptr q 0] none/\E.call (E.fid i.f7) [ptr p 0,u16 n,vb true] H fun _ H1=>E.call (E.fid i.f67) [ptr t 0,vi (n.toNat:Int),vb true] H1 fun _ H2=>Q1 (.tuple #[]) H2:=by
  intro T H B n Q1 h wf hb hB hQ1
  obtain ⟨rv,mv,Y,h,hyl,hyf⟩:=h
  obtain ⟨p',q',v,m,L,h2,back⟩:=h.two hyl hyf
  have hw2:=h2.ow.holds (boxR w [ptr p' 0,ptr q' 0]) (by simp)
  have hn:=hb n
  refine ⟨p',q',hw2,?_⟩
  refine TwoX.cHold hE h2 wf n true (by omega) fun L1 H1 h3 =>?_
  refine TwoX.rHold hE h3 wf n true (by omega) fun Y2 H2 h4 =>?_
  exact hQ1 _ ⟨rv,mv,Y2,back _ _ _ _ _ _ h4,h4.len,h4.fit⟩
 have conv:∀ x:BitVec 16,convInt .u16 (vi (x.toNat:Int))=some (u16 x):=fun x=>by
  rw [i64_to_u16]
  congr 2
  rw [BitVec.ofInt_natCast,BitVec.ofNat_toNat,BitVec.setWidth_eq]
 have i0:(.int .i64 0:Value)=vi ((0:Nat):Int):=rfl
 rw [i0]
 refine LoopL.count 2 (fun i ls H'=>ls=[ptr w 0,ptr t 0,av,nv,vi j,slc c 0 2 2,vi 2,vi i]/\((i=0/\GwO (X++[boxR c [vi a.toNat,vi b.toNat]]) H0 H' w t T M nx)\/(i=1/\GwO (X++[boxR c [vi a.toNat,vi b.toNat]]) H0 H' w t (T.hold a true).1 M nx)\/(i=2/\GwO (X++[boxR c [vi a.toNat,vi b.toNat]]) H0 H' w t ((T.hold a true).1.hold b true).1 M nx))) ?_ ⟨rfl,.inl ⟨rfl,h⟩⟩
 rintro i _ H1 X1 hi hX ⟨rfl,(⟨rfl,h1⟩ | ⟨rfl,h1⟩ | ⟨rfl,h1⟩)⟩
 ·have hX:=hX (by omega)
  have p1:ixSlc 1 (slc c 0 2 2) (vi ((0:Nat):Int))=some (ptr c 0):=rfl
  have p2:=h1.held
  obtain ⟨p,q,hw,hc⟩:=one a (fun v H=>X1 [ptr w 0,ptr t 0,av,nv,vi j,slc c 0 2 2,vi 2,vi ((1:Nat):Int)] H) h1 wf hb (by omega) fun H' h'=>hX _ _ ⟨rfl,.inr (.inl ⟨rfl,h'⟩)⟩
  have hlt:(((0:Nat):Int)<2)=True:=by simp
  have inc:binInt .add (vi ((0:Nat):Int)) (vi 1)=some (vi ((1:Nat):Int)):=i64_inc (i:=0) (by omega)
  simp only [F.f46_l2,i64_lss,hlt,decide_true,p1,p2,hw,conv,inc,stdZ]
  exact hc
 ·have hX:=hX (by omega)
  have p1:ixSlc 1 (slc c 0 2 2) (vi ((1:Nat):Int))=some (ptr c 1):=rfl
  have p2:=h1.held
  obtain ⟨p,q,hw,hc⟩:=one b (fun v H=>X1 [ptr w 0,ptr t 0,av,nv,vi j,slc c 0 2 2,vi 2,vi ((2:Nat):Int)] H) h1 (wf.hold a true) (hb.hold hB.1 a true) (by omega) fun H' h'=>hX _ _ ⟨rfl,.inr (.inr ⟨rfl,h'⟩)⟩
  have hlt:(((1:Nat):Int)<2)=True:=by simp
  have inc:binInt .add (vi ((1:Nat):Int)) (vi 1)=some (vi ((2:Nat):Int)):=i64_inc (i:=1) (by omega)
  simp only [F.f46_l2,i64_lss,hlt,decide_true,p1,p2,hw,conv,inc,stdZ]
  exact hc
 ·have hlt:(((2:Nat):Int)<2)=False:=by simp
  simp only [F.f46_l2,i64_lss,hlt,decide_false,hjj,stdZ]
  exact next _ h1.drop
end
end Go.AM
end
section
namespace Go.AM
set_option maxRecDepth 20000
section
variable {X:List Res} {E:Sy} {H0 H H' H'':AH} {Q:Value->AH->Prop} {w t:Nat} {T T':Tr} {M M':List MntD} {nx nx' k l:Int}
theorem dirP_kind {p:PlaceD} (h:dirP T M p=true):(T.node p.i).kind=2#8:=by
 unfold dirP at h
 simp only [Bool.and_eq_true,decide_eq_true_eq] at h
 exact h.2
theorem more_bind (hE:Fold E) {b:Nat} {p:PlaceD} (h:GwO (X++[boxR b p.cells]) H0 H w t T M nx) (g:GI k T M nx l) (hk:k+1<=900) (root:BitVec 16) (hp:0<=p.m/\p.m<=2) (hr:(T.node root).kind=2#8) (ha:(T.node p.i).kind=2#8)
  {av nv:Value} {j:Nat} (hj:j<2 ^ 62) {X0:List Value->AH->Prop} (next:∀ T' M' nx' H',GwO X H0 H' w t T' M' nx'->GI (k+1) T' M' nx' l->X0 [ptr w 0,ptr t 0,av,nv,vi ((j+1:Nat):Int)] H') :
  opt (nilCk (ptr w 0)) fun v42=>opt (addOff v42 1) fun v43=>opt (load1 v43 H) fun v44=>opt (convInt .u16 (vi (root.toNat:Int))) fun v45=>opt (loadN 2 (ptr b 0) H) fun v46 =>
  E.call (E.fid i.f28) [v44,v45,v46] H fun v47 H13 =>
  opt (ext v47 0) fun v48=>opt (ext v47 1) fun v49=>opt (binInt .eql v49 (.int .i64 0)) fun v50 =>
  ifB v50 (
  opt (loadN 2 (ptr b 0) H13) fun v51 =>
  E.call (E.fid i.f44) [v51] H13 fun v52 H14 =>
  E.call (E.fid i.f61) [(ptr t 0),(vi (root.toNat:Int)),v52] H14 fun v53 H15 =>
  opt (addOff (ptr b 0) 1) fun v54=>opt (load1 v54 H15) fun v55=>opt (convInt .i64 v55) fun v56 =>
  mk (buildS 2 1 #[(.int .i64 0)] [(0,(vi (root.toNat:Int))),(1,v56)]) H15 fun v57 H16 =>
  opt (lenSlc v57) fun v58 =>
  LoopL (fun l H X1=>F.f46_l2 E Q X0 (nth l 0) (nth l 1) (nth l 2) (nth l 3) (nth l 4) (nth l 5) (nth l 6) (nth l 7) H X1) [(ptr w 0),(ptr t 0),av,nv,(vi j),v57,v58,(.int .i64 0)] H16) (
  opt (binInt .add (vi j) (.int .i64 1)) fun v59 =>
  X0 [(ptr w 0),(ptr t 0),av,nv,v59] H13):=by
 have hb:=h.held
 have hlo:∀ {H':AH},H'.get b = .cells p.cells none->loadN 2 (ptr b 0) H'=some p.v:=fun hh=>by rw [loadN_ptr,hh]; rfl
 have conv:convInt .u16 (vi (root.toNat:Int))=some (u16 root):=by
  rw [i64_to_u16]
  congr 2
  rw [BitVec.ofInt_natCast,BitVec.ofNat_toNat,BitVec.setWidth_eq]
 have hjj:=i64_inc (i:=j) (by omega)
 have hk0:=g.k0
 generalize hj1:j+1=j1 at *
 obtain ⟨rv,mv,Y,h,hyl,hyf⟩:=h
 obtain ⟨pp,q,hw,_,⟨v,ht,hnd,back⟩⟩:=h.open_
 simp only [hw,conv,hlo hb,stdZ]
 have ok':=(g.pin.bind root p).ok (by omega)
 refine S.f28 hE q v M nx ht hnd h.tab root p fun v' H1 u1 =>?_
 have h1:=back _ _ _ _ u1 ok'
 obtain ⟨g1,g2,g3,g4⟩:=bind_toI g.pin root p
 have hb1:=WkO.held (X:=refR t rv mv nx (mntI M) Y T :: X) h1
 by_cases he:(bindT M nx root p).e=0
 ·have gb:=g.bind hk root p hp hr ha he
  simp only [he,i64_eql,decide_true,hlo hb1,stdZ]
  refine S.f44 hE p fun H2 e2 =>?_
  have h2:=h1.mono e2
  obtain ⟨o2,back2⟩:=WkO.openX (k:=0) h2 (r:=refR t rv mv nx (mntI M) Y T) rfl
  have hnx:=g.pin.nx0
  have hnx1:=g.pin.nx1
  have hlen:=g.pin.len
  refine S.pinfoldref16_Tree_BindT hE (M:=M.map MntD.toI) o2 (by rw [List.length_map]; omega) (by omega) _ _ fun mv' H3 u3 =>?_
  rw [g1,g2] at u3
  have h3:=back2 _ _ u3
  have h3:WkO ((refR t rv mv' (bindT M nx root p).nx (mntI (bindT M nx root p).T) Y T :: X)++[boxR b p.cells]) H0 H3 w T (bindT M nx root p).T (bindT M nx root p).nx:=h3
  have hb3:=h3.held
  have c1:p.cells[1]? = some (u16 p.i):=rfl
  have hbs:buildS 2 1 #[(.int .i64 0)] [(0,vi (root.toNat:Int)),(1,vi (p.i.toNat:Int))]=some (.cells [vi (root.toNat:Int),vi (p.i.toNat:Int)] none,mkSlc 2 2):=buildS_full 2 1 [vi 0] [(0,vi (root.toNat:Int)),(1,vi (p.i.toNat:Int))] [vi (root.toNat:Int),vi (p.i.toNat:Int)] rfl rfl rfl rfl (by
   intro v hv
   simp only [List.mem_cons,List.not_mem_nil,or_false] at hv
   rcases hv with rfl | rfl <;> rfl)
  have l2:AM.lenSlc (slc H3.next 0 2 2)=some (vi 2):=rfl
  simp only [hb3,c1,u16_to_i64,hbs,l2,stdZ]
  have h4:GwO (X++[boxR H3.next [vi (root.toNat:Int),vi (p.i.toNat:Int)]]) H0 (H3.new (.cells [vi (root.toNat:Int),vi (p.i.toNat:Int)] none)) w t T (bindT M nx root p).T (bindT M nx root p).nx:=⟨rv,mv',Y,WkO.box (X:=refR t rv mv' (bindT M nx root p).nx (mntI (bindT M nx root p).T) Y T :: X) (WkO.drop (X:=refR t rv mv' (bindT M nx root p).nx (mntI (bindT M nx root p).T) Y T :: X) h3) _,hyl,hyf⟩
  refine more_l2 hE h4 g.wf g.hb ⟨by omega,by have:=g.k1; omega⟩ hj fun H5 h5 =>?_
  rw [hj1]
  exact next _ _ _ _ h5 gb
 ·obtain ⟨t1,t2⟩:=bindT_not he
  rw [t1,t2] at h1
  simp only [he,i64_eql,decide_false,hjj,stdZ]
  exact next T M nx _ ⟨rv,mv,Y,WkO.drop (X:=refR t rv mv nx (mntI M) Y T :: X) h1,hyl,hyf⟩ (g.mono (by omega) hk)
end
end Go.AM
end
section
namespace Go.AM
set_option maxRecDepth 20000
section
variable {X:List Res} {E:Sy} {H0 H H' H'':AH} {Q:Value->AH->Prop} {w t:Nat} {T T':Tr} {M M':List MntD} {nx nx' k l:Int}
theorem more_act (hE:Fold E) {a:Nat} {z:GActD} (h:GwO (X++[boxR a z.cells]) H0 H w t T M nx) (g:GI k T M nx l) (hk:k+1<=900) (hx:z.act.ok H0) (hl:z.act.any.length<=200/\z.act.bl.length<=200)
  {av nv:Value} {j:Nat} (hj:j<2 ^ 62) {X0:List Value->AH->Prop} (next:∀ T' H',GwO X H0 H' w t T' M nx->GI (k+1) T' M nx l->X0 [ptr w 0,ptr t 0,av,nv,vi ((j+1:Nat):Int)] H') :
  opt (addOff (ptr a 0) 1) fun v10=>opt (loadN 10 v10 H) fun v11 =>
  allocW [(.int .u8 0),(.int .u8 0),(.int .u8 0),(.int .u8 0),(.int .u8 0),(.string ⟨#[]⟩),(.int .i64 0),(.slice none 0 0),(.bool false),(.bool false)] H fun v12 H3 =>
  opt (storeN 10 v12 v11 H3) fun H4=>opt (addOff v12 9) fun v13=>opt (store1 v13 (.bool false) H4) fun H5 =>
  opt (addOff v12 0) fun v14=>opt (load1 v14 H5) fun v15=>opt (binInt .rem v15 (.int .u8 15)) fun v16=>opt (binInt .eql v16 (.int .u8 11)) fun v17 =>
  ifB v17 (
  opt (addOff v12 8) fun v18=>opt (store1 v18 (.bool true) H5) fun H6 =>
  F.f46_j1 E Q X0 (ptr w 0) (ptr t 0) (ptr a 0) v12 av nv (vi j) H6) (
  F.f46_j1 E Q X0 (ptr w 0) (ptr t 0) (ptr a 0) v12 av nv (vi j) H5):=by
 have ha:=h.held
 have hlo:loadN 10 (ptr a 1) H=some (.agg z.act.cells.toArray):=by
  have hr:AObj.row (.cells z.cells none) 1 10=some z.act.cells:=by
   have h0:=row_all z.cells none 14 rfl
   exact row_part h0 (j:=1) (m:=10) (by omega)
  rw [loadN_ptr,ha,hr]; rfl
 have hst:=act_store (H:=H) (rows_plain hx.bytes) (ActD.mk 0#8 0#8 0#8 0#8 0#8 [] 0 nilS [] false false)
 have hs1:store1 (ptr H.next 9) (.bool false) (H.new (.cells z.act.cells none))=some (H.new (.cells ({ z.act with raw:=false }:ActD).cells none)):=by
  rw [store1_ptr,if_pos (show plain1 (.bool false)=true from rfl),AH.get_new_self]
  have h1:z.act.cells.length=10:=rfl
  have h2:z.act.cells.set 9 (.bool false)=({ z.act with raw:=false }:ActD).cells:=rfl
  simp only [h1,h2,show (9<10)=True from by simp,if_true,AH.new_put]
 have h5:=h.box ({ z.act with raw:=false }:ActD).cells
 have hb5:=h5.held
 have c0:({ z.act with raw:=false }:ActD).cells[0]? = some (u8 z.act.kind):=rfl
 have r1:binInt .rem (u8 z.act.kind) (.int .u8 15)=some (u8 (z.act.kind % 15#8)):=u8_rem _ 15#8 (by decide)
 have e1:binInt .eql (u8 (z.act.kind % 15#8)) (.int .u8 11)=some (vb (decide (z.act.kind % 15#8=11#8))):=u8_eql _ 11#8
 simp only [hlo,allocW_eq,actZero,hst,hs1,hb5,c0,r1,e1,stdZ]
 by_cases h11:z.act.kind % 15#8=11#8
 ·have hs2:store1 (ptr H.next 8) (.bool true) (H.new (.cells ({ z.act with raw:=false }:ActD).cells none))=some ((H.new (.cells ({ z.act with raw:=false }:ActD).cells none)).put H.next (.cells ({ z.act with raw:=false,flag:=true }:ActD).cells none)):=by
   rw [store1_ptr,if_pos (show plain1 (.bool true)=true from rfl),AH.get_new_self]
   have h1:({ z.act with raw:=false }:ActD).cells.length=10:=rfl
   have h2:({ z.act with raw:=false }:ActD).cells.set 8 (.bool true)=({ z.act with raw:=false,flag:=true }:ActD).cells:=rfl
   simp only [h1,h2,show (8<10)=True from by simp,if_true]
  have h6:=h5.put ({ z.act with raw:=false,flag:=true }:ActD).cells
  simp only [h11,decide_true,hs2,stdZ]
  exact more_j1 hE (x:={ z.act with raw:=false,flag:=true }) h6 g hk ⟨hx.any,hx.n,hx.bytes,hx.bl⟩ hl rfl (fun _=>rfl) hj next
 ·simp only [h11,decide_false,stdZ]
  exact more_j1 hE (x:={ z.act with raw:=false }) h5 g hk ⟨hx.any,hx.n,hx.bytes,hx.bl⟩ hl rfl (fun h=>(h11 h).elim) hj next
def GActD.rootN (z:GActD):BitVec 16:=BitVec.ofNat 16 (1+z.root.toNat % 8)
def GActD.atP (z:GActD):PlaceD:=⟨((z.link % 3#8).toNat:Int),(1#8+z.seen % 8#8).setWidth 16⟩
theorem S.f46 (hE:Fold E) (h:GwO X H0 H w t T M nx) (g:GI k T M nx l) (hk:k+60<=900) (av:Value) (acts:List GActD) (hv:Rows H0 14 av (acts.map GActD.cells)) (hll:acts.length<=9223372036854775807) (hok:∀ x∈acts,x.act.ok H0) (hlt:lightL acts=true)
  (hQ:∀ T' M' nx' H',GwO X H0 H' w t T' M' nx'->GI (k+60) T' M' nx' l->Q (.tuple #[]) H'):E.call (E.fid i.f46) [ptr w 0,ptr t 0,av] H Q:=by
 apply hE.f46
 have hl:=hv.mono h.ext
 have hl:=hl.lenSlc
 rw [List.length_map] at hl
 simp only [F.f46,hl,stdZ]
 have i0:(.int .i64 0:Value)=vi ((0:Nat):Int):=rfl
 rw [i0]
 refine LoopL.count acts.length (fun j ls H'=>j<=60/\∃ T' M' nx',ls=[ptr w 0,ptr t 0,av,vi acts.length,vi j]/\GwO X H0 H' w t T' M' nx'/\GI (k+j) T' M' nx' l) ?_ ⟨by omega,T,M,nx,rfl,h,by simpa using g⟩
 rintro j _ H1 X1 hj hX ⟨hj60,T,M,nx,rfl,h,g⟩
 by_cases hjl:j<acts.length
 rotate_left
 ·have hjl':¬ (j:Int)<acts.length:=by omega
  simp only [F.f46_l1,i64_lss,hjl',decide_false,stdZ]
  exact hQ _ _ _ _ h (g.mono (by omega) hk)
 have hjl':(j:Int)<acts.length:=by omega
 have hX:=hX hjl
 obtain ⟨b,o,p1,p2⟩:=(hv.mono h.ext).ix (i:=j) (by simpa using hjl)
 rw [List.getElem_map] at p2
 have hx:=hok acts[j] (List.getElem_mem hjl)
 have hxl:acts[j].act.any.length<=200/\acts[j].act.bl.length<=200:=by
  unfold lightL at hlt
  have:=List.all_eq_true.1 hlt _ (List.getElem_mem hjl)
  simpa using this
 generalize acts[j]=z at *
 have hlo:loadN 14 (ptr b o) H1=some (.agg z.cells.toArray):=by rw [loadN_ptr,p2]; rfl
 have hst:=gact_store (H:=H1) (rows_plain hx.bytes) (GActD.mk 0#8 (ActD.mk 0#8 0#8 0#8 0#8 0#8 [] 0 nilS [] false false) 0#8 0#8 0#8)
 have h2:=h.box z.cells
 have hb2:=h2.held
 by_cases h60:j<60
 rotate_left
 ·have h60':(60:Int)<=j:=by omega
  simp only [F.f46_l1,i64_lss,i64_geq,hjl',h60',ge_iff_le,decide_true,p1,hlo,allocW_eq,gactZero,hst,stdZ]
  exact hQ _ _ _ _ h2.drop (g.mono (by omega) hk)
 have h60':¬ (60:Int)<=j:=by omega
 have next:∀ T' M' nx' H',GwO X H0 H' w t T' M' nx'->GI (k+j+1) T' M' nx' l->X1 [ptr w 0,ptr t 0,av,vi acts.length,vi ((j+1:Nat):Int)] H':=fun T' M' nx' H' h' g' =>
  hX _ _ ⟨by omega,T',M',nx',rfl,h',g'.mono (by omega) (by omega)⟩
 have c0:z.cells[0]? = some (u8 z.kind):=rfl
 have r1:binInt .rem (u8 z.kind) (.int .u8 12)=some (u8 (z.kind % 12#8)):=u8_rem _ 12#8 (by decide)
 have e1:binInt .lss (u8 (z.kind % 12#8)) (.int .u8 10)=some (vb (decide (z.kind % 12#8<10#8))):=u8_lss _ 10#8
 by_cases h10:z.kind % 12#8<10#8
 ·have ha:=more_act (Q:=Q) hE h2 g (by omega) hx hxl (av:=av) (nv:=vi acts.length) (j:=j) (by omega) (X0:=X1) fun T' H' h' g'=>next T' M nx H' h' g'
  simp only [F.f46_l1,i64_lss,i64_geq,hjl',h60',ge_iff_le,decide_true,decide_false,p1,hlo,allocW_eq,gactZero,hst,hb2,c0,r1,e1,h10,stdZ] at ha ⊢
  exact ha
 generalize H1.new (.cells z.cells none)=H2 at *
 have c11:z.cells[11]? = some (u8 z.root):=rfl
 have c12:z.cells[12]? = some (u8 z.seen):=rfl
 have c13:z.cells[13]? = some (u8 z.link):=rfl
 have hr8:(z.rootN.toNat:Int)=((1+z.root.toNat % 8:Nat):Int):=by
  unfold GActD.rootN
  rw [BitVec.toNat_ofNat,Nat.mod_eq_of_lt (by omega)]
 have a1:binInt .add (.int .i64 1) (vi ((z.root.toNat % 8:Nat):Int))=some (vi (z.rootN.toNat:Int)):=by
  rw [hr8]
  have:=i64_add (a:=1) (b:=((z.root.toNat % 8:Nat):Int)) (by omega) (by omega)
  rw [show ((1+z.root.toNat % 8:Nat):Int)=1+((z.root.toNat % 8:Nat):Int) by omega]
  exact this
 have r8:binInt .rem (vi (z.root.toNat:Int)) (.int .i64 8)=some (vi ((z.root.toNat % 8:Nat):Int)):=i64_rem_nat z.root.toNat 8 (by omega)
 have r3:binInt .rem (u8 z.link) (.int .u8 3)=some (u8 (z.link % 3#8)):=u8_rem _ 3#8 (by decide)
 have r8':binInt .rem (u8 z.seen) (.int .u8 8)=some (u8 (z.seen % 8#8)):=u8_rem _ 8#8 (by decide)
 have a2:binInt .add (.int .u8 1) (u8 (z.seen % 8#8))=some (u8 (1#8+z.seen % 8#8)):=u8_add 1#8 _
 have hbv:buildV [(0,1),(1,1)] PlaceD.zero.cells.toArray [(0,vi ((z.link % 3#8).toNat:Int)),(1,u16 ((1#8+z.seen % 8#8).setWidth 16))]=some z.atP.v:=rfl
 have hz2:([(.int .i64 0),(.int .u16 0)]:List Value)=PlaceD.zero.cells:=rfl
 have hbv2:∀ n:BitVec 16,buildV [(0,1),(1,1)] PlaceD.zero.cells.toArray [(1,u16 n)]=some (PlaceD.v ⟨0,n⟩):=fun n=>rfl
 have conv:convInt .u16 (vi (z.rootN.toNat:Int))=some (u16 z.rootN):=by
  rw [i64_to_u16]
  congr 2
  rw [BitVec.ofInt_natCast,BitVec.ofNat_toNat,BitVec.setWidth_eq]
 have hst2:storeN 2 (ptr H2.next 0) z.atP.v (H2.new (.cells PlaceD.zero.cells none))=some (H2.new (.cells z.atP.cells none)):=two_store rfl rfl rfl
 have h3:=h2.drop.box z.atP.cells
 have hpm:0<=z.atP.m/\z.atP.m<=2:=by
  have:(z.link % 3#8).toNat=z.link.toNat % 3:=by simp
  unfold GActD.atP
  simp only
  omega
 generalize z.rootN=root at *
 generalize hp:z.atP=p at *
 have hjj:=i64_inc (i:=j) (by omega)
 simp only [F.f46_l1,i64_lss,i64_geq,hjl',h60',ge_iff_le,decide_true,decide_false,p1,hlo,allocW_eq,gactZero,hst,hb2,c0,r1,e1,h10,c11,c12,c13,u8_to_i64,r8,a1,r3,r8',a2,u8_to_u16,hz2,hbv,hst2,conv,stdZ]
 simp only [hz2,hst2,conv,hbv2,stdZ]
 have hlo3:∀ {H':AH},H'.get H2.next = .cells p.cells none->loadN 2 (ptr H2.next 0) H'=some p.v:=fun hh=>by rw [loadN_ptr,hh]; rfl
 generalize H2.new (.cells p.cells none)=H3 at *
 generalize H2.next=b3 at *
 refine S.f109 hE h3.at_ ⟨0,root⟩ fun H4 e4 =>?_
 have h4:=h3.mono e4
 cases hd:dirP T M ⟨0,root⟩ with
 | false =>
  simp only [hjj,stdZ]
  exact next T M nx _ h4.drop (g.mono (by omega) (by omega))
 | true =>
  simp only [hlo3 h4.held,stdZ]
  refine S.f109 hE h4.at_ p fun H5 e5 =>?_
  have h5:=h4.mono e5
  cases hd2:dirP T M p with
  | false =>
   simp only [hjj,stdZ]
   exact next T M nx _ h5.drop (g.mono (by omega) (by omega))
  | true =>
   have hf:=more_bind (Q:=Q) hE h5 g (by omega) root hpm (dirP_kind hd) (dirP_kind hd2) (av:=av) (nv:=vi acts.length) (j:=j) (by omega) (X0:=X1) fun T' M' nx' H' h' g'=>next T' M' nx' H' h' g'
   simp only [stdZ] at hf ⊢
   exact hf
theorem grow_new (hE:Fold E) (l:Int) {Q:Value->Value->AH->Prop} (hQ:∀ w t H',GwO [] H H' w t (Tr.new l) tab0 1->Q (ptr w 0) (ptr t 0) H') :
  E.call (E.fid i.f107) [vi l] H fun v1 H1=>E.call (E.fid i.f57) [vi l] H1 fun v2 H2=>Q v1 v2 H2:=by
 refine S.f107 hE l fun w H1 h1 =>?_
 refine S.f57 hE l fun t nv mv Y H2 e2 h2 f2 =>?_
 refine hQ w t H2 ⟨nv,mv,Y,?_,h2.len,h2.fit⟩
 obtain ⟨p,m,L,q,v,e,o,own,cov,tab⟩:=h1
 have o2:=o.ext e2
 have hm:mntI tab0=mntTop:=rfl
 rw [hm]
 have perm:(refR t nv mv 1 mntTop Y (Tr.new l) :: wkRs p m L (Tr.new l) q v tab0 1 w []).Perm (wkRs p m L (Tr.new l) q v tab0 1 w (refR t nv mv 1 mntTop Y (Tr.new l) :: [])):=by
  show List.Perm (_ :: ([_,_,_]++[])) ([_,_,_]++_ :: [])
  exact List.perm_middle.symm
 have ho:Ow (joinR (refR t nv mv 1 mntTop Y (Tr.new l) :: wkRs p m L (Tr.new l) q v tab0 1 w [])) H2:=by
  refine ⟨fun r hr =>?_,fun b hb =>?_,?_⟩
  ·rcases List.mem_cons.1 hr with rfl | hr
   ·exact h2.ow.holds
   ·exact o2.holds r hr
  ·have hb:b∈(refR t nv mv 1 mntTop Y (Tr.new l)).fp++(wkRs p m L (Tr.new l) q v tab0 1 w []).flatMap Res.fp:=hb
   rcases List.mem_append.1 hb with hb | hb
   ·exact h2.ow.lt b hb
   ·exact (o2.fp b hb).2
  ·show ((refR t nv mv 1 mntTop Y (Tr.new l)).fp++(wkRs p m L (Tr.new l) q v tab0 1 w []).flatMap Res.fp).Nodup
   rw [List.nodup_append]
   refine ⟨h2.ow.nd,o2.nd,fun a ha b hb =>?_⟩
   have h3:=f2 a ha
   have h4:=o.lt b hb
   omega
 refine ⟨p,m,L,q,v,e.trans e2,ho.perm perm,fun b hb =>?_,cov,tab⟩
 have hb:=((perm.flatMap_right Res.fp).mem_iff).2 hb
 rw [List.flatMap_cons,List.mem_append] at hb
 rcases hb with hb | hb
 ·exact Nat.le_trans e.1 (f2 b hb)
 ·exact own b hb
end
end Go.AM
end
section
namespace Go.AM
set_option maxRecDepth 20000
def mk5:List (BitVec 16×NameL×BitVec 8):=[(1#16,[97],2#8),(2#16,[98],2#8),(1#16,[102],1#8),(2#16,[103],1#8),(1#16,[99],2#8)]
def mkR (x:BitVec 16×NameL×BitVec 8):List Value:=[vi (x.1.toNat:Int),str x.2.1,u8 x.2.2]
def grownTo (j:Nat):Tr:=(mk5.take j).foldl (fun T x=>(T.make x.1 x.2.1 x.2.2 []).1) (Tr.new 80)
theorem grownTo_succ {j:Nat} (h:j<mk5.length):grownTo (j+1)=((grownTo j).make mk5[j].1 mk5[j].2.1 mk5[j].2.2 []).1:=by
 unfold grownTo
 rw [List.take_succ,List.getElem?_eq_getElem h,List.foldl_append]; rfl
section
variable {X:List Res} {E:Sy} {H0 H H' H'':AH} {Q:Value->AH->Prop} {w t:Nat} {T T':Tr} {M M':List MntD} {nx nx' k l:Int}
theorem grown_loop (hE:Fold E) (av:Value) (hQ:∀ w t H',GwO [] H H' w t (grownTo 5) tab0 1->GI 5 (grownTo 5) tab0 1 80->E.call (E.fid i.f46) [ptr w 0,ptr t 0,av] H' fun _ H5=>Q (.tuple #[ptr w 0,ptr t 0]) H5):E.call (E.fid i.f49) [av] H Q:=by
 apply hE.f49
 simp only [F.f49]
 have hbv:∀ (a:Int) (s:NameL) (c:BitVec 8),buildV [(0,1),(1,1),(2,1)] #[(.int .i64 0),(.string ⟨#[]⟩),(.int .u8 0)] [(0,vi a),(1,str s),(2,u8 c)]=some (.agg #[vi a,str s,u8 c]):=fun a s c=>rfl
 have b1:buildV [(0,1),(1,1),(2,1)] #[(.int .i64 0),(.string ⟨#[]⟩),(.int .u8 0)] [(0,(.int .i64 1)),(1,(.string ⟨#[97]⟩)),(2,(.int .u8 2))]=some (.agg (mkR (1#16,[97],2#8)).toArray):=rfl
 have b2:buildV [(0,1),(1,1),(2,1)] #[(.int .i64 0),(.string ⟨#[]⟩),(.int .u8 0)] [(0,(.int .i64 2)),(1,(.string ⟨#[98]⟩)),(2,(.int .u8 2))]=some (.agg (mkR (2#16,[98],2#8)).toArray):=rfl
 have b3:buildV [(0,1),(1,1),(2,1)] #[(.int .i64 0),(.string ⟨#[]⟩),(.int .u8 0)] [(0,(.int .i64 1)),(1,(.string ⟨#[102]⟩)),(2,(.int .u8 1))]=some (.agg (mkR (1#16,[102],1#8)).toArray):=rfl
 have b4:buildV [(0,1),(1,1),(2,1)] #[(.int .i64 0),(.string ⟨#[]⟩),(.int .u8 0)] [(0,(.int .i64 2)),(1,(.string ⟨#[103]⟩)),(2,(.int .u8 1))]=some (.agg (mkR (2#16,[103],1#8)).toArray):=rfl
 have b5:buildV [(0,1),(1,1),(2,1)] #[(.int .i64 0),(.string ⟨#[]⟩),(.int .u8 0)] [(0,(.int .i64 1)),(1,(.string ⟨#[99]⟩)),(2,(.int .u8 2))]=some (.agg (mkR (1#16,[99],2#8)).toArray):=rfl
 have hbs:=buildS_full 5 3 [vi 0,str [],u8 0#8] [(0,.agg (mkR (1#16,[97],2#8)).toArray),(1,.agg (mkR (2#16,[98],2#8)).toArray),(2,.agg (mkR (1#16,[102],1#8)).toArray),(3,.agg (mkR (2#16,[103],1#8)).toArray),(4,.agg (mkR (1#16,[99],2#8)).toArray)] (mk5.map fun x => .agg (mkR x).toArray) rfl rfl rfl rfl (by
  intro v hv
  obtain ⟨s,_,rfl⟩:=List.mem_map.1 hv
  rfl)
 have hbs:buildS 5 3 #[(.int .i64 0),(.string ⟨#[]⟩),(.int .u8 0)] [(0,.agg (mkR (1#16,[97],2#8)).toArray),(1,.agg (mkR (2#16,[98],2#8)).toArray),(2,.agg (mkR (1#16,[102],1#8)).toArray),(3,.agg (mkR (2#16,[103],1#8)).toArray),(4,.agg (mkR (1#16,[99],2#8)).toArray)]=some (.cells (mk5.map mkR).flatten none,mkSlc 5 5):=by
  rw [show (mk5.map mkR).flatten=(mk5.map fun x=>Value.agg (mkR x).toArray).flatMap vcells from rfl]
  exact hbs
 refine grow_new (Q:=fun v1 v2 H2=>_) hE 80 fun w t H1 h1 =>?_
 simp only [b1,b2,b3,b4,b5,hbs,stdZ]
 have h2:=h1.box (mk5.map mkR).flatten
 have hv2:Rows (H1.new (.cells (mk5.map mkR).flatten none)) 3 (slc H1.next 0 5 5) (mk5.map mkR):=Rows.made (f:=none) (by rw [AH.get_new_self]) (.inl rfl) rfl (by decide)
 have hls:AM.lenSlc (slc H1.next 0 5 5)=some (vi ((5:Nat):Int)):=rfl
 have i0:(.int .i64 0:Value)=vi ((0:Nat):Int):=rfl
 simp only [hls,i0,stdZ]
 generalize hbb:H1.next=bb at *
 generalize H1.new (.cells (mk5.map mkR).flatten none)=H2 at *
 have h2:GwO [boxR bb (mk5.map mkR).flatten] H H2 w t (grownTo 0) tab0 1:=h2
 refine LoopL.count 5 (fun j ls H'=>ls=[av,ptr w 0,ptr t 0,slc bb 0 5 5,vi ((5:Nat):Int),vi j]/\GwO [boxR bb (mk5.map mkR).flatten] H H' w t (grownTo j) tab0 1/\GI j (grownTo j) tab0 1 80) ?_ ⟨rfl,h2,GI.new 80 80 ⟨by omega,by omega⟩⟩
 rintro j _ H3 X hj hX ⟨rfl,h3,g⟩
 have hb3:=GwO.held (X:=[]) h3
 have hv3:Rows H3 3 (slc bb 0 5 5) (mk5.map mkR):=Rows.made (f:=none) (by rw [hb3]) (.inl rfl) rfl (by decide)
 rcases Nat.lt_or_ge j 5 with hj5 | hj5
 rotate_left
 ·have:j=5:=by omega
  subst this
  have hlt:¬ (((5:Nat):Int)<((5:Nat):Int)):=by omega
  simp only [F.f49_l1,i64_lss,hlt,decide_false,stdZ]
  exact hQ w t H3 (GwO.drop (X:=[]) h3) g
 have hX:=hX hj5
 have hjm:j<mk5.length:=hj5
 obtain ⟨b,o,p1,p2⟩:=hv3.ix (i:=j) (by simpa using hjm)
 rw [List.getElem_map] at p2
 rw [grownTo_succ hjm] at hX
 have hsl:(mk5[j]).2.1.length<2 ^ 63:=by
  have:∀ x∈mk5,x.2.1.length<2 ^ 63:=by decide
  exact this _ (List.getElem_mem hjm)
 generalize mk5[j]=x at *
 have hjj:=i64_inc (i:=j) (by omega)
 have hjl':((j:Nat):Int)<((5:Nat):Int):=by omega
 have hlo:loadN 3 (ptr b o) H3=some (.agg (mkR x).toArray):=by rw [loadN_ptr,p2]; rfl
 have hst:storeN 3 (ptr H3.next 0) (.agg (mkR x).toArray) (H3.new (.cells [(.int .i64 0),str [],(.int .u8 0)] none))=some (H3.new (.cells (mkR x) none)):=by
  rw [storeN_ptr,AH.get_new_self]
  have hs:AM.splice [(.int .i64 0),str [],(.int .u8 0)] 0 (mkR x)=mkR x:=rfl
  have hp:(mkR x).all plain1=true:=rfl
  have hl:(mkR x).length=3:=rfl
  simp only [List.size_toArray,List.toList_toArray,hl,hp,List.length_cons,List.length_nil,Nat.zero_add,Nat.reduceAdd,Nat.le_refl,and_self,if_true,hs,AH.new_put]
 have h4:=h3.box (mkR x)
 have hb4:=h4.held
 obtain ⟨rv,mv,Y,h4,hyl,hyf⟩:=h4
 obtain ⟨p',q',v,m,L,h5,back⟩:=h4.two hyl hyf
 have hw5:(H3.new (.cells (mkR x) none)).get w = .cells [ptr p' 0,ptr q' 0] none:=h5.ow.holds (boxR w [ptr p' 0,ptr q' 0]) (by simp)
 have c0:(mkR x)[0]? = some (vi (x.1.toNat:Int)):=rfl
 have c1:(mkR x)[1]? = some (str x.2.1):=rfl
 have c2:(mkR x)[2]? = some (u8 x.2.2):=rfl
 have s0:(.string ⟨#[]⟩:Value)=str []:=rfl
 have conv:convInt .u16 (vi (x.1.toNat:Int))=some (u16 x.1):=by
  rw [i64_to_u16]
  congr 2
  rw [BitVec.ofInt_natCast,BitVec.ofNat_toNat,BitVec.setWidth_eq]
 have hc:=g.co
 have hk0:=g.k0
 generalize hj1:j+1=j1 at *
 simp only [F.f49_l1,i64_lss,hjl',decide_true,p1,hlo,allocW_eq,hst,hw5,hb4,c0,c1,c2,conv,s0,stdZ]
 refine TwoX.cMake hE h5 g.wf x.1 x.2.1 hsl x.2.2 [] (by decide) ⟨hc.1,by have:=hc.2; omega⟩ fun L1 H5 h6 =>?_
 have hb6:H5.get H3.next = .cells (mkR x) none:=h6.ow.holds (boxR H3.next (mkR x)) (by simp)
 simp only [hb6,c0,c1,c2,u8_to_i64,stdZ]
 refine TwoX.rMake hE h6 g.wf x.1 x.2.1 hsl x.2.2 [] ⟨hc.1,by have:=hc.2; omega⟩ fun nv2 Y2 H6 h7 =>?_
 have h8:GwO ([boxR bb (mk5.map mkR).flatten]++[boxR H3.next (mkR x)]) H H6 w t ((grownTo j).make x.1 x.2.1 x.2.2 []).1 tab0 1:=⟨nv2,mv,Y2,back _ _ _ _ _ _ h7,h7.len,h7.fit⟩
 simp only [hjj,stdZ]
 refine hX _ _ ⟨rfl,h8.drop,?_⟩
 have:=g.did (.make x.1 x.2.1 x.2.2 []) (g.wf.make x.1 x.2.1 x.2.2 []) (.make x.1 x.2.1 x.2.2 []) ((g.hb.make (by omega) x.1 x.2.1 x.2.2 []).mono (by omega)) (by omega)
 rw [<- hj1]
 exact this
theorem S.f49 (hE:Fold E) (av:Value) (acts:List GActD) (hv:Rows H 14 av (acts.map GActD.cells)) (hll:acts.length<=9223372036854775807) (hok:∀ x∈acts,x.act.ok H) (hlt:lightL acts=true)
  (hQ:∀ w t T' M' nx' H',GwO [] H H' w t T' M' nx'->GI 65 T' M' nx' 80->Q (.tuple #[ptr w 0,ptr t 0]) H'):E.call (E.fid i.f49) [av] H Q :=
 grown_loop hE av fun w t H' h g=>S.f46 hE h g (by omega) av acts hv hll hok hlt fun T' M' nx' H' h' g'=>hQ w t T' M' nx' H' h' g'
end
end Go.AM
end
section
namespace Go.AM
set_option maxRecDepth 20000
theorem sub_iff {a b:BitVec 16}:a &&& ~~~b=0#16↔∀ i,a.getLsbD i=true->b.getLsbD i=true:=by
 constructor
 ·intro h i ha
  have:=congrArg (fun x=>BitVec.getLsbD x i) h
  simp only [BitVec.getLsbD_and,BitVec.getLsbD_not,BitVec.getLsbD_zero,ha,Bool.true_and,Bool.and_eq_false_imp] at this
  have hi:i<16:=BitVec.lt_of_getLsbD ha
  simpa [hi] using this
 ·intro h
  apply BitVec.eq_of_getLsbD_eq
  intro i hi
  simp only [BitVec.getLsbD_and,BitVec.getLsbD_not,BitVec.getLsbD_zero,hi,decide_true,Bool.true_and]
  cases ha:a.getLsbD i with
  | false=>rfl
  | true=>rw [h i ha]; rfl
theorem foldl_or_bit (f:PlaceD->BitVec 16) (i:Nat):∀ (l:List PlaceD) (r:BitVec 16),(l.foldl (fun r p=>r|||f p) r).getLsbD i=(r.getLsbD i||l.any fun p=>(f p).getLsbD i)
 | [],r=>by simp
 | p :: l,r=>by
  rw [List.foldl_cons,foldl_or_bit f i l]
  simp [Bool.or_assoc]
theorem granted_bit (d:SetD) (n:BitVec 16) (l:List PlaceD) (i:Nat):(d.granted n l).getLsbD i=((d.at_ n).getLsbD i||l.any fun p=>(d.at_ p.i).getLsbD i):=foldl_or_bit _ i l _
section
variable {X:List Res} {E:Sy} {H0 H H' H'':AH} {Q:Value->AH->Prop} {w t s:Nat} {T T':Tr} {M M':List MntD} {nx nx' k l:Int} {d:SetD}
theorem PlaceD.elem {H:AH} {v:Value} {l:List PlaceD} (h:Rows H 2 v (placeR l)) {i:Nat} (hi:i<l.length):∃ b o,ixSlc 2 v (vi i)=some (ptr b o)/\loadN 2 (ptr b o) H=some (l[i]).v/\(H.get b).cell o=some (vi (l[i]).m)/\(H.get b).cell (o+1)=some (u16 (l[i]).i)/\b<H.next:=by
 obtain ⟨b,o,f1,f2⟩:=h.ix (i:=i) (by rw [placeR_length]; exact hi)
 have hrow:(placeR l)[i]'(by rw [placeR_length]; exact hi)=(l[i]).cells:=by simp [placeR]
 rw [hrow] at f2
 refine ⟨b,o,f1,by rw [loadN_ptr,f2]; rfl,?_,?_,AH.lt_of_get (row_notdead f2)⟩
 ·have:=row_at f2 (j:=0) (by omega); simpa [PlaceD.cells] using this
 ·have:=row_at f2 (j:=1) (by omega); simpa [PlaceD.cells] using this
end
end Go.AM
end
section
namespace Go.AM
def placeF (T:Tr) (M:List MntD) (b:List UInt8×BitVec 16):BitVec 16:=(findW T M topP b.1 true).1.i
def badP (T:Tr) (M:List MntD) (b:List UInt8×BitVec 16):Prop:=(findW T M topP b.1 true).2≠0\/((T.node (placeF T M b)).kind≠2#8/\b.2 &&& ~~~1031#16≠0#16)
def hereP (n:BitVec 16) (above:List PlaceD) (m:BitVec 16):Bool:=decide (m=n)||above.any fun p=>decide (p.i=m)
def grantO (T:Tr) (M:List MntD) (n:BitVec 16) (above:List PlaceD) (bs:List (List UInt8×BitVec 16)):BitVec 16:=bs.foldl (fun r b=>if hereP n above (placeF T M b)=true then r|||b.2 else r) 0#16
theorem lookup_aset {K V:Type} [BEq K] [LawfulBEq K] [DecidableEq K] (k n:K) (v:V):∀ l:List (K×V),(aset k v l).lookup n=if n=k then some v else l.lookup n
 | []=>by
  simp only [aset,List.lookup]
  by_cases h:n=k
  ·simp [h]
  ·have:(n == k)=false:=by simpa using h
   simp [h,this]
 | p :: l=>by
  obtain ⟨a,b⟩:=p
  simp only [aset]
  by_cases e:a=k
  ·subst e
   simp only [if_true,List.lookup]
   by_cases h:n=a
   ·simp [h]
   ·have:(n == a)=false:=by simpa using h
    simp [h,this]
  ·simp only [e,if_false,List.lookup]
   by_cases h:n=a
   ·subst h
    simp [e]
   ·have h2:(n == a)=false:=by simpa using h
    simp only [h2]
    exact lookup_aset k n v l
theorem getR_aset (k n v:BitVec 16) (l:List (BitVec 16×BitVec 16)):getR n (aset k v l)=if n=k then v else getR n l:=by
 unfold getR
 rw [lookup_aset]
 split <;> rfl
section
variable {T:Tr} {M:List MntD}
theorem fits_dir {r:BitVec 16} (h:r&&&2047#16=r):fitsR true r=r:=h
theorem fits_file {r:BitVec 16}:fitsR false r=r↔r &&& ~~~1031#16=0#16:=by
 unfold fitsR
 simp only [Bool.false_eq_true,if_false]
 constructor
 ·intro h
  rw [<- h,BitVec.and_assoc]
  have:(1031#16 &&& ~~~1031#16)=0#16:=by decide
  rw [this]; simp
 ·intro h
  apply BitVec.eq_of_getLsbD_eq
  intro i hi
  rw [sub_iff] at h
  have:=h i
  rw [BitVec.getLsbD_and]
  cases hr:r.getLsbD i with
  | false=>rfl
  | true=>rw [this hr]; rfl
theorem ofStep_bad {l:List (BitVec 16×BitVec 16)} {b:List UInt8×BitVec 16} (hs:b.2&&&2047#16=b.2):(ofStep T M topP l b).2≠0↔badP T M b:=by
 unfold ofStep badP placeF
 by_cases h1:(findW T M topP b.1 true).2=0
 ·by_cases h2:(T.node (findW T M topP b.1 true).1.i).kind=2#8
  ·simp [h1,h2,fits_dir hs]
  ·have h3:=@fits_file b.2
   by_cases h4:fitsR false b.2=b.2
   ·have h5:=h3.1 h4
    simpa [h1,h2,h4] using h5
   ·have h5:¬ (b.2 &&& ~~~1031#16=0#16):=fun h=>h4 (h3.2 h)
    simpa [h1,h2,h4] using h5
 ·simp [h1]
theorem ofStep_good {l:List (BitVec 16×BitVec 16)} {b:List UInt8×BitVec 16} (h:(ofStep T M topP l b).2=0):(ofStep T M topP l b).1=addR (placeF T M b) b.2 l:=by
 unfold ofStep placeF at *
 split at h
 ·rename_i h1; exact (h1 h).elim
 ·rename_i h1
  rw [if_neg h1]
  split at h
  ·simp at h
  ·rename_i h2
   rw [if_neg h2]
theorem ofPaths_ok:∀ (bs:List (List UInt8×BitVec 16)) (_:∀ b∈bs,b.2&&&2047#16=b.2) (_:∀ b∈bs,¬ badP T M b) (l:List (BitVec 16×BitVec 16)),
  (ofPaths T M topP l bs).2=0/\∀ n i,(getR n (ofPaths T M topP l bs).1).getLsbD i=((getR n l).getLsbD i||bs.any fun b=>decide (placeF T M b=n)&&b.2.getLsbD i)
 | [],_,_,l=>⟨rfl,fun n i=>by simp [ofPaths]⟩
 | b :: bs,hs,hg,l=>by
  have h1:(ofStep T M topP l b).2=0:=Classical.not_not.1 fun h=>hg b (by simp) ((ofStep_bad (hs b (by simp))).1 h)
  have h2:=ofStep_good h1
  obtain ⟨q1,q2⟩:=ofPaths_ok bs (fun x hx=>hs x (by simp [hx])) (fun x hx=>hg x (by simp [hx])) (ofStep T M topP l b).1
  rw [ofPaths,if_neg (by simp [h1])]
  refine ⟨q1,fun n i =>?_⟩
  rw [q2 n i,h2]
  unfold addR
  rw [getR_aset,List.any_cons]
  by_cases hn:n=placeF T M b
  ·subst hn
   simp [Bool.or_assoc]
  ·have hn':¬ placeF T M b=n:=fun h=>hn h.symm
   simp [hn,hn']
theorem ofPaths_bad:∀ (bs:List (List UInt8×BitVec 16)) (_:∀ b∈bs,b.2&&&2047#16=b.2) (_:∃ b∈bs,badP T M b) (l:List (BitVec 16×BitVec 16)),(ofPaths T M topP l bs).2≠0
 | [],_,h,l=>by obtain ⟨b,hb,_⟩:=h; simp at hb
 | b :: bs,hs,⟨x,hx,hb⟩,l=>by
  rw [ofPaths]
  split
  ·rename_i h; exact h
  ·rename_i h
   refine ofPaths_bad bs (fun x hx=>hs x (by simp [hx])) ⟨x,?_,hb⟩ _
   rcases List.mem_cons.1 hx with rfl | hx
   ·exact (h ((ofStep_bad (hs x (by simp))).2 hb)).elim
   ·exact hx
theorem grantO_bit (n:BitVec 16) (above:List PlaceD) (i:Nat) (bs:List (List UInt8×BitVec 16)):(grantO T M n above bs).getLsbD i=bs.any fun b=>hereP n above (placeF T M b)&&b.2.getLsbD i:=by
 unfold grantO
 have:∀ (bs:List (List UInt8×BitVec 16)) (r:BitVec 16),(bs.foldl (fun r b=>if hereP n above (placeF T M b)=true then r|||b.2 else r) r).getLsbD i=(r.getLsbD i||bs.any fun b=>hereP n above (placeF T M b)&&b.2.getLsbD i):=by
  intro bs
  induction bs with
  | nil=>intro r; simp
  | cons b bs ih =>
   intro r
   rw [List.foldl_cons,ih,List.any_cons]
   cases hereP n above (placeF T M b) <;> simp [Bool.or_assoc]
 rw [this]; simp
theorem granted_eq (x:PolX) (hs:∀ b∈x.paths,b.2&&&2047#16=b.2) (hg:∀ b∈x.paths,¬ badP T M b) (n:BitVec 16) (above:List PlaceD):(x.set T M topP).1.granted n above=grantO T M n above x.paths:=by
 obtain ⟨_,q⟩:=ofPaths_ok x.paths hs hg []
 have at_bit:∀ m i,((x.set T M topP).1.at_ m).getLsbD i=x.paths.any fun b=>decide (placeF T M b=m)&&b.2.getLsbD i:=fun m i=>by
  have:=q m i
  simp only [getR,List.lookup,Option.getD_none,BitVec.getLsbD_zero,Bool.false_or] at this
  exact this
 apply BitVec.eq_of_getLsbD_eq
 intro i _
 rw [granted_bit,grantO_bit,at_bit,Bool.eq_iff_iff,Bool.or_eq_true]
 simp only [List.any_eq_true,at_bit,Bool.and_eq_true,decide_eq_true_eq,hereP,Bool.or_eq_true]
 constructor
 ·rintro (⟨b,hb,h1,h2⟩ | ⟨p,hp,b,hb,h1,h2⟩)
  ·exact ⟨b,hb,.inl h1,h2⟩
  ·exact ⟨b,hb,.inr ⟨p,hp,h1.symm⟩,h2⟩
 ·rintro ⟨b,hb,h1 | ⟨p,hp,h1⟩,h2⟩
  ·exact .inl ⟨b,hb,h1,h2⟩
  ·exact .inr ⟨p,hp,b,hb,h1.symm,h2⟩
theorem set_code (x:PolX) (hs:∀ b∈x.paths,b.2&&&2047#16=b.2):(x.set T M topP).2=0↔∀ b∈x.paths,¬ badP T M b:=by
 constructor
 ·intro h b hb hbad
  exact ofPaths_bad x.paths hs ⟨b,hb,hbad⟩ [] h
 ·intro h; exact (ofPaths_ok x.paths hs h []).1
theorem Small.pol_fit (s:Small):∀ b∈s.pol.paths,b.2&&&2047#16=b.2:=by
 have key:∀ n,∀ b∈s.pathsTo n,b.2&&&2047#16=b.2:=by
  intro n
  induction n with
  | zero=>intro b hb; simp [Small.pathsTo] at hb
  | succ n ih =>
   intro b hb
   rw [pathsTo_succ] at hb
   unfold stepPath at hb
   simp only at hb
   split at hb
   ·rcases List.mem_append.1 hb with hb | hb
    ·exact ih b hb
    ·simp only [List.mem_singleton] at hb
     subst hb
     unfold Small.right
     have idem:∀ r:BitVec 16,r&&&2047#16&&&2047#16=r&&&2047#16:=fun r=>by rw [BitVec.and_assoc,BitVec.and_self]
     split
     ·exact idem _
     ·exact idem _
   ·exact ih b hb
 exact key _
end
end Go.AM
end
section
namespace Go.AM
set_option maxRecDepth 20000
def RefW (H:AH) (t:Nat) (T:Tr) (M:List MntD):Prop:=∃ nv mv nx Y k,RefT H t nv mv nx (mntI M) Y T/\PInv M nx k
section
variable {X:List Res} {E:Sy} {H0 H H' H'':AH} {Q:Value->AH->Prop} {w t s:Nat} {T T':Tr} {M M':List MntD} {nx nx' k l:Int}
theorem RefW.mono (h:RefW H t T M) (e:Ext H H'):RefW H' t T M:=by obtain ⟨nv,mv,nx,Y,k,h,p⟩:=h; exact ⟨nv,mv,nx,Y,k,h.mono e,p⟩
theorem GwO.ref (h:GwO X H0 H w t T M nx) (g:GI k T M nx l):RefW H t T M:=by
 obtain ⟨nv,mv,Y,h,a,b⟩:=h
 obtain ⟨o,_⟩:=WkO.openX (k:=0) h (r:=refR t nv mv nx (mntI M) Y T) rfl
 exact ⟨nv,mv,nx,Y,k,⟨o,a,b⟩,g.pin⟩
theorem RefW.at_ (h:RefW H t T M):∃ u,RefAt H t u (M.map MntD.toI):=by
 obtain ⟨nv,mv,nx,Y,k,h,p⟩:=h
 have:=p.len
 exact ⟨_,refR_at (M:=M.map MntD.toI) h.ow (by rw [List.length_map]; omega)⟩
theorem RefW.pinv (h:RefW H t T M):∃ nx k,PInv M nx k:=by obtain ⟨nv,mv,nx,Y,k,h,p⟩:=h; exact ⟨nx,k,p⟩
theorem RefW.node (hE:Fold E) (h:RefW H t T M) (n:BitVec 16) (hQ:∀ b o y H',Ext H H'->NdAt H' b o (T.node n) y->Q (ptr b o) H'):E.call (E.fid i.f72) [ptr t 0,vi (n.toNat:Int)] H Q:=by
 obtain ⟨nv,mv,nx,Y,k,h,p⟩:=h
 exact S.f72 hE h n fun b o y H' e hn _=>hQ b o y H' e hn
theorem findT_get (M:List MntD) (m:Int):decide (0<=findT M m)=(getT M m).isSome:=by
 unfold findT getT
 rcases ixOf_cases (fun x:MntD=>decide (x.id=m)) M with ⟨h1,h2⟩ | ⟨j,hj,h1,h2,_,_⟩
 ·rw [h1,h2]; rfl
 ·rw [h1,h2]; simp
theorem S.rDir (hE:Fold E) (h:RefW H t T M) (p:PlaceD) (hQ:∀ H',Ext H H'->Q (vb (dirP T M p)) H'):E.call (E.fid i.f63) [ptr t 0,p.toI.v] H Q:=by
 apply hE.f63
 have x1:Ext H (H.new (.cells p.toI.cells none)):=(Ext.refl H).new _
 have hb:=AH.get_new_self H (.cells p.toI.cells none)
 have c0:p.toI.cells[0]? = some (vi p.m):=rfl
 have c1:p.toI.cells[1]? = some (vi (p.i.toNat:Int)):=rfl
 simp only [F.f63,hb,c0,stdZ]
 have h1:=h.mono x1
 generalize H.new (.cells p.toI.cells none)=H1 at *
 obtain ⟨u,hu⟩:=h1.at_
 refine S.f80 hE t u _ hu p.m ?_
 rw [ix_toI]
 have hf:=findT_get M p.m
 unfold dirP at hQ
 cases hs:(getT M p.m).isSome with
 | false =>
  rw [hs] at hf hQ
  simp only [i64_geq,ge_iff_le,hf,stdZ]
  exact hQ _ x1
 | true =>
  rw [hs] at hf hQ
  simp only [i64_geq,ge_iff_le,hf,hb,c1,stdZ]
  refine h1.node hE p.i fun b o y H2 e2 hn =>?_
  obtain ⟨d0,_⟩:=hn.cell
  have k2:=kind2 (T.node p.i).kind
  simp only [d0,i64_eql,k2,stdZ]
  rw [Bool.true_and] at hQ
  exact hQ _ (x1.trans e2)
theorem S.rTop (hE:Fold E) (hQ:∀ H',Ext H H'->Q topP.toI.v H'):E.call (E.fid i.f59) [] H Q:=by
 apply hE.f59
 have hbv:buildV [(0,1),(1,1)] #[(.int .i64 0),(.int .i64 0)] [(0,(.int .i64 0)),(1,(.int .i64 1))]=some topP.toI.v:=rfl
 have hst:storeN 2 (ptr H.next 0) topP.toI.v (H.new (.cells [(.int .i64 0),(.int .i64 0)] none))=some (H.new (.cells topP.toI.cells none)):=two_store rfl rfl rfl
 have hlo:loadN 2 (ptr H.next 0) (H.new (.cells topP.toI.cells none))=some topP.toI.v:=by rw [loadN_ptr,AH.get_new_self]; rfl
 simp only [F.f59,hbv,allocW_eq,hst,hlo,stdZ]
 exact hQ _ ((Ext.refl H).new _)
theorem S.rSeen (hE:Fold E) (h:RefW H t T M) (p:PlaceD) (hQ:∀ H',Ext H H'->Q (seen M p).toI.v H'):E.call (E.fid i.f73) [ptr t 0,p.toI.v] H Q:=by
 obtain ⟨u,hu⟩:=h.at_
 obtain ⟨nx,k,hp⟩:=h.pinv
 refine S.f73 hE t u _ hu p.toI fun H' e =>?_
 rw [seen20 hp]
 exact hQ _ e
theorem S.rDown (hE:Fold E) (h:RefW H t T M) (p:PlaceD) (hQ:∀ H',Ext H H'->Q (.tuple #[((downT M p).map PlaceD.toI |>.getD PlaceI.zero).v,vb (downT M p).isSome]) H'):E.call (E.fid i.f64) [ptr t 0,p.toI.v] H Q:=by
 obtain ⟨u,hu⟩:=h.at_
 refine S.f64 hE t u _ hu p.toI fun H' e =>?_
 rw [down_toI,Option.isSome_map]
 exact hQ _ e
theorem downsN_20 (ho:Older M) (hl:M.length<=16) (p:PlaceD):downsN M 20 p=downs M p:=by
 have:∀ d,downsN M (M.length+d) p=downsN M M.length p:=by
  intro d
  induction d with
  | zero=>rfl
  | succ d ih=>rw [<- ih,<- Nat.add_assoc,<- downsN_stable ho (M.length+d) p (by have:=below_le M p; omega)]
 have h:=this (20 - M.length)
 rw [show M.length+(20 - M.length)=20 by omega] at h
 exact h
theorem rup_j1 (hE:Fold E) (h:RefW H t T M) (r:PlaceD) {b c:Nat} (hb:H.get b = .cells r.toI.cells none) (hc:H.get c = .cells [vi 0,vi 0] none) (hbc:b≠c) (hcl:H0.next<=c) (e0:Ext H0 H)
  (hQ:∀ H',Ext H0 H'->Q (if (T.node r.i).kind=0#8 then topP else seen M ⟨r.m,(T.node r.i).parent⟩).toI.v H'):F.f74_j1 E Q (ptr t 0) (ptr b 0) (ptr c 0) H:=by
 have c0:r.toI.cells[0]? = some (vi r.m):=rfl
 have c1:r.toI.cells[1]? = some (vi (r.i.toNat:Int)):=rfl
 have st:∀ (z:PlaceI) (H':AH),H'.get c = .cells [vi 0,vi 0] none->storeN 2 (ptr c 0) z.v H'=some (H'.put c (.cells z.cells none))/\loadN 2 (ptr c 0) (H'.put c (.cells z.cells none))=some z.v:=by
  intro z H' hh
  constructor
  ·rw [storeN_ptr,hh]; rfl
  ·rw [loadN_ptr,AH.get_put_self _ _ (AH.lt_cells hh)]; rfl
 simp only [F.f74_j1,hb,c1,stdZ]
 refine h.node hE r.i fun bb o y H1 e1 hn =>?_
 obtain ⟨d0,d1,d2,d3,_⟩:=hn.cell
 have k0:=kind0 (T.node r.i).kind
 by_cases hz:(T.node r.i).kind=0#8
 ·rw [if_pos hz] at hQ
  simp only [d0,i64_eql,k0,hz,decide_true,stdZ]
  refine S.rTop hE fun H2 e2 =>?_
  obtain ⟨s1,s2⟩:=st topP.toI H2 ((e1.trans e2).cells hc)
  simp only [s1,s2,stdZ]
  exact hQ _ ((e0.trans (e1.trans e2)).put hcl _)
 ·rw [if_neg hz] at hQ
  simp only [d0,i64_eql,k0,hz,decide_false,e1.cells hb,c0,c1,stdZ]
  refine (h.mono e1).node hE r.i fun bb2 o2 y2 H2 e2 hn2 =>?_
  obtain ⟨_,_,_,f3,_⟩:=hn2.cell
  have e12:=e1.trans e2
  refine ⟨by rw [load1_ptr,load1_ptr,e12.cells hb,e1.cells hb],?_⟩
  have hbv:buildV [(0,1),(1,1)] #[(.int .i64 0),(.int .i64 0)] [(0,vi r.m),(1,vi ((T.node r.i).parent.toNat:Int))]=some (PlaceD.toI ⟨r.m,(T.node r.i).parent⟩).v:=rfl
  simp only [f3,hbv,stdZ]
  refine S.rSeen hE (h.mono e12) ⟨r.m,(T.node r.i).parent⟩ fun H3 e3 =>?_
  obtain ⟨s1,s2⟩:=st (seen M ⟨r.m,(T.node r.i).parent⟩).toI H3 ((e12.trans e3).cells hc)
  simp only [s1,s2,stdZ]
  exact hQ _ ((e0.trans (e12.trans e3)).put hcl _)
theorem S.rUp (hE:Fold E) (h:RefW H t T M) (p:PlaceD) (hQ:∀ H',Ext H H'->Q (upP T M p).toI.v H'):E.call (E.fid i.f74) [ptr t 0,p.toI.v] H Q:=by
 apply hE.f74
 have x2:Ext H ((H.new (.cells p.toI.cells none)).new (.cells [vi 0,vi 0] none)):=((Ext.refl H).new _).new _
 have hb1:((H.new (.cells p.toI.cells none)).new (.cells [vi 0,vi 0] none)).get H.next = .cells p.toI.cells none:=by simp [AH.get_new]
 have hb2:((H.new (.cells p.toI.cells none)).new (.cells [vi 0,vi 0] none)).get (H.next+1) = .cells [vi 0,vi 0] none:=by simp [AH.get_new]
 have z0:(.int .i64 0:Value)=vi 0:=rfl
 simp only [F.f74,allocW_eq,z0,stdZ]
 have h2:=h.mono x2
 generalize (H.new (.cells p.toI.cells none)).new (.cells [vi 0,vi 0] none)=H2 at *
 have hlo:loadN 2 (ptr H.next 0) H2=some p.toI.v:=by rw [loadN_ptr,hb1]; rfl
 simp only [hlo,stdZ]
 refine S.rDir hE h2 p fun H3 e3 =>?_
 have h3:=h2.mono e3
 have st:∀ (z:PlaceI) (H':AH),H'.get (H.next+1) = .cells [vi 0,vi 0] none->storeN 2 (ptr (H.next+1) 0) z.v H'=some (H'.put (H.next+1) (.cells z.cells none))/\loadN 2 (ptr (H.next+1) 0) (H'.put (H.next+1) (.cells z.cells none))=some z.v:=by
  intro z H' hh
  constructor
  ·rw [storeN_ptr,hh]; rfl
  ·rw [loadN_ptr,AH.get_put_self _ _ (AH.lt_cells hh)]; rfl
 unfold upP at hQ
 cases hd:dirP T M p with
 | false =>
  rw [hd] at hQ
  simp only [Bool.false_eq_true,if_false] at hQ
  simp only [stdZ]
  refine S.rTop hE fun H4 e4 =>?_
  obtain ⟨s1,s2⟩:=st topP.toI H4 ((e3.trans e4).cells hb2)
  simp only [s1,s2,stdZ]
  exact hQ _ ((x2.trans (e3.trans e4)).put (by omega) _)
 | true =>
  rw [hd] at hQ
  simp only [if_true] at hQ
  obtain ⟨nx,k,hp⟩:=h.pinv
  have hdw:=downsN_20 hp.older hp.len p
  simp only [stdZ]
  have i0:(.int .i64 0:Value)=vi ((0:Nat):Int):=rfl
  rw [i0]
  refine LoopL.count 20 (fun k ls H'=>∃ r:PlaceD,ls=[ptr t 0,ptr H.next 0,ptr (H.next+1) 0,vi k]/\Ext H H'/\downsN M (20 - k) r=downs M p/\H'.get H.next = .cells r.toI.cells none/\H'.get (H.next+1) = .cells [vi 0,vi 0] none) ?_ ⟨p,rfl,x2.trans e3,hdw,e3.cells hb1,e3.cells hb2⟩
  rintro k _ H4 X hk hX ⟨r,rfl,e4,hs,m1,m2⟩
  have h4:=h.mono e4
  rcases Nat.lt_or_ge k 20 with hk20 | hk20
  rotate_left
  ·have:k=20:=by omega
   subst this
   have hr:r=downs M p:=hs
   have hlt:¬ (((20:Nat):Int)<20):=by omega
   simp only [F.f74_l1,i64_lss,hlt,decide_false,stdZ]
   rw [<- hr] at hQ
   exact rup_j1 (H0:=H) hE h4 r m1 m2 (by omega) (by omega) e4 hQ
  have hX:=hX hk20
  have hlt:((k:Nat):Int)<20:=by omega
  have hkk:=i64_inc (i:=k) (by omega)
  have hlo4:loadN 2 (ptr H.next 0) H4=some r.toI.v:=by rw [loadN_ptr,m1]; rfl
  simp only [F.f74_l1,i64_lss,hlt,decide_true,hlo4,stdZ]
  refine S.rDown hE h4 r fun H5 e5 =>?_
  have e45:=e4.trans e5
  have hst5:∀ z:PlaceI,storeN 2 (ptr H5.next 0) z.v (H5.new (.cells [(.int .i64 0),(.int .i64 0)] none))=some (H5.new (.cells z.cells none)):=fun z=>two_store rfl rfl rfl
  have x6:∀ z:PlaceI,Ext H5 (H5.new (.cells z.cells none)):=fun z=>(Ext.refl _).new _
  have hstep:downsN M (20 - k) r=match downT M r with | none=>r | some q=>downsN M (20 - (k+1)) q:=by
   rw [show 20 - k=(20 - (k+1))+1 by omega]; rfl
  cases hdn:downT M r with
  | none =>
   rw [hdn] at hstep
   simp only [Option.map_none,Option.getD_none,Option.isSome_none,allocW_eq,hst5,stdZ]
   rw [hstep] at hs
   rw [<- hs] at hQ
   exact rup_j1 (H0:=H) hE (h4.mono (e5.trans (x6 _))) r ((e5.trans (x6 _)).cells m1) ((e5.trans (x6 _)).cells m2) (by omega) (by omega) (e45.trans (x6 _)) hQ
  | some q =>
   rw [hdn] at hstep
   have hlo6:loadN 2 (ptr H5.next 0) (H5.new (.cells q.toI.cells none))=some q.toI.v:=by rw [loadN_ptr,AH.get_new_self]; rfl
   have m16:=(e5.trans (x6 q.toI)).cells m1
   have m26:=(e5.trans (x6 q.toI)).cells m2
   have hst7:storeN 2 (ptr H.next 0) q.toI.v (H5.new (.cells q.toI.cells none))=some ((H5.new (.cells q.toI.cells none)).put H.next (.cells q.toI.cells none)):=by rw [storeN_ptr,m16]; rfl
   simp only [Option.map_some,Option.getD_some,Option.isSome_some,allocW_eq,hst5,hlo6,hst7,hkk,stdZ]
   refine hX _ _ ⟨q,rfl,(e45.trans (x6 _)).put (Nat.le_refl _) _,by rw [<- hs]; exact hstep.symm,AH.get_put_self _ _ (AH.lt_cells m16),?_⟩
   rw [AH.get_put_ne _ _ (by omega)]
   exact m26
theorem partsL_cons (c:UInt8) (s cur:List UInt8):(splitF cur (c :: s)).filter okPart=if c=47 then (if okPart cur then [cur] else [])++(splitF [] s).filter okPart else (splitF (cur++[c]) s).filter okPart:=by
 rw [splitF]
 split
 ·rw [List.filter_cons]; split <;> simp
 ·rfl
theorem S.rParts (hE:Fold E) (s:List UInt8) (hs:s.length<2 ^ 40) (hQ:∀ v H',Ext H H'->Grow zH H' 1 v (strR (partsL s))->FreshV H.next v->Q v H'):E.call (E.fid i.f58) [str s] H Q:=by
 apply hE.f58
 simp only [F.f58]
 have i0:(.int .i64 0:Value)=vi ((0:Nat):Int):=rfl
 have s0:(.string ⟨#[]⟩:Value)=str []:=rfl
 have s46:(.string ⟨#[46]⟩:Value)=str [46]:=rfl
 rw [i0,s0]
 refine LoopL.count (s.length+1) (fun j ls H'=>∃ u cur out,ls=[str s,u,str cur,vi j]/\Ext H H'/\FreshV H.next u/\Grow zH H' 1 u (strR out)/\out.length<=j/\cur.length<=j/\(if j<=s.length then out++(splitF cur (s.drop j)).filter okPart=partsL s else out=partsL s)) ?_
  ⟨nilS,[],[],rfl,Ext.refl _,by intro b hb; simp [blk] at hb,Grow.nil _ _ _,by simp,by simp,by simp [partsL]⟩
 rintro j _ H1 X hj hX ⟨u,cur,out,rfl,e1,f1,g1,hol,hcl,hinv⟩
 have hls:=lenStr_s s
 rcases Nat.lt_or_ge j (s.length+1) with hjl | hjl
 rotate_left
 ·have hle:¬ ((j:Int)<=s.length):=by omega
  rw [if_neg (by omega)] at hinv
  subst hinv
  simp only [F.f58_l1,hls,i64_leq,hle,decide_false,stdZ]
  exact hQ u H1 e1 g1 f1
 have hX:=hX hjl
 rw [if_pos (by omega)] at hinv
 have hle:((j:Int)<=s.length):=by omega
 have hjj:=i64_inc (i:=j) (by omega)
 have fin:∀ H2,Ext H1 H2->Grow zH H2 1 u (strR out)->(if j<s.length then (out++if okPart cur then [cur] else [])++(splitF [] (s.drop (j+1))).filter okPart=partsL s else (out++if okPart cur then [cur] else [])=partsL s) ->
   opt (binStr .neq (str cur) (.string ⟨#[]⟩)) fun v15=>gd v15 true (fun k=>k (str cur) H2) H2 fun v16 H6=>gd v15 true (fun k=>opt (binStr .neq v16 (.string ⟨#[46]⟩)) fun v=>k v H6) H6 fun v17 H7=>opt (pick v15 v17 (.bool false)) fun v18 =>
   ifB v18 (mk (buildS 1 1 #[(.string ⟨#[]⟩)] [(0,str cur)]) H7 fun v19 H8=>opt2 (app 1 16 u v19 H8) fun v20 H9=>opt (binInt .add (vi j) (.int .i64 1)) fun v21=>X [str s,v20,(.string ⟨#[]⟩),v21] H9) (
   opt (binInt .add (vi j) (.int .i64 1)) fun v22=>X [str s,u,(.string ⟨#[]⟩),v22] H7):=by
  intro H2 e2 g2 hfin
  have done:∀ (u':Value) (H3:AH) (out':List NameL),out'=(out++if okPart cur then [cur] else [])->Ext H H3->FreshV H.next u'->Grow zH H3 1 u' (strR out')->X [str s,u',str [],vi ((j+1:Nat):Int)] H3:=by
   rintro u' H3 out' rfl e3 f3 g3
   refine hX _ _ ⟨u',[],_,rfl,e3,f3,g3,?_,by simp,?_⟩
   ·rw [List.length_append]; split <;> simp <;> omega
   ·by_cases hjs:j<s.length
    ·rw [if_pos hjs] at hfin; rw [if_pos (by omega)]; exact hfin
    ·rw [if_neg hjs] at hfin; rw [if_neg (by omega)]; exact hfin
  by_cases h1:cur=[]
  ·have ho:okPart cur=false:=by simp [okPart,h1]
   have:=done u H2 out (by simp [ho]) (e1.trans e2) f1 g2
   simp only [s0,s46,binStr_neq,h1,ne_eq,not_true,decide_false,hjj,stdZ]
   exact this
  by_cases h2:cur=[46]
  ·have ho:okPart cur=false:=by simp [okPart,h2]
   have:=done u H2 out (by simp [ho]) (e1.trans e2) f1 g2
   have h3:¬ ([46]:List UInt8)=[]:=by simp
   simp only [s0,s46,binStr_neq,h2,h3,ne_eq,not_true,not_false_eq_true,decide_true,decide_false,hjj,stdZ]
   exact this
  ·have ho:okPart cur=true:=by simp [okPart,h1,h2]
   have hb:=buildS_one 1 [str []] [str cur] rfl rfl
   have hb:buildS 1 1 #[str []] [(0,str cur)]=some (.cells [str cur] none,mkSlc 1 1):=hb
   obtain ⟨u',H3,a1,a2,a3⟩:=g2.app1 (bytes:=16) (Nat.zero_le _) [str cur] rfl rfl (by decide) (by decide) (by rw [strR_length]; omega)
   obtain ⟨e3,f3⟩:=grew_ext a3 (e1.trans e2) f1
   have:=done u' H3 (out++[cur]) (by simp [ho]) e3 f3 (by simpa [strR] using a2)
   simp only [s0,s46,binStr_neq,h1,h2,ne_eq,not_false_eq_true,decide_true,hb,a1,hjj,stdZ]
   exact this
 rcases Nat.lt_or_ge j s.length with hjs | hjs
 rotate_left
 ·have hlt:¬ ((j:Int)<s.length):=by omega
  have hj2:j=s.length:=by omega
  have:=fin H1 (Ext.refl _) g1 (by
   rw [if_neg (by omega)]
   rw [hj2,List.drop_length] at hinv
   simp only [splitF,List.filter_cons,List.filter_nil] at hinv
   exact hinv)
  simp only [F.f58_l1,hls,i64_leq,i64_lss,hle,hlt,decide_true,decide_false,stdZ] at this ⊢
  exact this
 have hlt:(j:Int)<s.length:=by omega
 have hix:=ixStr_s s j hjs
 have hdr:s.drop j=s[j] :: s.drop (j+1):=List.drop_eq_getElem_cons hjs
 rw [hdr,partsL_cons] at hinv
 generalize s[j]=c at *
 have hne:binInt .neq (u8 c.toBitVec) (.int .u8 47)=some (vb (decide (c.toBitVec≠47#8))):=u8_neq _ 47#8
 have hc47:(c.toBitVec≠47#8)↔c≠47:=by
  constructor
  ·rintro h rfl; exact h rfl
  ·intro h h'; exact h (UInt8.toBitVec_inj.1 h')
 by_cases h47:c=47
 ·subst h47
  rw [if_pos rfl,<- List.append_assoc] at hinv
  have:=fin H1 (Ext.refl _) g1 (by rw [if_pos hjs]; exact hinv)
  have hd:decide ((47:UInt8).toBitVec≠47#8)=false:=by decide
  rw [hd] at hne
  simp only [F.f58_l1,hls,i64_leq,i64_lss,hle,hlt,decide_true,hix,hne,stdZ] at this ⊢
  exact this
 ·rw [if_neg h47] at hinv
  have hd:decide (c.toBitVec≠47#8)=true:=decide_eq_true (hc47.2 h47)
  rw [hd] at hne
  have hb:buildS 1 1 #[(.int .u8 0)] [(0,u8 c.toBitVec)]=some (.cells [u8 c.toBitVec] none,mkSlc 1 1):=buildS_one 1 [u8 0#8] [u8 c.toBitVec] rfl rfl
  have x2:Ext H1 (H1.new (.cells [u8 c.toBitVec] none)):=(Ext.refl _).new _
  have hv:Vals (H1.new (.cells [u8 c.toBitVec] none)) (slc H1.next 0 1 1) ([c.toBitVec].map u8):=by
   have:Rows (H1.new (.cells [u8 c.toBitVec] none)) 1 (slc H1.next 0 1 1) [[u8 c.toBitVec]]:=Rows.made (f:=none) (by rw [AH.get_new_self]; rfl) (.inl rfl) rfl (by simp)
   exact this
  have hso:=strOf_vals hv
  have hcb:[c.toBitVec].map UInt8.ofBitVec=[c]:=rfl
  rw [hcb] at hso
  have hadd:=binStr_add cur [c] (by simp; omega)
  simp only [F.f58_l1,hls,i64_leq,i64_lss,hle,hlt,decide_true,hix,hne,hb,hso,hadd,hjj,stdZ]
  refine hX _ _ ⟨u,cur++[c],out,rfl,e1.trans x2,f1,g1.ext x2,by omega,by simp; omega,?_⟩
  rw [if_pos (by omega)]
  exact hinv
end
end Go.AM
end
section
namespace Go.AM
set_option maxRecDepth 20000
def rwC (a b:PlaceI) (lv:Value) (n:Int):List Value:=[vi a.mount,vi a.inode,vi b.mount,vi b.inode,lv,vi n]
abbrev rwV (a b:PlaceI) (lv:Value) (n:Int):Value := .agg (rwC a b lv n).toArray
structure WB (H0 H:AH) (b c:Nat) (p q:PlaceI) (lv:Value) (n:Int):Prop where
 ext:Ext H0 H
 hb:H.get b = .cells (rwC p q lv n) none
 hc:∃ cs,H.get c = .cells cs none/\cs.length=6
 nb:H0.next<=b
 nc:H0.next<=c
 ne:b≠c
 pl:plain1 lv=true
section
variable {X:List Res} {E:Sy} {H0 H H' H'':AH} {Q:Value->AH->Prop} {w t s:Nat} {T T':Tr} {M M':List MntD} {nx nx' k l:Int} {b c:Nat} {p q:PlaceI} {lv:Value} {n:Int}
theorem WB.mono (h:WB H0 H b c p q lv n) (e:Ext H H'):WB H0 H' b c p q lv n:=by
 obtain ⟨cs,h1,h2⟩:=h.hc
 exact ⟨h.ext.trans e,e.cells h.hb,⟨cs,e.cells h1,h2⟩,h.nb,h.nc,h.ne,h.pl⟩
theorem WB.put (h:WB H0 H b c p q lv n) (p' q':PlaceI) {lv':Value} (hl:plain1 lv'=true) (n':Int):WB H0 (H.put b (.cells (rwC p' q' lv' n') none)) b c p' q' lv' n':=by
 obtain ⟨cs,h1,h2⟩:=h.hc
 refine ⟨h.ext.put h.nb _,AH.get_put_self _ _ (AH.lt_cells h.hb),⟨cs,?_,h2⟩,h.nb,h.nc,h.ne,hl⟩
 rw [AH.get_put_ne _ _ h.ne.symm]; exact h1
theorem WB.ld (h:WB H0 H b c p q lv n):loadN 6 (ptr b 0) H=some (rwV p q lv n):=by rw [loadN_ptr,h.hb]; rfl
theorem WB.ld0 (h:WB H0 H b c p q lv n):loadN 2 (ptr b 0) H=some p.v:=by rw [loadN_ptr,h.hb]; rfl
theorem WB.at1 (h:WB H0 H b c p q lv n):(H.get b).cell 1=some (vi p.inode):=by rw [h.hb]; rfl
theorem WB.at0 (h:WB H0 H b c p q lv n):(H.get b).cell 0=some (vi p.mount):=by rw [h.hb]; rfl
theorem WB.at4 (h:WB H0 H b c p q lv n):(H.get b).cell 4=some lv:=by rw [h.hb]; rfl
theorem WB.at5 (h:WB H0 H b c p q lv n):(H.get b).cell 5=some (vi n):=by rw [h.hb]; rfl
theorem WB.st0 (h:WB H0 H b c p q lv n) (p':PlaceI):storeN 2 (ptr b 0) p'.v H=some (H.put b (.cells (rwC p' q lv n) none)):=by rw [storeN_ptr,h.hb]; rfl
theorem WB.st2 (h:WB H0 H b c p q lv n) (q':PlaceI):storeN 2 (ptr b 2) q'.v H=some (H.put b (.cells (rwC p q' lv n) none)):=by rw [storeN_ptr,h.hb]; rfl
theorem WB.st4 (h:WB H0 H b c p q lv n) {lv':Value} (hl:plain1 lv'=true):store1 (ptr b 4) lv' H=some (H.put b (.cells (rwC p q lv' n) none)):=by rw [store1_ptr,if_pos hl,h.hb]; rfl
theorem WB.st5 (h:WB H0 H b c p q lv n) (n':Int):store1 (ptr b 5) (vi n') H=some (H.put b (.cells (rwC p q lv n') none)):=by rw [store1_ptr,if_pos (show plain1 (vi n')=true from rfl),h.hb]; rfl
theorem WB.fin (h:WB H0 H b c p q lv n) (e:Value) (hQ:∀ H',Ext H0 H'->(∀ x,x≠c->H'.get x=H.get x)->Q (.tuple #[rwV p q lv n,e]) H') :
  opt (loadN 6 (ptr b 0) H) fun v=>opt (storeN 6 (ptr c 0) v H) fun H'=>opt (loadN 6 (ptr c 0) H') fun v'=>Q (.tuple #[v',e]) H':=by
 obtain ⟨cs,h1,h2⟩:=h.hc
 have hs:storeN 6 (ptr c 0) (rwV p q lv n) H=some (H.put c (.cells (rwC p q lv n) none)):=by
  rw [storeN_ptr,h1]
  have hl:(rwC p q lv n).length=6:=rfl
  have hp:(rwC p q lv n).all plain1=true:=by simp only [rwC,List.all_cons,h.pl,List.all_nil]; rfl
  have hsp:AM.splice cs 0 (rwC p q lv n)=rwC p q lv n:=by simp [splice,hl,h2]
  simp only [List.size_toArray,List.toList_toArray,hl,hp,h2,Nat.zero_add,Nat.le_refl,and_self,if_true,hsp]
 have hl2:loadN 6 (ptr c 0) (H.put c (.cells (rwC p q lv n) none))=some (rwV p q lv n):=by rw [loadN_ptr,AH.get_put_self _ _ (AH.lt_cells h1)]; rfl
 simp only [h.ld,hs,hl2,stdZ]
 exact hQ _ (h.ext.put h.nc _) fun x hx=>AH.get_put_ne _ _ hx
theorem rstep_j1 (hE:Fold E) (h:WB H0 H b c p q lv n) {left:List NameL} (hl:Rows H0 1 lv (strR left)) (hll:left.length<2 ^ 38) {bb o:Nat} {x:Nd} (d4:(H.get bb).cell (o+4)=some (str x.text)) (htx:x.text.length<=120)
  (hQ:∀ lv' H',Ext H0 H'->Rows H' 1 lv' (strR (partsL x.text++left))->Q (.tuple #[rwV p q lv' n,vi 0]) H'):F.f82_j1 E Q (ptr b 0) (ptr c 0) (ptr bb o) H:=by
 simp only [F.f82_j1,d4,h.at4,stdZ]
 refine S.rParts hE x.text (by omega) fun v H1 e1 g1 f1 =>?_
 have h1:=h.mono e1
 refine ⟨by rw [load1_ptr,load1_ptr,h1.at4,h.at4],?_⟩
 have hpl:=partsL_le x.text
 obtain ⟨v',H2,a1,a2,a3⟩:=g1.app (bytes:=16) (Nat.zero_le _) (hl.mono h1.ext) (by intro r hr; obtain ⟨s,_,rfl⟩:=List.mem_map.1 hr; rfl) (by decide) (by decide) (by rw [strR_length,strR_length]; omega) (by rw [strR_length,strR_length]; omega)
 have f1':FreshV H0.next v:=fun b hb=>Nat.le_trans h.ext.1 (f1 b hb)
 obtain ⟨e2,f2⟩:=grew_ext a3 h1.ext f1'
 have e2':Ext H1 H2\/True := .inr trivial
 obtain ⟨e12,_⟩:=grew_ext (H0:=H) a3 e1 f1
 have h2:=h.mono e12
 have hs:=h2.st4 a2.plain
 have h3:=h2.put p q a2.plain n
 have hrow:strR (partsL x.text)++strR left=strR (partsL x.text++left):=by simp [strR]
 rw [hrow] at a2
 have hfl:∀ bl,blk v'=some bl->bl≠b/\bl≠c:=by
  intro bl hbl
  have hge:H.next<=bl:=by
   rcases a3.2 bl hbl with hx | hx
   ·exact f1 bl hx
   ·exact Nat.le_trans e1.1 hx
  obtain ⟨cs,q1,_⟩:=h.hc
  have:=AH.lt_cells h.hb
  have:=AH.lt_cells q1
  omega
 simp only [a1,hs,stdZ]
 refine h3.fin (vi 0) fun H4 e4 hg=>hQ v' H4 e4 ?_
 refine Grow.toRows (Z:=zH) (a2.keep fun bl hbl _ =>?_)
 obtain ⟨n1,n2⟩:=hfl bl hbl
 rw [hg bl n2,AH.get_put_ne _ _ n1]
theorem S.rStep (hE:Fold E) (h:RefW H t T M) (wf:T.WF) (kd:T.KD) (a:PlaceD) (q:PlaceI) (lv:Value) (name:NameL) (left:List NameL) (n:Nat) (hl:Rows H 1 lv (strR (name :: left))) (hll:left.length<2 ^ 36) (hnn:n<2 ^ 36) (follow:Bool)
  (hQ:∀ q' lv' H',Ext H H'->Rows H' 1 lv' (strR (stepY T M ⟨a,name :: left,n⟩ follow).1.left)->Q (.tuple #[rwV (stepY T M ⟨a,name :: left,n⟩ follow).1.at_.toI q' lv' ((stepY T M ⟨a,name :: left,n⟩ follow).1.links:Int),vi (stepY T M ⟨a,name :: left,n⟩ follow).2]) H') :
  E.call (E.fid i.f82) [ptr t 0,rwV a.toI q lv n,vb follow] H Q:=by
 apply hE.f82
 have hpl:=hl.plain
 have hbo:boxO (rwV a.toI q lv n)=some (.cells (rwC a.toI q lv n) none,fun b=>ptr b 0):=by
  have:(rwC a.toI q lv n).all plain1=true:=by simp only [rwC,List.all_cons,hpl,List.all_nil]; rfl
  first
   | rfl
   | simp [boxO,this]
 have x2:Ext H ((H.new (.cells (rwC a.toI q lv n) none)).new (.cells [vi 0,vi 0,vi 0,vi 0,nilS,vi 0] none)):=((Ext.refl H).new _).new _
 have w2:WB H ((H.new (.cells (rwC a.toI q lv n) none)).new (.cells [vi 0,vi 0,vi 0,vi 0,nilS,vi 0] none)) H.next (H.next+1) a.toI q lv n:=⟨x2,by simp [AH.get_new],⟨[vi 0,vi 0,vi 0,vi 0,nilS,vi 0],by rw [show H.next+1=(H.new (.cells (rwC a.toI q lv n) none)).next from rfl,AH.get_new_self],rfl⟩,by omega,by omega,by omega,hpl⟩
 have z0:([(.int .i64 0),(.int .i64 0),(.int .i64 0),(.int .i64 0),(.slice none 0 0),(.int .i64 0)]:List Value)=[vi 0,vi 0,vi 0,vi 0,nilS,vi 0]:=rfl
 have hl2:=hl.mono x2
 have h2:=h.mono x2
 simp only [F.f82,hbo,allocW_eq,z0,stdZ]
 generalize (H.new (.cells (rwC a.toI q lv n) none)).new (.cells [vi 0,vi 0,vi 0,vi 0,nilS,vi 0] none)=H2 at *
 obtain ⟨bl,o,p1,p2⟩:=hl2.ix (i:=0) (by simp [strR])
 have p2:(H2.get bl).row o 1=some [str name]:=p2
 have p3:(H2.get bl).cell o=some (str name):=by have:=row_at p2 (j:=0) (by omega); simpa using this
 have i0:(.int .i64 0:Value)=vi ((0:Nat):Int):=rfl
 have i1:(.int .i64 1:Value)=vi ((1:Nat):Int):=rfl
 have hlen:(strR (name :: left)).length=left.length+1:=by simp [strR]
 have hs:=hl2.slice' (lo:=some (vi ((1:Nat):Int))) (hi:=none) (i:=1) (j:=left.length+1) (.inl rfl) (.inr ⟨rfl,hlen.symm⟩) (by omega) (by omega)
 have s1:=hs.1
 have s2:=(hl.slice' (lo:=some (vi ((1:Nat):Int))) (hi:=none) (i:=1) (j:=left.length+1) (.inl rfl) (.inr ⟨rfl,hlen.symm⟩) (by omega) (by omega)).2
 have s2:Rows H 1 (sliceV 1 lv 1 (left.length+1)) (strR left):=by
  rw [List.take_of_length_le (by omega)] at s2
  exact s2
 generalize sliceV 1 lv 1 (left.length+1)=lv1 at *
 have hp1:=s2.plain
 have w3:=w2.put a.toI q hp1 n
 have ix0:ixSlc 1 lv (.int .i64 0)=some (ptr bl o):=p1
 have sl1:slSlc 1 lv (some (.int .i64 1)) none none H2=some lv1:=s1
 simp only [w2.at4,ix0,p3,sl1,w2.st4 hp1,w3.ld0,stdZ]
 generalize H2.put H.next (.cells (rwC a.toI q lv1 n) none)=H3 at *
 refine S.rDir hE (h.mono w3.ext) a fun H4 e4 =>?_
 have w4:=w3.mono e4
 cases hd:dirP T M a with
 | false =>
  have hst:stepY T M ⟨a,name :: left,n⟩ follow=(⟨a,left,n⟩,20):=by simp [stepY,hd]
  rw [hst] at hQ
  simp only [stdZ]
  exact w4.fin (vi 20) fun H' e _=>hQ q lv1 H' e (s2.mono e)
 | true =>
 have s46:(.string ⟨#[46,46]⟩:Value)=str [46,46]:=rfl
 by_cases hdd:name=[46,46]
 ·simp only [s46,binStr_eql,hdd,decide_true,w4.ld0,stdZ]
  refine S.rUp hE (h.mono w4.ext) a fun H5 e5 =>?_
  have w5:=w4.mono e5
  have w6:=w5.put (upP T M a).toI q hp1 n
  have w7:=w6.put (upP T M a).toI (upP T M a).toI hp1 n
  have up1:(upP T M a).toI.inode=((upP T M a).i.toNat:Int):=rfl
  have w7a:=w7.at1
  rw [up1] at w7a
  simp only [w5.st0,w6.ld0,w6.st2,w7a,stdZ]
  generalize (H5.put H.next (.cells (rwC (upP T M a).toI q lv1 n) none)).put H.next (.cells (rwC (upP T M a).toI (upP T M a).toI lv1 n) none)=H7 at *
  refine (h.mono w7.ext).node hE (upP T M a).i fun bb oo y H8 e8 hn =>?_
  have w8:=w7.mono e8
  obtain ⟨d0,_⟩:=hn.cell
  have k0:=kind0 (T.node (upP T M a).i).kind
  by_cases hk:(T.node (upP T M a).i).kind=0#8
  ·have hst:stepY T M ⟨a,name :: left,n⟩ follow=(⟨upP T M a,left,n⟩,0):=by simp [stepY,hd,hdd,hk]
   rw [hst] at hQ
   have d0':(H8.get bb).cell oo=some (vi 0):=by rw [d0,hk]; rfl
   simp only [d0',i64_neq,ne_eq,not_true,decide_false,stdZ]
   exact w8.fin (vi 0) fun H' e _=>hQ _ lv1 H' e (s2.mono e)
  ·simp only [d0,i64_neq,k0,hk,ne_eq,not_false_eq_true,decide_true,w8.ld0,stdZ]
   refine S.rDir hE (h.mono w8.ext) (upP T M a) fun H9 e9 =>?_
   have w9:=w8.mono e9
   cases hd2:dirP T M (upP T M a) with
   | true =>
    have hst:stepY T M ⟨a,name :: left,n⟩ follow=(⟨upP T M a,left,n⟩,0):=by simp [stepY,hd,hdd,hd2]
    rw [hst] at hQ
    simp only [stdZ]
    exact w9.fin (vi 0) fun H' e _=>hQ _ lv1 H' e (s2.mono e)
   | false =>
    have hst:stepY T M ⟨a,name :: left,n⟩ follow=(⟨upP T M a,left,n⟩,2):=by simp [stepY,hd,hdd,hd2,hk]
    rw [hst] at hQ
    simp only [stdZ]
    exact w9.fin (vi 2) fun H' e _=>hQ _ lv1 H' e (s2.mono e)
 have hls:=lenStr_s name
 by_cases h14:14<name.length
 ·have hst:stepY T M ⟨a,name :: left,n⟩ follow=(⟨a,left,n⟩,36):=by simp [stepY,hd,hdd,h14]
  rw [hst] at hQ
  have h14':(14:Int)<name.length:=by omega
  simp only [s46,binStr_eql,hdd,decide_false,hls,i64_gtr,gt_iff_lt,h14',decide_true,stdZ]
  exact w4.fin (vi 36) fun H' e _=>hQ q lv1 H' e (s2.mono e)
 have h14':¬ (14:Int)<name.length:=by omega
 have ai:a.toI.inode=(a.i.toNat:Int):=rfl
 have w4a:=w4.at1
 rw [ai] at w4a
 simp only [s46,binStr_eql,hdd,decide_false,hls,i64_gtr,gt_iff_lt,h14',w4a,stdZ]
 obtain ⟨nv,mv,nx,Y,k,hT,hpin⟩:=id (h.mono w4.ext)
 refine S.f69 hE hT wf.small a.i name fun H5 e5 =>?_
 have w5:=w4.mono e5
 by_cases hlk:(T.look a.i name).2=0
 rotate_left
 ·have hst:stepY T M ⟨a,name :: left,n⟩ follow=(⟨a,left,n⟩,(T.look a.i name).2):=by simp [stepY,hd,hdd,h14,hlk]
  rw [hst] at hQ
  simp only [i64_neq,hlk,ne_eq,not_false_eq_true,decide_true,stdZ]
  exact w5.fin (vi (T.look a.i name).2) fun H' e _=>hQ q lv1 H' e (s2.mono e)
 have hk0:=(wf.look_bd a.i name hlk).1
 generalize hm:(T.look a.i name).1=m at *
 simp only [i64_neq,hlk,ne_eq,not_true,decide_false,stdZ]
 refine (h.mono w5.ext).node hE m fun bb oo y H6 e6 hn =>?_
 have w6:=w5.mono e6
 obtain ⟨d0,d1,d2,d3,d4,_⟩:=hn.cell
 have k3:=kind3 (T.node m).kind
 have k2:=kind2 (T.node m).kind
 have s2len:∀ {H'},Ext H H'->AM.lenSlc lv1=some (vi left.length):=fun e=>by
  have:=(s2.mono e).lenSlc
  rwa [show (strR left).length=left.length by simp [strR]] at this
 have hlv1:=s2len w6.ext
 have stay:((T.node m).kind=3#8/\(follow=true\/left≠[]))=False ->
   opt (loadN 2 (ptr H.next 0) H6) fun v90=>opt (storeN 2 (ptr H.next 2) v90 H6) fun H34=>opt (load1 (ptr H.next 0) H34) fun v94=>opt (buildV [(0,1),(1,1)] #[(.int .i64 0),(.int .i64 0)] [(0,v94),(1,vi (m.toNat:Int))]) fun v95=>opt (storeN 2 (ptr H.next 0) v95 H34) fun H35 =>
   opt (load1 (ptr bb oo) H35) fun v99=>opt (binInt .eql v99 (.int .i64 2)) fun v100=>ifB v100 (
   opt (loadN 2 (ptr H.next 0) H35) fun v102=>E.call (E.fid i.f73) [ptr t 0,v102] H35 fun v103 H36=>opt (storeN 2 (ptr H.next 0) v103 H36) fun H37=>opt (loadN 2 (ptr H.next 0) H37) fun v106=>opt (storeN 2 (ptr H.next 2) v106 H37) fun H38 =>
   opt (loadN 6 (ptr H.next 0) H38) fun v108=>opt (storeN 6 (ptr (H.next+1) 0) v108 H38) fun H39=>opt (loadN 6 (ptr (H.next+1) 0) H39) fun v109=>Q (.tuple #[v109,(.int .i64 0)]) H39) (
   opt (loadN 6 (ptr H.next 0) H35) fun v110=>opt (storeN 6 (ptr (H.next+1) 0) v110 H35) fun H40=>opt (loadN 6 (ptr (H.next+1) 0) H40) fun v111=>Q (.tuple #[v111,(.int .i64 0)]) H40):=by
  intro hno
  have w7:=w6.put a.toI a.toI hp1 n
  have hbv:buildV [(0,1),(1,1)] #[(.int .i64 0),(.int .i64 0)] [(0,vi a.m),(1,vi (m.toNat:Int))]=some (PlaceD.toI ⟨a.m,m⟩).v:=rfl
  have am:a.toI.mount=a.m:=rfl
  have w7a:=w7.at0
  rw [am] at w7a
  have w8:=w7.put (PlaceD.toI ⟨a.m,m⟩) a.toI hp1 n
  have hbb:bb≠H.next:=by
   rintro rfl
   have:=hn.1
   rw [w6.hb,row_cells] at this
   have hl6:(rwC a.toI q lv1 n).length=6:=rfl
   rw [hl6,if_neg (by omega)] at this
   simp at this
  have hst:stepY T M ⟨a,name :: left,n⟩ follow=(if (T.node m).kind=2#8 then ⟨seen M ⟨a.m,m⟩,left,n⟩ else ⟨⟨a.m,m⟩,left,n⟩,0):=by
   simp only [stepY,hd,hm,hlk]
   rw [if_neg (by simp),if_neg hdd,if_neg h14,if_neg (by simp),if_neg (by rw [hno]; exact id)]
   split <;> rfl
  rw [hst] at hQ
  have kk:((H6.put H.next (.cells (rwC a.toI a.toI lv1 n) none)).put H.next (.cells (rwC (PlaceD.toI ⟨a.m,m⟩) a.toI lv1 n) none)).get bb=H6.get bb:=by rw [AH.get_put_ne _ _ hbb,AH.get_put_ne _ _ hbb]
  simp only [w6.ld0,w6.st2,w7a,hbv,w7.st0,kk,d0,stdZ]
  generalize (H6.put H.next (.cells (rwC a.toI a.toI lv1 n) none)).put H.next (.cells (rwC (PlaceD.toI ⟨a.m,m⟩) a.toI lv1 n) none)=H8 at *
  have e2i:(.int .i64 2:Value)=vi 2:=rfl
  by_cases hk2:(T.node m).kind=2#8
  ·rw [if_pos hk2] at hQ
   have kv:vi ((T.node m).kind.toNat:Int)=vi 2:=by rw [hk2]; rfl
   simp only [kv,i64_eql,decide_true,w8.ld0,stdZ]
   refine S.rSeen hE (h.mono w8.ext) ⟨a.m,m⟩ fun H9 e9 =>?_
   have w9:=w8.mono e9
   have w10:=w9.put (seen M ⟨a.m,m⟩).toI a.toI hp1 n
   have w11:=w10.put (seen M ⟨a.m,m⟩).toI (seen M ⟨a.m,m⟩).toI hp1 n
   simp only [w9.st0,w10.ld0,w10.st2,stdZ]
   exact w11.fin (vi 0) fun H' e _=>hQ _ lv1 H' e (s2.mono e)
  ·rw [if_neg hk2] at hQ
   simp only [i64_eql,k2,hk2,decide_false,stdZ]
   exact w8.fin (vi 0) fun H' e _=>hQ _ lv1 H' e (s2.mono e)
 by_cases hk3:(T.node m).kind=3#8
 rotate_left
 ·have:=stay (by simp [hk3])
  simp only [d0,i64_eql,k3,hk3,decide_false,stdZ] at this ⊢
  exact this
 have d0':(H6.get bb).cell oo=some (vi 3):=by rw [d0,hk3]; rfl
 by_cases hf:follow=true\/left≠[]
 rotate_left
 ·have h1:follow=false:=by cases follow <;> simp at hf ⊢
  have h2':left=[]:=by
   refine Classical.byContradiction fun hc=>hf (.inr hc)
  have hz:(left.length:Int)=0:=by rw [h2']; rfl
  have:=stay (by simp [h1,h2'])
  subst h1
  simp only [d0',i64_eql,decide_true,w6.at4,hlv1,hz,i64_gtr,gt_iff_lt,Int.lt_irrefl,decide_false,stdZ] at this ⊢
  exact this
 obtain ⟨htx1,htx2⟩:=(kd m).text hk3
 have hinc:binInt .add (vi (n:Int)) (.int .i64 1)=some (vi ((n+1:Nat):Int)):=i64_inc (by omega)
 have w7:=w6.put a.toI q hp1 ((n+1:Nat):Int)
 have w7a:=w7.at5
 have hbb:bb≠H.next:=by
  rintro rfl
  have:=hn.1
  rw [w6.hb,row_cells] at this
  have hl6:(rwC a.toI q lv1 n).length=6:=rfl
  rw [hl6,if_neg (by omega)] at this
  simp at this
 have d4':((H6.put H.next (.cells (rwC a.toI q lv1 ((n+1:Nat):Int)) none)).get bb).cell (oo+4)=some (str (T.node m).text):=by rw [AH.get_put_ne _ _ hbb]; exact d4
 have hst:stepY T M ⟨a,name :: left,n⟩ follow=if 8<n+1 then (⟨a,left,n+1⟩,40) else (⟨if (T.node m).text.head? = some 47 then seen M topP else a,partsL (T.node m).text++left,n+1⟩,0):=by
  simp only [stepY,hd,hm,hlk]
  rw [if_neg (by simp),if_neg hdd,if_neg h14,if_neg (by simp),if_pos ⟨hk3,hf⟩]
 have st5:=w6.st5 ((n+1:Nat):Int)
 have w6a:=w6.at5
 have go:opt (load1 (ptr H.next 5) H6) fun v70=>opt (binInt .add v70 (.int .i64 1)) fun v71=>opt (store1 (ptr H.next 5) v71 H6) fun H28=>opt (load1 (ptr H.next 5) H28) fun v74=>opt (binInt .gtr v74 (.int .i64 8)) fun v75=>ifB v75 (
   opt (loadN 6 (ptr H.next 0) H28) fun v76=>opt (storeN 6 (ptr (H.next+1) 0) v76 H28) fun H29=>opt (loadN 6 (ptr (H.next+1) 0) H29) fun v77=>Q (.tuple #[v77,(.int .i64 40)]) H29) (
   opt (load1 (ptr bb (oo+4)) H28) fun v80=>opt (ixStr v80 (.int .i64 0)) fun v81=>opt (binInt .eql v81 (.int .u8 47)) fun v82=>ifB v82 (
   E.call (E.fid i.f59) [] H28 fun v83 H30=>E.call (E.fid i.f73) [ptr t 0,v83] H30 fun v84 H31=>opt (storeN 2 (ptr H.next 0) v84 H31) fun H32=>opt (loadN 2 (ptr H.next 0) H32) fun v87=>opt (storeN 2 (ptr H.next 2) v87 H32) fun H33 =>
   F.f82_j1 E Q (ptr H.next 0) (ptr (H.next+1) 0) (ptr bb oo) H33) (
   F.f82_j1 E Q (ptr H.next 0) (ptr (H.next+1) 0) (ptr bb oo) H28)):=by
  rw [hst] at hQ
  generalize hn1:n+1=n1 at *
  simp only [w6a,hinc,st5,w7a,stdZ]
  generalize H6.put H.next (.cells (rwC a.toI q lv1 (n1:Int)) none)=H7 at *
  by_cases h8:8<n1
  ·have h8':(8:Int)<n1:=by omega
   rw [if_pos h8] at hQ
   simp only [i64_gtr,gt_iff_lt,h8',decide_true,stdZ]
   exact w7.fin (vi 40) fun H' e _=>hQ q lv1 H' e (s2.mono e)
  have h8':¬ (8:Int)<n1:=by omega
  rw [if_neg h8] at hQ
  have hlen0:0<(T.node m).text.length:=List.length_pos_iff.2 htx1
  have hix:=ixStr_s (T.node m).text 0 hlen0
  have hix:ixStr (str (T.node m).text) (.int .i64 0)=some (u8 (T.node m).text[0].toBitVec):=hix
  have hhd:(T.node m).text.head? = some (T.node m).text[0]:=by rw [List.head?_eq_getElem?]; exact List.getElem?_eq_getElem hlen0
  have e47:binInt .eql (u8 (T.node m).text[0].toBitVec) (.int .u8 47)=some (vb (decide ((T.node m).text[0].toBitVec=47#8))):=u8_eql _ 47#8
  have c47:((T.node m).text[0].toBitVec=47#8)↔(T.node m).text[0]=47:=⟨fun h=>UInt8.toBitVec_inj.1 h,fun h=>by rw [h]; rfl⟩
  rw [hhd] at hQ
  simp only [i64_gtr,gt_iff_lt,h8',decide_false,d4',hix,e47,stdZ]
  by_cases hc:(T.node m).text[0]=47
  ·rw [if_pos (by rw [hc])] at hQ
   simp only [c47.2 hc,decide_true,stdZ]
   refine S.rTop hE fun H8 e8 =>?_
   have w8:=w7.mono e8
   refine S.rSeen hE (h.mono w8.ext) topP fun H9 e9 =>?_
   have w9:=w8.mono e9
   have w10:=w9.put (seen M topP).toI q hp1 (n1:Int)
   have w11:=w10.put (seen M topP).toI (seen M topP).toI hp1 (n1:Int)
   simp only [w9.st0,w10.ld0,w10.st2,stdZ]
   refine rstep_j1 hE w11 s2 (by omega) (x:=T.node m) ?_ htx2 fun lv' H' e r=>hQ _ lv' H' e r
   rw [AH.get_put_ne _ _ hbb,AH.get_put_ne _ _ hbb,(e8.trans e9).get (AH.lt_of_get (by intro hz; rw [hz] at d4'; simp [AObj.cell] at d4'))]
   exact d4'
  ·have hc':¬ ((T.node m).text[0].toBitVec=47#8):=fun hx=>hc (c47.1 hx)
   rw [if_neg (by simpa using hc)] at hQ
   simp only [hc',decide_false,stdZ]
   exact rstep_j1 hE w7 s2 (by omega) (x:=T.node m) d4' htx2 fun lv' H' e r=>hQ _ lv' H' e r
 rcases hf with rfl | hf
 ·simp only [d0',i64_eql,decide_true,stdZ] at go ⊢
  exact go
 ·cases follow with
  | true =>
   simp only [d0',i64_eql,decide_true,stdZ] at go ⊢
   exact go
  | false =>
   have hlp:(0:Int)<left.length:=by
    have:=List.length_pos_iff.2 hf
    omega
   simp only [d0',i64_eql,decide_true,w6.at4,hlv1,i64_gtr,gt_iff_lt,hlp,stdZ] at go ⊢
   exact go
end
end Go.AM
end
section
namespace Go.AM
set_option maxRecDepth 20000
section
variable {X:List Res} {E:Sy} {H0 H H' H'':AH} {Q:Value->AH->Prop} {w t s:Nat} {T T':Tr} {M M':List MntD} {nx nx' k l:Int} {b c:Nat} {p q:PlaceI} {lv:Value} {n:Int}
theorem rows_put {v:Value} {l:List NameL} {cs c':List Value} (h:Rows H 1 v (strR l)) (hb:H.get b = .cells cs none) (hcs:∀ s,str s ∉ cs) (hl:c'.length=cs.length):Rows (H.put b (.cells c' none)) 1 v (strR l):=by
 refine ⟨h.len,?_⟩
 rcases h.at_ with g | ⟨bl,o,cp,g1,g2,g3,g4⟩
 ·exact .inl g
 ·by_cases e:bl=b
  ·subst e
   have hlt:=AH.lt_cells hb
   have hlz:l=[]:=by
    cases l with
    | nil=>rfl
    | cons s l =>
     rw [hb,row_cells] at g4
     split at g4
     ·have g4:=Option.some.inj g4
      have:str s∈((cs.drop o).take ((strR (s :: l)).length*1)):=by rw [g4]; simp [strR]
      exact (hcs s (List.mem_of_mem_drop (List.mem_of_mem_take this))).elim
     ·simp at g4
   subst hlz
   refine .inr ⟨bl,o,cp,g1,g2,?_,?_⟩
   ·rw [AH.get_put_self _ _ hlt]; simp [fits]
   ·rw [AH.get_put_self _ _ hlt,row_cells]
    rw [hb,row_cells] at g4
    simp only [strR,List.map_nil,List.length_nil,Nat.zero_mul,Nat.add_zero,List.flatten_nil] at g4 ⊢
    split at g4
    ·rename_i hc
     rw [if_pos (by omega)]; simp
    ·simp at g4
  ·refine .inr ⟨bl,o,cp,g1,g2,?_,?_⟩
   ·rw [AH.get_put_ne _ _ e]; exact g3
   ·rw [AH.get_put_ne _ _ e]; exact g4
theorem rwC_nostr {lv:Value} {l:List NameL} (h:Rows H 1 lv (strR l)) (p q:PlaceI) (n:Int):∀ s,str s ∉ rwC p q lv n:=by
 intro s hs
 simp only [rwC,List.mem_cons,List.not_mem_nil,or_false] at hs
 rcases hs with hs | hs | hs | hs | hs | hs
 ·rw [str_def] at hs; cases hs
 ·rw [str_def] at hs; cases hs
 ·rw [str_def] at hs; cases hs
 ·rw [str_def] at hs; cases hs
 ·rcases h.at_ with ⟨_,c,hx⟩ | ⟨b,o,c,hx,_⟩
  ·rw [hx,str_def] at hs; cases hs
  ·rw [hx,str_def] at hs; cases hs
 ·rw [str_def] at hs; cases hs
theorem S.rBegin (hE:Fold E) (h:RefW H t T M) (cwd:PlaceD) (path:List UInt8) (hp:path.length<2 ^ 62)
  (hbad:(beginW M cwd path).2≠0->∀ H',Ext H H'->Q (.tuple #[rwV PlaceI.zero PlaceI.zero nilS 0,vi (beginW M cwd path).2]) H')
  (hok:(beginW M cwd path).2=0->∀ q lv H',Ext H H'->Rows H' 1 lv (strR (beginW M cwd path).1.left)->Q (.tuple #[rwV (beginW M cwd path).1.at_.toI q lv 0,vi 0]) H') :
  E.call (E.fid i.f77) [ptr t 0,cwd.toI.v,str path] H Q:=by
 apply hE.f77
 have x2:Ext H ((H.new (.cells cwd.toI.cells none)).new (.cells [vi 0,vi 0,vi 0,vi 0,nilS,vi 0] none)):=((Ext.refl H).new _).new _
 have hb1:((H.new (.cells cwd.toI.cells none)).new (.cells [vi 0,vi 0,vi 0,vi 0,nilS,vi 0] none)).get H.next = .cells cwd.toI.cells none:=by simp [AH.get_new]
 have w2:WB H ((H.new (.cells cwd.toI.cells none)).new (.cells [vi 0,vi 0,vi 0,vi 0,nilS,vi 0] none)) (H.next+1) H.next PlaceI.zero PlaceI.zero nilS 0->True:=fun _=>trivial
 have hb2:((H.new (.cells cwd.toI.cells none)).new (.cells [vi 0,vi 0,vi 0,vi 0,nilS,vi 0] none)).get (H.next+1) = .cells [vi 0,vi 0,vi 0,vi 0,nilS,vi 0] none:=by rw [show H.next+1=(H.new (.cells cwd.toI.cells none)).next from rfl,AH.get_new_self]
 have z0:([(.int .i64 0),(.int .i64 0),(.int .i64 0),(.int .i64 0),(.slice none 0 0),(.int .i64 0)]:List Value)=[vi 0,vi 0,vi 0,vi 0,nilS,vi 0]:=rfl
 have z1:(#[(.int .i64 0),(.int .i64 0),(.int .i64 0),(.int .i64 0),(.slice none 0 0),(.int .i64 0)]:Array Value)=[vi 0,vi 0,vi 0,vi 0,nilS,vi 0].toArray:=rfl
 have s0:(.string ⟨#[]⟩:Value)=str []:=rfl
 have h2:=h.mono x2
 have hz:rwC PlaceI.zero PlaceI.zero nilS 0=[vi 0,vi 0,vi 0,vi 0,nilS,vi 0]:=rfl
 have bz:buildV [(0,2),(2,2),(4,1),(5,1)] [vi 0,vi 0,vi 0,vi 0,nilS,vi 0].toArray []=some (rwV PlaceI.zero PlaceI.zero nilS 0):=rfl
 simp only [F.f77,allocW_eq,z0,z1,s0,stdZ]
 generalize (H.new (.cells cwd.toI.cells none)).new (.cells [vi 0,vi 0,vi 0,vi 0,nilS,vi 0] none)=H2 at *
 have st6:∀ {H':AH} {b:Nat} {cs:List Value} (p q:PlaceI) (lv:Value) (n:Int),H'.get b = .cells cs none->cs.length=6->plain1 lv=true->storeN 6 (ptr b 0) (rwV p q lv n) H'=some (H'.put b (.cells (rwC p q lv n) none))/\loadN 6 (ptr b 0) (H'.put b (.cells (rwC p q lv n) none))=some (rwV p q lv n):=by
  intro H' b cs p q lv n hb hl hp
  have h1:(rwC p q lv n).length=6:=rfl
  have h2:(rwC p q lv n).all plain1=true:=by simp only [rwC,List.all_cons,hp,List.all_nil]; rfl
  have h3:AM.splice cs 0 (rwC p q lv n)=rwC p q lv n:=by simp [splice,h1,hl]
  constructor
  ·rw [storeN_ptr,hb]
   simp only [List.size_toArray,List.toList_toArray,h1,h2,hl,Nat.zero_add,Nat.le_refl,and_self,if_true,h3]
  ·rw [loadN_ptr,AH.get_put_self _ _ (AH.lt_cells hb)]; rfl
 unfold beginW at hbad hok
 by_cases hp0:path=[]
 ·rw [if_pos hp0] at hbad
  obtain ⟨s1,s2⟩:=st6 PlaceI.zero PlaceI.zero nilS 0 hb2 rfl rfl
  simp only [hp0,binStr_eql,decide_true,bz,s1,s2,stdZ]
  exact hbad (by simp) _ (x2.put (by omega) _)
 rw [if_neg hp0] at hbad hok
 have hls:=lenStr_s path
 by_cases hp1:120<path.length
 ·have hp1':(120:Int)<path.length:=by omega
  rw [if_pos hp1] at hbad
  obtain ⟨s1,s2⟩:=st6 PlaceI.zero PlaceI.zero nilS 0 hb2 rfl rfl
  simp only [hp0,binStr_eql,decide_false,hls,i64_gtr,gt_iff_lt,hp1',decide_true,bz,s1,s2,stdZ]
  exact hbad (by simp) _ (x2.put (by omega) _)
 have hp1':¬ (120:Int)<path.length:=by omega
 rw [if_neg hp1] at hbad hok
 have lo1:∀ {H'},Ext H2 H'->loadN 2 (ptr H.next 0) H'=some cwd.toI.v:=fun e=>by rw [loadN_ptr,e.cells hb1]; rfl
 have x3:Ext H2 (H2.new (.cells [vi 0,vi 0,vi 0,vi 0,nilS,vi 0] none)):=(Ext.refl _).new _
 have hb3:=AH.get_new_self H2 (.cells [vi 0,vi 0,vi 0,vi 0,nilS,vi 0] none)
 simp only [hp0,binStr_eql,decide_false,hls,i64_gtr,gt_iff_lt,hp1',lo1 (Ext.refl _),stdZ]
 refine S.rParts hE path (by omega) fun v H4 e4 g4 f4 =>?_
 have e24:=x3.trans e4
 refine ⟨e4.cells hb3 |>.trans hb3.symm,(lo1 e24).trans (lo1 (Ext.refl _)).symm,(lo1 e24).trans (lo1 (Ext.refl _)).symm,?_⟩
 have hb4:=e4.cells hb3
 have bz2:buildV [(0,2),(2,2),(4,1),(5,1)] [vi 0,vi 0,vi 0,vi 0,nilS,vi 0].toArray [(0,cwd.toI.v),(1,cwd.toI.v),(2,v)]=some (rwV cwd.toI cwd.toI v 0):=by
  rcases g4.2 with ⟨_,rfl⟩ | ⟨b,f,c,cs,_,rfl,_⟩ <;> rfl
 have hb5:∀ b,blk v=some b->b≠H2.next/\b≠H.next+1:=by
  intro b hb
  have h1:=f4 b hb
  have h2:=AH.lt_cells hb2
  simp at h1
  omega
 obtain ⟨s1,s2⟩:=st6 cwd.toI cwd.toI v 0 hb4 rfl g4.plain
 have hlt4:=AH.lt_cells hb4
 have g5:Grow zH (H4.put H2.next (.cells (rwC cwd.toI cwd.toI v 0) none)) 1 v (strR (partsL path)):=g4.keep fun b hb _=>AH.get_put_ne _ _ (hb5 b hb).1
 have x5:Ext H (H4.put H2.next (.cells (rwC cwd.toI cwd.toI v 0) none)):=(x2.trans e24).put x2.1 _
 have hb2':(H4.put H2.next (.cells (rwC cwd.toI cwd.toI v 0) none)).get (H.next+1) = .cells [vi 0,vi 0,vi 0,vi 0,nilS,vi 0] none:=by
  rw [AH.get_put_ne _ _ (by have:=AH.lt_cells hb2; omega)]
  exact e24.cells hb2
 have w5:WB H (H4.put H2.next (.cells (rwC cwd.toI cwd.toI v 0) none)) H2.next (H.next+1) cwd.toI cwd.toI v 0:=⟨x5,AH.get_put_self _ _ hlt4,⟨_,hb2',rfl⟩,x2.1,by omega,by have:=AH.lt_cells hb2; omega,g4.plain⟩
 have hlen0:0<path.length:=List.length_pos_iff.2 hp0
 have hix:ixStr (str path) (.int .i64 0)=some (u8 path[0].toBitVec):=ixStr_s path 0 hlen0
 have hhd:path.head? = some path[0]:=by rw [List.head?_eq_getElem?]; exact List.getElem?_eq_getElem hlen0
 have e47:binInt .eql (u8 path[0].toBitVec) (.int .u8 47)=some (vb (decide (path[0].toBitVec=47#8))):=u8_eql _ 47#8
 have c47:(path[0].toBitVec=47#8)↔path[0]=47:=⟨fun h=>UInt8.toBitVec_inj.1 h,fun h=>by rw [h]; rfl⟩
 rw [hhd] at hok
 simp only [bz2,s1,hix,e47,stdZ]
 generalize H4.put H2.next (.cells (rwC cwd.toI cwd.toI v 0) none)=H5 at *
 by_cases hc:path[0]=47
 ·rw [if_pos (by rw [hc])] at hok
  simp only [c47.2 hc,decide_true,stdZ]
  refine S.rTop hE fun H6 e6 =>?_
  have w6:=w5.mono e6
  refine S.rSeen hE (h.mono w6.ext) topP fun H7 e7 =>?_
  have w7:=w6.mono e7
  have w8:=w7.put (seen M topP).toI cwd.toI g4.plain 0
  have w9:=w8.put (seen M topP).toI (seen M topP).toI g4.plain 0
  have g7:=(g5.ext (e6.trans e7))
  simp only [w7.st0,w8.ld0,w8.st2,stdZ]
  refine w9.fin (vi 0) fun H' e hg=>hok rfl _ v H' e ?_
  refine Grow.toRows (Z:=zH) (g7.keep fun b hb _ =>?_)
  obtain ⟨n1,n2⟩:=hb5 b hb
  rw [hg b n2,AH.get_put_ne _ _ n1,AH.get_put_ne _ _ n1]
 ·have hc':¬ (path[0].toBitVec=47#8):=fun hx=>hc (c47.1 hx)
  rw [if_neg (by simpa using hc)] at hok
  simp only [hc',decide_false,stdZ]
  refine w5.fin (vi 0) fun H' e hg=>hok rfl _ v H' e ?_
  refine Grow.toRows (Z:=zH) (g5.keep fun b hb _ =>?_)
  obtain ⟨n1,n2⟩:=hb5 b hb
  rw [hg b n2]
theorem ransw {b2 b3:Nat} {c2 c3:List Value} (h2:H.get b2 = .cells c2 none) (h3:H.get b3 = .cells c3 none) (l2:c2.length=2) (l3:c3.length=2) (hne:b2≠b3) (n2:H0.next<=b2) (n3:H0.next<=b3) (e:Ext H0 H) (p q:PlaceI) (ev:Value)
  (hQ:∀ H',Ext H0 H'->Q (.tuple #[p.v,q.v,ev]) H') :
  opt (storeN 2 (ptr b2 0) p.v H) fun H7=>opt (storeN 2 (ptr b3 0) q.v H7) fun H8=>opt (loadN 2 (ptr b2 0) H8) fun v12=>opt (loadN 2 (ptr b3 0) H8) fun v13=>Q (.tuple #[v12,v13,ev]) H8:=by
 have st:∀ {H:AH} {b:Nat} {c:List Value} (p:PlaceI),H.get b = .cells c none->c.length=2->storeN 2 (ptr b 0) p.v H=some (H.put b (.cells p.cells none)):=by
  intro H b c p hb hl
  rw [storeN_ptr,hb]
  have h1:p.cells.length=2:=rfl
  have h2:p.cells.all plain1=true:=rfl
  have h3:AM.splice c 0 p.cells=p.cells:=by simp [splice,h1,hl]
  simp only [List.size_toArray,List.toList_toArray,h1,h2,hl,Nat.zero_add,Nat.le_refl,and_self,if_true,h3]
 have h3':(H.put b2 (.cells p.cells none)).get b3 = .cells c3 none:=by rw [AH.get_put_ne _ _ (Ne.symm hne)]; exact h3
 have g2:((H.put b2 (.cells p.cells none)).put b3 (.cells q.cells none)).get b2 = .cells p.cells none:=by rw [AH.get_put_ne _ _ hne]; exact AH.get_put_self _ _ (AH.lt_cells h2)
 have g3:((H.put b2 (.cells p.cells none)).put b3 (.cells q.cells none)).get b3 = .cells q.cells none:=AH.get_put_self _ _ (AH.lt_cells h3')
 have lo2:loadN 2 (ptr b2 0) ((H.put b2 (.cells p.cells none)).put b3 (.cells q.cells none))=some p.v:=by rw [loadN_ptr,g2]; rfl
 have lo3:loadN 2 (ptr b3 0) ((H.put b2 (.cells p.cells none)).put b3 (.cells q.cells none))=some q.v:=by rw [loadN_ptr,g3]; rfl
 simp only [st p h2 l2,st q h3' l3,lo2,lo3,stdZ]
 exact hQ _ ((e.put n2 _).put n3 _)
theorem S.rFind (hE:Fold E) (h:RefW H t T M) (wf:T.WF) (kd:T.KD) (cwd:PlaceD) (path:List UInt8) (hp:path.length<2 ^ 62) (follow:Bool)
  (hQ:∀ q H',Ext H H'->Q (.tuple #[(findW T M cwd path follow).1.toI.v,PlaceI.v q,vi (findW T M cwd path follow).2]) H'):E.call (E.fid i.f66) [ptr t 0,cwd.toI.v,str path,vb follow] H Q:=by
 apply hE.f66
 have lt:T.LT:=Tr.KD.lt kd
 have x3:Ext H (((H.new (.cells cwd.toI.cells none)).new (.cells [vi 0,vi 0] none)).new (.cells [vi 0,vi 0] none)):=(((Ext.refl H).new _).new _).new _
 have hb1:(((H.new (.cells cwd.toI.cells none)).new (.cells [vi 0,vi 0] none)).new (.cells [vi 0,vi 0] none)).get H.next = .cells cwd.toI.cells none:=by
  rw [AH.get_new_ne _ _ (by rw [AH.next_new,AH.next_new]; omega),AH.get_new_ne _ _ (by rw [AH.next_new]; omega),AH.get_new_self]
 have hb2:(((H.new (.cells cwd.toI.cells none)).new (.cells [vi 0,vi 0] none)).new (.cells [vi 0,vi 0] none)).get (H.next+1) = .cells [vi 0,vi 0] none:=by
  rw [AH.get_new_ne _ _ (by rw [AH.next_new,AH.next_new]; omega),show H.next+1=(H.new (.cells cwd.toI.cells none)).next from rfl,AH.get_new_self]
 have hb3:(((H.new (.cells cwd.toI.cells none)).new (.cells [vi 0,vi 0] none)).new (.cells [vi 0,vi 0] none)).get (H.next+1+1) = .cells [vi 0,vi 0] none:=by
  rw [show H.next+1+1=((H.new (.cells cwd.toI.cells none)).new (.cells [vi 0,vi 0] none)).next from rfl,AH.get_new_self]
 have z2:([(.int .i64 0),(.int .i64 0)]:List Value)=[vi 0,vi 0]:=rfl
 have z2a:(#[(.int .i64 0),(.int .i64 0)]:Array Value)=[vi 0,vi 0].toArray:=rfl
 have z0:([(.int .i64 0),(.int .i64 0),(.int .i64 0),(.int .i64 0),(.slice none 0 0),(.int .i64 0)]:List Value)=[vi 0,vi 0,vi 0,vi 0,nilS,vi 0]:=rfl
 have bz:buildV [(0,1),(1,1)] [vi 0,vi 0].toArray []=some PlaceI.zero.v:=rfl
 have h3:=h.mono x3
 have hlo:loadN 2 (ptr H.next 0) (((H.new (.cells cwd.toI.cells none)).new (.cells [vi 0,vi 0] none)).new (.cells [vi 0,vi 0] none))=some cwd.toI.v:=by rw [loadN_ptr,hb1]; rfl
 simp only [F.f66,allocW_eq,z2,hlo,stdZ]
 generalize ((H.new (.cells cwd.toI.cells none)).new (.cells [vi 0,vi 0] none)).new (.cells [vi 0,vi 0] none)=H3 at *
 have hzI:PlaceD.zero.toI=PlaceI.zero:=rfl
 unfold findW at hQ
 refine S.rBegin hE h3 cwd path hp (fun hbad H4 e4 =>?_) fun hgood q lv H4 e4 r4 =>?_
 ·rw [if_pos hbad] at hQ
  simp only [hzI] at hQ
  have x5:Ext H4 (H4.new (.cells (rwC PlaceI.zero PlaceI.zero nilS 0) none)):=(Ext.refl _).new _
  have hst:storeN 6 (ptr H4.next 0) (rwV PlaceI.zero PlaceI.zero nilS 0) (H4.new (.cells [vi 0,vi 0,vi 0,vi 0,nilS,vi 0] none))=some (H4.new (.cells (rwC PlaceI.zero PlaceI.zero nilS 0) none)):=by
   rw [storeN_ptr,AH.get_new_self]
   have h1:(rwC PlaceI.zero PlaceI.zero nilS 0).length=6:=rfl
   have h2:(rwC PlaceI.zero PlaceI.zero nilS 0).all plain1=true:=rfl
   have h3:AM.splice [vi 0,vi 0,vi 0,vi 0,nilS,vi 0] 0 (rwC PlaceI.zero PlaceI.zero nilS 0)=rwC PlaceI.zero PlaceI.zero nilS 0:=rfl
   simp only [List.size_toArray,List.toList_toArray,h1,h2,List.length_cons,List.length_nil,Nat.zero_add,Nat.reduceAdd,Nat.le_refl,and_self,if_true,h3,AH.new_put]
  simp only [allocW_eq,z0,hst,i64_neq,hbad,ne_eq,not_false_eq_true,decide_true,z2a,bz,stdZ]
  have e5:=e4.trans x5
  exact ransw (e5.cells hb2) (e5.cells hb3) rfl rfl (by omega) (by omega) (by omega) (x3.trans e5) PlaceI.zero PlaceI.zero _ fun H' e=>hQ _ H' e
 have hp0:path≠[]:=by
  rintro rfl
  simp [beginW] at hgood
 rw [if_neg (by simp [hgood])] at hQ
 simp only [hzI] at hQ
 obtain ⟨hlk0,hll0⟩:=beginW_links M cwd path
 generalize (beginW M cwd path).1=w0 at *
 have hpl4:=r4.plain
 have hst:storeN 6 (ptr H4.next 0) (rwV w0.at_.toI q lv 0) (H4.new (.cells [vi 0,vi 0,vi 0,vi 0,nilS,vi 0] none))=some (H4.new (.cells (rwC w0.at_.toI q lv 0) none)):=by
  rw [storeN_ptr,AH.get_new_self]
  have h1:(rwC w0.at_.toI q lv 0).length=6:=rfl
  have h2:(rwC w0.at_.toI q lv 0).all plain1=true:=by simp only [rwC,List.all_cons,hpl4,List.all_nil]; rfl
  have h3:AM.splice [vi 0,vi 0,vi 0,vi 0,nilS,vi 0] 0 (rwC w0.at_.toI q lv 0)=rwC w0.at_.toI q lv 0:=rfl
  simp only [List.size_toArray,List.toList_toArray,h1,h2,List.length_cons,List.length_nil,Nat.zero_add,Nat.reduceAdd,Nat.le_refl,and_self,if_true,h3,AH.new_put]
 have hls:=lenStr_s path
 have hlen:0<path.length:=List.length_pos_iff.2 hp0
 have hsub:binInt .sub (vi path.length) (.int .i64 1)=some (vi ((path.length - 1:Nat):Int)):=by
  show binInt .sub (vi path.length) (vi 1)=_
  rw [i64_sub (by omega) (by omega)]; congr 2; omega
 have hix:=ixStr_s path (path.length - 1) (by omega)
 have e47:binInt .eql (u8 (path[path.length - 1]'(by omega)).toBitVec) (.int .u8 47)=some (vb (endsSlash path)):=by
  have h1:=u8_eql (path[path.length - 1]'(by omega)).toBitVec 47#8
  have h2:endsSlash path=decide ((path[path.length - 1]'(by omega)).toBitVec=47#8):=by
   unfold endsSlash
   rw [List.getLast?_eq_getElem?,List.getElem?_eq_getElem (by omega)]
   rw [decide_eq_decide,Option.some.injEq]
   exact ⟨fun h=>by rw [h]; rfl,fun h=>UInt8.toBitVec_inj.1 h⟩
  rw [h2]; exact h1
 simp only [allocW_eq,z0,hst,i64_neq,ne_eq,not_true,decide_false,hls,hsub,hix,e47,stdZ]
 have x5:Ext H4 (H4.new (.cells (rwC w0.at_.toI q lv 0) none)):=(Ext.refl _).new _
 have hb5:=AH.get_new_self H4 (.cells (rwC w0.at_.toI q lv 0) none)
 have e5:=e4.trans x5
 have r5:=r4.mono x5
 have n8:H.next+1+1<H4.next:=Nat.lt_of_lt_of_le (AH.lt_cells hb3) e4.1
 generalize H4.new (.cells (rwC w0.at_.toI q lv 0) none)=H5 at *
 generalize hb8:H4.next=b8 at *
 refine LoopL.ind (fun m ls H'=>∃ (w:WayD) (q:PlaceI) (lv:Value),m=w.need/\ls=[ptr t 0,vb follow,ptr (H.next+1) 0,ptr (H.next+1+1) 0,ptr b8 0,vb (endsSlash path)]/\Ext H H'/\w.links<=8/\walkW T M (follow||endsSlash path) w=walkW T M (follow||endsSlash path) w0 /\
  H'.get b8 = .cells (rwC w.at_.toI q lv w.links) none/\Rows H' 1 lv (strR w.left)/\H'.get (H.next+1) = .cells [vi 0,vi 0] none/\H'.get (H.next+1+1) = .cells [vi 0,vi 0] none/\w.need<=5000) ?_ w0.need
  ⟨w0,q,lv,rfl,rfl,x3.trans e5,by omega,rfl,by rw [hlk0]; exact hb5,r5,e5.cells hb2,e5.cells hb3,by unfold WayD.need; omega⟩
 rintro m _ H6 X hX ⟨w,q,lv,rfl,rfl,e6,hlk,hww,hb6,r6,m2,m3,hlt⟩
 have hlv:=r6.lenSlc
 rw [show (strR w.left).length=w.left.length by simp [strR]] at hlv
 have c4:(H6.get b8).cell 4=some lv:=by rw [hb6]; rfl
 have c1:(H6.get b8).cell 1=some (vi (w.at_.i.toNat:Int)):=by rw [hb6]; rfl
 have h6:=h.mono e6
 cases hleft:w.left with
 | nil =>
  rw [walkW_nil _ hleft] at hww
  rw [<- hww] at hQ
  simp only [ne_eq,not_true,if_false] at hQ
  have hz:(w.left.length:Int)=0:=by rw [hleft]; rfl
  simp only [F.f66_l1,c4,hlv,hz,i64_gtr,gt_iff_lt,Int.lt_irrefl,decide_false,c1,stdZ]
  refine h6.node hE w.at_.i fun bb oo y H7 e7 hn =>?_
  obtain ⟨d0,_⟩:=hn.cell
  have k0:=kind0 (T.node w.at_.i).kind
  by_cases hk:(T.node w.at_.i).kind=0#8
  ·rw [if_pos hk] at hQ
   have kv:vi ((T.node w.at_.i).kind.toNat:Int)=vi 0:=by rw [hk]; rfl
   simp only [d0,kv,i64_eql,decide_true,z2a,bz,stdZ]
   exact ransw (e7.cells m2) (e7.cells m3) rfl rfl (by omega) (by omega) (by omega) (e6.trans e7) PlaceI.zero PlaceI.zero _ fun H' e=>hQ _ H' e
  rw [if_neg hk] at hQ
  have lo0:∀ {H'},Ext H6 H'->loadN 2 (ptr b8 0) H'=some w.at_.toI.v:=fun e=>by rw [loadN_ptr,e.cells hb6]; rfl
  have lo2:∀ {H'},Ext H6 H'->loadN 2 (ptr b8 2) H'=some q.v:=fun e=>by rw [loadN_ptr,e.cells hb6]; rfl
  have fin:∀ H8,Ext H6 H8->(∀ q H',Ext H H'->Q (.tuple #[w.at_.toI.v,PlaceI.v q,vi 0]) H') ->
    opt (loadN 2 (ptr b8 0) H8) fun v39=>opt (loadN 2 (ptr b8 2) H8) fun v41=>opt (storeN 2 (ptr (H.next+1) 0) v39 H8) fun H16=>loadN 2 (ptr b8 2) H16=loadN 2 (ptr b8 2) H8/\opt (storeN 2 (ptr (H.next+1+1) 0) v41 H16) fun H17=>opt (loadN 2 (ptr (H.next+1) 0) H17) fun v42=>opt (loadN 2 (ptr (H.next+1+1) 0) H17) fun v43=>Q (.tuple #[v42,v43,(.int .i64 0)]) H17:=by
   intro H8 e8 hQ
   have:=ransw (H0:=H) (Q:=Q) (e8.cells m2) (e8.cells m3) rfl rfl (by omega) (by omega) (by omega) (e6.trans e8) w.at_.toI q (.int .i64 0) fun H' e=>hQ q H' e
   have hs:storeN 2 (ptr (H.next+1) 0) w.at_.toI.v H8=some (H8.put (H.next+1) (.cells w.at_.toI.cells none)):=by rw [storeN_ptr,e8.cells m2]; rfl
   simp only [lo0 e8,lo2 e8,hs,stdZ] at this ⊢
   refine ⟨?_,this⟩
   rw [loadN_ptr,AH.get_put_ne _ _ (by omega),e8.cells hb6]; rfl
  cases hes:endsSlash path with
  | false =>
   rw [hes] at hQ
   rw [if_neg (by simp)] at hQ
   have:=fin H7 e7 hQ
   simp only [d0,i64_eql,k0,hk,decide_false,lo0 e7,lo2 e7,stdZ] at this ⊢
   exact this
  | true =>
   rw [hes] at hQ
   simp only [d0,i64_eql,k0,hk,decide_false,lo0 e7,stdZ]
   refine S.rDir hE (h6.mono e7) w.at_ fun H8 e8 =>?_
   have e68:=e7.trans e8
   cases hd:dirP T M w.at_ with
   | true =>
    rw [if_neg (by simp [hd])] at hQ
    have:=fin H8 e68 hQ
    simp only [lo0 e68,lo2 e68,stdZ] at this ⊢
    exact this
   | false =>
    rw [if_pos (by simp [hd])] at hQ
    simp only [z2a,bz,stdZ]
    exact ransw (e68.cells m2) (e68.cells m3) rfl rfl (by omega) (by omega) (by omega) (e6.trans e68) PlaceI.zero PlaceI.zero _ fun H' e=>hQ _ H' e
 | cons name left =>
  have hne:w.left≠[]:=by rw [hleft]; simp
  have hneed:w.left.length<=w.need:=by unfold WayD.need; omega
  have hpos:(0:Int)<(w.left.length:Nat):=by have:=List.length_pos_iff.2 hne; omega
  have hlo8:loadN 6 (ptr b8 0) H6=some (rwV w.at_.toI q lv w.links):=by rw [loadN_ptr,hb6]; rfl
  have hpk:∀ (K:Value->AH->Prop),K (vb (follow||endsSlash path)) H6->gd (vb follow) false (fun k=>k (vb (endsSlash path)) H6) H6 fun v5 H1=>opt (pick (vb follow) (.bool true) v5) fun v6=>K v6 H1:=by
   intro K hK
   cases follow <;> simpa using hK
  have hweq:(⟨w.at_,name :: left,w.links⟩:WayD)=w:=by rw [<- hleft]
  have hst7:=walkW_step (M:=M) lt (follow||endsSlash path) hne hlk
  have hnd7:=stepY_need (M:=M) lt (follow||endsSlash path) hne hlk
  have hll1:w.left.length=left.length+1:=by rw [hleft]; rfl
  have hll:left.length<2 ^ 36:=by omega
  simp only [F.f66_l1,c4,hlv,i64_gtr,gt_iff_lt,hpos,decide_true,hlo8,stdZ]
  refine hpk _ ?_
  refine S.rStep hE h6 wf kd w.at_ q lv name left w.links (hleft▸r6) hll (by omega) (follow||endsSlash path) fun q' lv' H7 e7 r7 =>?_
  rw [hweq] at r7 ⊢
  generalize stepY T M w (follow||endsSlash path)=st at *
  have hb7:=e7.cells hb6
  have hp7:=r7.plain
  have hst8:storeN 6 (ptr b8 0) (rwV st.1.at_.toI q' lv' st.1.links) H7=some (H7.put b8 (.cells (rwC st.1.at_.toI q' lv' st.1.links) none)):=by
   rw [storeN_ptr,hb7]
   have h1:(rwC st.1.at_.toI q' lv' st.1.links).length=6:=rfl
   have h2:(rwC st.1.at_.toI q' lv' st.1.links).all plain1=true:=by simp only [rwC,List.all_cons,hp7,List.all_nil]; rfl
   have h3:AM.splice (rwC w.at_.toI q lv w.links) 0 (rwC st.1.at_.toI q' lv' st.1.links)=rwC st.1.at_.toI q' lv' st.1.links:=rfl
   have h4:(rwC w.at_.toI q lv w.links).length=6:=rfl
   simp only [List.size_toArray,List.toList_toArray,h1,h2,h4,Nat.zero_add,Nat.le_refl,and_self,if_true,h3]
  have r8:=rows_put (c':=rwC st.1.at_.toI q' lv' st.1.links) r7 hb7 (rwC_nostr (r6.mono e7) _ _ _) rfl
  have hg8:=AH.get_put_self H7 (.cells (rwC st.1.at_.toI q' lv' st.1.links) none) (AH.lt_cells hb7)
  have m2':(H7.put b8 (.cells (rwC st.1.at_.toI q' lv' st.1.links) none)).get (H.next+1) = .cells [vi 0,vi 0] none:=by rw [AH.get_put_ne _ _ (by omega)]; exact e7.cells m2
  have m3':(H7.put b8 (.cells (rwC st.1.at_.toI q' lv' st.1.links) none)).get (H.next+1+1) = .cells [vi 0,vi 0] none:=by rw [AH.get_put_ne _ _ (by omega)]; exact e7.cells m3
  have x8:Ext H (H7.put b8 (.cells (rwC st.1.at_.toI q' lv' st.1.links) none)):=(e6.trans e7).put (by omega) _
  simp only [hst8,i64_neq,stdZ]
  generalize H7.put b8 (.cells (rwC st.1.at_.toI q' lv' st.1.links) none)=H8 at *
  by_cases h0:st.2=0
  ·rw [if_neg (by simpa using h0)] at hst7
   obtain ⟨n1,n2⟩:=hnd7 h0
   simp only [ne_eq,h0,not_true,decide_false,stdZ]
   exact hX _ n1 _ _ ⟨st.1,q',lv',rfl,rfl,x8,n2,by rw [<- hww,hst7],hg8,r8,m2',m3',by omega⟩
  ·rw [if_pos (by simpa using h0)] at hst7
   rw [<- hww,hst7,if_pos (by simpa using h0)] at hQ
   simp only [hzI] at hQ
   simp only [ne_eq,h0,not_false_eq_true,decide_true,z2a,bz,stdZ]
   exact ransw m2' m3' rfl rfl (by omega) (by omega) (by omega) x8 PlaceI.zero PlaceI.zero _ fun H' e=>hQ _ H' e
end
end Go.AM
end
section
namespace Go.AM
set_option maxRecDepth 20000
section
variable {X:List Res} {E:Sy} {H0 H H' H'':AH} {Q:Value->AH->Prop} {w t s:Nat} {T T':Tr} {M M':List MntD} {nx nx' k l:Int}
theorem S.f54 (hE:Fold E) (n:Nat) (hn:n<=40) (hQ:Q (vi ((2 ^ n:Nat):Int)) H):E.call (E.fid i.f54) [vi n] H Q:=by
 apply hE.f54
 have i0:(.int .i64 0:Value)=vi ((0:Nat):Int):=rfl
 have i1:(.int .i64 1:Value)=vi ((2 ^ 0:Nat):Int):=rfl
 simp only [F.f54]
 rw [i0,i1]
 refine LoopL.count n (fun j ls H'=>ls=[vi n,vi ((2 ^ j:Nat):Int),vi j]/\H'=H) ?_ ⟨rfl,rfl⟩
 rintro j _ H1 X hj hX ⟨rfl,rfl⟩
 rcases Nat.lt_or_ge j n with hjl | hjl
 ·have hX:=hX hjl
  have hjl':(j:Int)<n:=by omega
  have hp:2 ^ j<=2 ^ 40:=Nat.pow_le_pow_right (by decide) (by omega)
  have hm:binInt .mul (vi ((2 ^ j:Nat):Int)) (.int .i64 2)=some (vi ((2 ^ (j+1):Nat):Int)):=by
   show binInt .mul (vi ((2 ^ j:Nat):Int)) (vi 2)=_
   rw [Nat.pow_succ]
   generalize 2 ^ j=P at *
   rw [i64_mul (by omega) (by omega)]
   congr 2
  have hjj:=i64_inc (i:=j) (by omega)
  simp only [F.f54_l1,nth_0,nth_1,nth_2,i64_lss,hjl',decide_true,hm,stdZ]
  rw [hjj]
  simp only [stdZ]
  exact hX _ _ ⟨rfl,rfl⟩
 ·have:j=n:=by omega
  subst this
  have hjl':¬ (j:Int)<j:=by omega
  simp only [F.f54_l1,nth_0,nth_1,nth_2,i64_lss,hjl',decide_false,stdZ]
  exact hQ
theorem S.f53 (hE:Fold E) (x n:Nat) (hx:x<2 ^ 63) (hn:n<=40) (hQ:Q (vb (x.testBit n)) H):E.call (E.fid i.f53) [vi x,vi n] H Q:=by
 apply hE.f53
 simp only [F.f53]
 refine S.f54 hE n hn ?_
 have h1:=i64_quo_nat x (2 ^ n) (by have:=Nat.two_pow_pos n; omega) hx
 have h2:binInt .rem (vi ((x / 2 ^ n:Nat):Int)) (.int .i64 2)=some (vi ((x / 2 ^ n % 2:Nat):Int)):=i64_rem_nat _ 2 (by decide)
 have h3:x.testBit n=decide (((x / 2 ^ n % 2:Nat):Int)=1):=by
  rw [Nat.testBit_eq_decide_div_mod_eq,decide_eq_decide]; omega
 rw [h3] at hQ
 simp only [h1,h2,i64_eql,stdZ]
 exact hQ
theorem S.f55 (hE:Fold E) (x y:Nat) (hx:x<2 ^ 63) (hy:y<2 ^ 63) (hQ:∀ r:Bool,(r=true↔∀ k,k<16->x.testBit k=true->y.testBit k=true)->Q (vb r) H):E.call (E.fid i.f55) [vi x,vi y] H Q:=by
 apply hE.f55
 have i0:(.int .i64 0:Value)=vi ((0:Nat):Int):=rfl
 simp only [F.f55]
 rw [i0]
 refine LoopL.count 16 (fun j ls H'=>ls=[vi x,vi y,vi j]/\H'=H/\∀ k,k<j->x.testBit k=true->y.testBit k=true) ?_ ⟨rfl,rfl,by simp⟩
 rintro j _ H1 X hj hX ⟨rfl,rfl,ha⟩
 rcases Nat.lt_or_ge j 16 with hjl | hjl
 ·have hX:=hX hjl
  have hjl':(j:Int)<16:=by omega
  have hjj:=i64_inc (i:=j) (by omega)
  simp only [F.f55_l1,nth_0,nth_1,nth_2,i64_lss,hjl',decide_true,stdZ]
  refine S.f53 hE x j hx (by omega) ?_
  cases h1:x.testBit j with
  | false =>
   simp only [stdZ]
   rw [hjj]
   simp only [stdZ]
   refine hX _ _ ⟨rfl,rfl,fun k hk hb =>?_⟩
   rcases Nat.lt_or_ge k j with h | h
   ·exact ha k h hb
   ·have:k=j:=by omega
    subst this; rw [h1] at hb; cases hb
  | true =>
   simp only [stdZ]
   refine S.f53 hE y j hy (by omega) ?_
   cases h2:y.testBit j with
   | false =>
    simp only [stdZ]
    refine hQ false ⟨fun h=>(Bool.noConfusion h:False).elim,fun h =>?_⟩
    have:=h j hjl h1
    rw [h2] at this; cases this
   | true =>
    simp only [stdZ]
    rw [hjj]
    simp only [stdZ]
    refine hX _ _ ⟨rfl,rfl,fun k hk hb =>?_⟩
    rcases Nat.lt_or_ge k j with h | h
    ·exact ha k h hb
    ·have:k=j:=by omega
     subst this; exact h2
 ·have:j=16:=by omega
  subst this
  have hjl':¬ (((16:Nat):Int)<16):=by omega
  simp only [F.f55_l1,nth_0,nth_1,nth_2,i64_lss,hjl',decide_false,stdZ]
  exact hQ true ⟨fun _=>ha,fun _=>rfl⟩
theorem within16 {r m:BitVec 16}:(∀ k,k<16->r.toNat.testBit k=true->m.toNat.testBit k=true)↔r &&& ~~~m=0#16:=by
 rw [sub_iff]
 constructor
 ·intro h i hi
  exact h i (BitVec.lt_of_getLsbD hi) hi
 ·intro h i _ hi
  exact h i hi
def placeIR (l:List PlaceD):List (List Value):=l.map fun p=>p.toI.cells
theorem placeIR_length (l:List PlaceD):(placeIR l).length=l.length:=by simp [placeIR]
theorem hereP_take (n m:BitVec 16) (l:List PlaceD) {j:Nat} (h:j<l.length):hereP n (l.take (j+1)) m=(hereP n (l.take j) m||decide ((l[j]).i=m)):=by
 unfold hereP
 rw [List.take_succ_eq_append_getElem h,List.any_append]
 simp [Bool.or_assoc]
theorem granted_l2 (hE:Fold E) (v:Value) (above:List PlaceD) (hv:Rows H 2 v (placeIR above)) (hl:above.length<2 ^ 62) (n m:BitVec 16) {a b:Nat} {pt:List UInt8} {r out:BitVec 16} {c:Int} (ha:H.get a = .cells [str pt,u16 r] none) (hb:H.get b = .cells [vi c,vi (m.toNat:Int)] none)
  {X0:List Value->AH->Prop} {t1 t2 pv:Value} {j ln:Nat} (hj:j<2 ^ 62)
  (next:∀ H',Ext H H'->X0 [t1,t2,v,u16 (if hereP n above m=true then out|||r else out),pv,vi ln,vi ((j+1:Nat):Int)] H') :
  LoopL (fun l H X1=>F.f51_l2 E Q X0 (nth l 0) (nth l 1) (nth l 2) (nth l 3) (nth l 4) (nth l 5) (nth l 6) (nth l 7) (nth l 8) (nth l 9) (nth l 10) (nth l 11) (nth l 12) H X1) [t1,t2,v,u16 out,ptr a 0,ptr b 0,vb (decide (m=n)),pv,vi ln,vi j,v,vi above.length,(.int .i64 0)] H:=by
 have i0:(.int .i64 0:Value)=vi ((0:Nat):Int):=rfl
 have hjj:=i64_inc (i:=j) (by omega)
 rw [i0]
 refine LoopL.count above.length (fun q ls H'=>ls=[t1,t2,v,u16 out,ptr a 0,ptr b 0,vb (hereP n (above.take q) m),pv,vi ln,vi j,v,vi above.length,vi q]/\Ext H H') ?_ ⟨by simp [hereP],Ext.refl _⟩
 rintro q _ H1 X1 hq hX ⟨rfl,e1⟩
 rcases Nat.lt_or_ge q above.length with hql | hql
 ·have hX:=hX hql
  have hql':(q:Int)<above.length:=by omega
  have hqq:=i64_inc (i:=q) (by omega)
  obtain ⟨bb,o,p1,p2⟩:=(hv.mono e1).ix (i:=q) (by rw [placeIR_length]; exact hql)
  have hrow:(placeIR above)[q]'(by rw [placeIR_length]; exact hql)=(above[q]).toI.cells:=by simp [placeIR]
  rw [hrow] at p2
  rw [hereP_take n m above hql] at hX
  generalize above[q]=p at *
  have hlo:loadN 2 (ptr bb o) H1=some p.toI.v:=by rw [loadN_ptr,p2]; rfl
  have hz:([(.int .i64 0),(.int .i64 0)]:List Value)=[vi 0,vi 0]:=rfl
  have hst:storeN 2 (ptr H1.next 0) p.toI.v (H1.new (.cells [vi 0,vi 0] none))=some (H1.new (.cells p.toI.cells none)):=two_store rfl rfl rfl
  have x2:Ext H1 (H1.new (.cells p.toI.cells none)):=(Ext.refl _).new _
  have hb2:=AH.get_new_self H1 (.cells p.toI.cells none)
  have c1:(p.toI.cells)[1]? = some (vi (p.i.toNat:Int)):=rfl
  have hbb:=x2.cells (e1.cells hb)
  have heq:decide (((p.i).toNat:Int)=(m.toNat:Int))=decide (p.i=m):=by
   rw [decide_eq_decide]
   exact ⟨fun h=>BitVec.eq_of_toNat_eq (by omega),fun h=>by rw [h]⟩
  simp only [F.f51_l2,i64_lss,hql',decide_true,p1,hlo,hz,allocW_eq,hst,stdZ]
  generalize H1.new (.cells p.toI.cells none)=H2 at *
  cases hh:hereP n (above.take q) m with
  | true =>
   rw [hh] at hX
   simp only [hqq,stdZ]
   exact hX _ _ ⟨rfl,e1.trans x2⟩
  | false =>
   rw [hh] at hX
   simp only [hb2,hbb,c1,i64_eql,heq,hqq,stdZ]
   exact hX _ _ ⟨rfl,e1.trans x2⟩
 ·have hql':¬ (q:Int)<above.length:=by omega
  rw [List.take_of_length_le hql]
  have haa:=e1.cells ha
  cases hh:hereP n above m with
  | true =>
   rw [hh] at next
   simp only [F.f51_l2,i64_lss,hql',decide_false,haa,u16_or,hjj,stdZ]
   exact next _ e1
  | false =>
   rw [hh] at next
   simp only [F.f51_l2,i64_lss,hql',decide_false,hjj,stdZ]
   exact next _ e1
theorem S.f51 (hE:Fold E) (h:RefW H t T M) (wf:T.WF) (kd:T.KD) (x:PolX) (cs:List Value) (hx:PolXAt H x cs) (hf:x.paths.length<2 ^ 62) (hpl:∀ b∈x.paths,b.1.length<2 ^ 62)
  (n:BitVec 16) (v:Value) (above:List PlaceD) (hv:Rows H 2 v (placeIR above)) (hvl:above.length<2 ^ 62)
  (hbad:(∃ b∈x.paths,badP T M b)->∀ H',Ext H H'->Q (.tuple #[u16 0#16,vb false]) H')
  (hok:(∀ b∈x.paths,¬ badP T M b)->∀ H',Ext H H'->Q (.tuple #[u16 (grantO T M n above x.paths),vb true]) H'):E.call (E.fid i.f51) [.agg cs.toArray,ptr t 0,vi (n.toNat:Int),v] H Q:=by
 apply hE.f51
 obtain ⟨rv,pv,qv,rfl,_,hp,_⟩:=hx
 have x1:Ext H (H.new (.cells [str x.name,u32 x.pol.default,rv,u16 x.handled,pv,qv] none)):=(Ext.refl H).new _
 have hb1:=AH.get_new_self H (.cells [str x.name,u32 x.pol.default,rv,u16 x.handled,pv,qv] none)
 have c4:([str x.name,u32 x.pol.default,rv,u16 x.handled,pv,qv]:List Value)[4]? = some pv:=rfl
 have hlv:=hp.lenSlc
 rw [List.length_map] at hlv
 have i0:(.int .i64 0:Value)=vi ((0:Nat):Int):=rfl
 have u0:(.int .u16 0:Value)=u16 0#16:=rfl
 simp only [F.f51,boxO_agg_z,AM.mk_some,mkPtr_eq_z,List.toList_toArray,hb1,c4,hlv,stdZ]
 generalize H.new (.cells [str x.name,u32 x.pol.default,rv,u16 x.handled,pv,qv] none)=H1 at *
 rw [i0,u0]
 refine LoopL.count x.paths.length (fun j ls H'=>ls=[ptr t 0,vi (n.toNat:Int),v,u16 (grantO T M n above (x.paths.take j)),pv,vi x.paths.length,vi j]/\Ext H H'/\∀ b∈x.paths.take j,¬ badP T M b) ?_ ⟨rfl,x1,by simp⟩
 rintro j _ H2 X0 hj hX ⟨rfl,e2,ha⟩
 rcases Nat.lt_or_ge j x.paths.length with hjl | hjl
 rotate_left
 ·have hjl':¬ (j:Int)<x.paths.length:=by omega
  rw [List.take_of_length_le hjl] at ha ⊢
  simp only [F.f51_l1,i64_lss,hjl',decide_false,stdZ]
  exact hok ha _ e2
 have hX:=hX hjl
 have hjl':(j:Int)<x.paths.length:=by omega
 obtain ⟨bb,o,p1,p2⟩:=(hp.mono e2).ix (i:=j) (by simpa using hjl)
 rw [List.getElem_map] at p2
 have hmem:=List.getElem_mem hjl
 have hbl:=hpl _ hmem
 have htk:x.paths.take (j+1)=x.paths.take j++[x.paths[j]]:=List.take_succ_eq_append_getElem hjl
 rw [htk] at hX
 have hbad':badP T M x.paths[j]->∃ b∈x.paths,badP T M b:=fun h=>⟨_,hmem,h⟩
 generalize x.paths[j]=b at *
 have hlo:loadN 2 (ptr bb o) H2=some (.agg #[str b.1,u16 b.2]):=by rw [loadN_ptr,p2]; rfl
 have hst:storeN 2 (ptr H2.next 0) (.agg [str b.1,u16 b.2].toArray) (H2.new (.cells [str [],u16 0#16] none))=some (H2.new (.cells [str b.1,u16 b.2] none)):=two_store rfl rfl rfl
 have z1:([(.string ⟨#[]⟩),(.int .u16 0)]:List Value)=[str [],u16 0#16]:=rfl
 have z2:([(.int .i64 0),(.int .i64 0)]:List Value)=[vi 0,vi 0]:=rfl
 have x3:Ext H2 (H2.new (.cells [str b.1,u16 b.2] none)):=(Ext.refl _).new _
 have hb3:=AH.get_new_self H2 (.cells [str b.1,u16 b.2] none)
 simp only [F.f51_l1,i64_lss,hjl',decide_true,p1,hlo,z1,z2,allocW_eq,hst,stdZ]
 generalize hA:H2.next=A at *
 generalize H2.new (.cells [str b.1,u16 b.2] none)=H3 at *
 have hlt3:=AH.lt_cells hb3
 have c0:([str b.1,u16 b.2]:List Value)[0]? = some (str b.1):=rfl
 have c1:([str b.1,u16 b.2]:List Value)[1]? = some (u16 b.2):=rfl
 simp only [hb3,c0,allocW_eq,z2,stdZ]
 have x4:Ext H3 (H3.new (.cells [vi 0,vi 0] none)):=(Ext.refl _).new _
 have hb4:=AH.get_new_self H3 (.cells [vi 0,vi 0] none)
 generalize H3.new (.cells [vi 0,vi 0] none)=H4 at *
 have hlt4:=AH.lt_cells hb4
 have x5:Ext H4 (H4.new (.cells [vi 0,vi 0] none)):=(Ext.refl _).new _
 have hb5:=AH.get_new_self H4 (.cells [vi 0,vi 0] none)
 generalize H4.new (.cells [vi 0,vi 0] none)=H5 at *
 have hlt5:=AH.lt_cells hb5
 have e25:=e2.trans (x3.trans (x4.trans x5))
 refine S.rTop hE fun H6 e6 =>?_
 have e26:=e25.trans e6
 refine ⟨(e6.cells hb5).trans hb5.symm,((x5.trans e6).cells hb4).trans hb4.symm,?_⟩
 have k3:=((x4.trans (x5.trans e6)).cells hb3)
 simp only [k3,hb3,stdZ]
 refine ⟨trivial,?_⟩
 refine S.rFind hE (h.mono e26) wf kd topP b.1 hbl true fun q H7 e7 =>?_
 have e27:=e26.trans e7
 have e57:=e6.trans e7
 refine ⟨(e57.cells hb5).trans hb5.symm,((x5.trans e57).cells hb4).trans hb4.symm,?_⟩
 have k4:=(x5.trans e57).cells hb4
 have k5:=e57.cells hb5
 have s1:storeN 2 (ptr H3.next 0) (findW T M topP b.1 true).1.toI.v H7=some (H7.put H3.next (.cells (findW T M topP b.1 true).1.toI.cells none)):=by rw [storeN_ptr,k4]; rfl
 have k5':(H7.put H3.next (.cells (findW T M topP b.1 true).1.toI.cells none)).get H4.next = .cells [vi 0,vi 0] none:=by rw [AH.get_put_ne _ _ (by omega)]; exact k5
 have s2:storeN 2 (ptr H4.next 0) q.v (H7.put H3.next (.cells (findW T M topP b.1 true).1.toI.cells none))=some ((H7.put H3.next (.cells (findW T M topP b.1 true).1.toI.cells none)).put H4.next (.cells q.cells none)):=by rw [storeN_ptr,k5']; rfl
 have hA2:=e2.1
 have x8:Ext H ((H7.put H3.next (.cells (findW T M topP b.1 true).1.toI.cells none)).put H4.next (.cells q.cells none)):=(e27.put (by omega) _).put (by omega) _
 have k8:((H7.put H3.next (.cells (findW T M topP b.1 true).1.toI.cells none)).put H4.next (.cells q.cells none)).get H3.next = .cells (findW T M topP b.1 true).1.toI.cells none:=by
  rw [AH.get_put_ne _ _ (by omega)]; exact AH.get_put_self _ _ (AH.lt_cells k4)
 have k9:((H7.put H3.next (.cells (findW T M topP b.1 true).1.toI.cells none)).put H4.next (.cells q.cells none)).get A = .cells [str b.1,u16 b.2] none:=by
  rw [AH.get_put_ne _ _ (by omega),AH.get_put_ne _ _ (by omega)]; exact e7.cells k3
 simp only [s1,s2,i64_neq,stdZ]
 generalize (H7.put H3.next (.cells (findW T M topP b.1 true).1.toI.cells none)).put H4.next (.cells q.cells none)=H8 at *
 by_cases hc:(findW T M topP b.1 true).2=0
 rotate_left
 ·simp only [ne_eq,hc,not_false_eq_true,decide_true,stdZ]
  exact hbad (hbad' (.inl hc)) _ x8
 have d1:((findW T M topP b.1 true).1.toI.cells)[1]? = some (vi ((findW T M topP b.1 true).1.i.toNat:Int)):=rfl
 simp only [ne_eq,hc,not_true,decide_false,k8,d1,stdZ]
 refine (h.mono x8).node hE _ fun b9 o9 y H9 e9 hn =>?_
 obtain ⟨d0,_⟩:=hn.cell
 have k2:decide (((T.node (findW T M topP b.1 true).1.i).kind.toNat:Int)=2)=decide ((T.node (findW T M topP b.1 true).1.i).kind=2#8):=by
  rw [decide_eq_decide]
  exact ⟨fun h=>BitVec.eq_of_toNat_eq (by simp; omega),fun h=>by rw [h]; rfl⟩
 have k2n:decide (¬ ((T.node (findW T M topP b.1 true).1.i).kind.toNat:Int)=2) = !decide ((T.node (findW T M topP b.1 true).1.i).kind=2#8):=by
  rw [<- k2]; simp
 have e19:=x8.trans e9
 have hfin:∀ H',Ext H9 H'->¬ badP T M b->LoopL (fun l H X1=>F.f51_l2 E Q X0 (nth l 0) (nth l 1) (nth l 2) (nth l 3) (nth l 4) (nth l 5) (nth l 6) (nth l 7) (nth l 8) (nth l 9) (nth l 10) (nth l 11) (nth l 12) H X1) [ptr t 0,vi (n.toNat:Int),v,u16 (grantO T M n above (x.paths.take j)),ptr A 0,ptr H3.next 0,vb (decide (placeF T M b=n)),pv,vi x.paths.length,vi j,v,vi above.length,(.int .i64 0)] H':=by
  intro H' e' hg
  refine granted_l2 hE v above (hv.mono (e19.trans e')) hvl n (placeF T M b) ((e9.trans e').cells k9) ((e9.trans e').cells k8) (by omega) fun H'' e''=>hX _ _ ⟨?_,e19.trans (e'.trans e''),?_⟩
  ·unfold grantO
   rw [List.foldl_append]
   rfl
  ·intro y hy
   rcases List.mem_append.1 hy with hy | hy
   ·exact ha y hy
   ·simp only [List.mem_singleton] at hy; subst hy; exact hg
 have hln:=hv.lenSlc
 rw [placeIR_length] at hln
 have heq:decide (((findW T M topP b.1 true).1.i.toNat:Int)=(n.toNat:Int))=decide (placeF T M b=n):=by
  rw [decide_eq_decide]
  exact ⟨fun h=>BitVec.eq_of_toNat_eq (by unfold placeF; omega),fun h=>by rw [<- h]; rfl⟩
 cases hk:decide ((T.node (findW T M topP b.1 true).1.i).kind=2#8) with
 | true =>
  have hg:¬ badP T M b:=by
   rintro (h | h)
   ·exact h hc
   ·exact h.1 (of_decide_eq_true hk)
  simp only [d0,i64_neq,ne_eq,k2n,hk,e9.cells k8,d1,i64_eql,heq,hln,stdZ]
  exact hfin _ (Ext.refl _) hg
 | false =>
  have hcv:convInt .i64 (u16 b.2)=some (vi (b.2.toNat:Int)):=u16_to_i64 _
  have i31:(.int .i64 1031:Value)=vi ((1031#16).toNat:Int):=rfl
  simp only [d0,i64_neq,ne_eq,k2n,hk,e9.cells k9,c1,hcv,i31,stdZ]
  refine S.f55 hE b.2.toNat (1031#16).toNat (by have:=b.2.isLt; omega) (by decide) fun r hr =>?_
  rw [within16] at hr
  cases r with
  | false =>
   simp only [stdZ]
   refine hbad (hbad' (.inr ⟨of_decide_eq_false hk,fun h =>?_⟩)) _ e19
   have:=hr.2 h
   cases this
  | true =>
   have hg:¬ badP T M b:=by
    rintro (h | h)
    ·exact h hc
    ·exact h.2 (hr.1 rfl)
   simp only [e9.cells k8,d1,i64_eql,heq,hln,stdZ]
   exact hfin _ (Ext.refl _) hg
end
end Go.AM
end
section
namespace Go.AM
set_option maxRecDepth 20000
section
variable {X:List Res} {E:Sy} {H0 H H' H'':AH} {Q:Value->AH->Prop} {w t s:Nat} {T T':Tr} {M M':List MntD} {nx nx' k:Int} {d:SetD} {v dv:Value}
theorem nilD:binNil eqPtr .eql (.pointer none) (.pointer none)=some (vb true):=rfl
theorem above_289 (T:Tr) (M:List MntD):∀ (f:Nat) (p:PlaceD),(aboveN T M f p).length<=f
 | 0,p=>by simp [aboveN]
 | f+1,p=>by
  rw [aboveN]
  cases nextA T M p with
  | none=>simp
  | some q=>have:=above_289 T M f q; simp only [List.length_cons]; omega
theorem aboveW_len (T:Tr) (M:List MntD) (p:PlaceD):(aboveW T M p).length<=289:=by
 unfold aboveW
 split
 ·exact above_289 T M 289 p
 ·simp
end
end Go.AM
end
section
namespace Go.AM
set_option maxRecDepth 20000
section
variable {X:List Res} {E:Sy} {H0 H H' H'':AH} {Q:Value->AH->Prop} {w t s:Nat} {T T':Tr} {M M':List MntD} {nx nx' k l:Int} {d:SetD}
theorem Rows.one {H:AH} {sz:Nat} {v:Value} {rows:List (List Value)} (h:Rows H sz v rows):vcells v=[v]/\defd v=true:=by
 rcases h.at_ with ⟨_,c,rfl⟩ | ⟨b,o,c,rfl,_⟩ <;> exact ⟨rfl,rfl⟩
theorem grants_l3 (hE:Fold E) (h:RefW H t T M) (wf:T.WF) (kd:T.KD) (x:PolX) (cs:List Value) (hx:PolXAt H x cs) (hcs:cs.length=6) (hf:x.paths.length<2 ^ 62) (hpl:∀ b∈x.paths,b.1.length<2 ^ 62) (hg:∀ b∈x.paths,¬ badP T M b)
  (hs:SetAt H s (x.set T M topP).1) (hfit:∀ b∈x.paths,b.2&&&2047#16=b.2) (want n:BitVec 16) {pb:Nat} (hpb:H.get pb = .cells cs none) (lv:Value) (pl:List PlaceD) (hl:Rows H 2 lv (placeR pl)) (hll:pl.length<2 ^ 40)
  {X0 X1:List Value->AH->Prop} {t2 t3 t11 t68 t90 t91:Value} {m:Nat} (hm:m<2 ^ 62)
  (next:∀ H',Ext H H'->X1 [t2,t3,u16 want,t11,ptr t 0,ptr pb 0,ptr s 0,u16 n,t68,t90,t91,vi ((m+1:Nat):Int)] H') :
  LoopL (fun l H X2=>F.f50_l3 E Q X0 X1 (nth l 0) (nth l 1) (nth l 2) (nth l 3) (nth l 4) (nth l 5) (nth l 6) (nth l 7) (nth l 8) (nth l 9) (nth l 10) (nth l 11) (nth l 12) (nth l 13) (nth l 14) (nth l 15) (nth l 16) H X2) [t2,t3,u16 want,t11,ptr t 0,ptr pb 0,ptr s 0,u16 n,lv,(.slice none 0 0),t68,t90,t91,vi m,lv,vi pl.length,(.int .i64 0)] H:=by
 have i0:(.int .i64 0:Value)=vi ((0:Nat):Int):=rfl
 have mm:=i64_inc (i:=m) (by omega)
 generalize hm1:m+1=m1 at *
 rw [i0]
 have g0:Has H H H [growR 2 nilS []]:=(Has.start (Ext.refl H)).nils 2
 refine LoopL.count pl.length (fun j ls H'=>∃ u,ls=[t2,t3,u16 want,t11,ptr t 0,ptr pb 0,ptr s 0,u16 n,lv,u,t68,t90,t91,vi m,lv,vi pl.length,vi j]/\Has H H H' [growR 2 u (placeIR (pl.take j))]) ?_ ⟨nilS,rfl,g0⟩
 rintro j _ H1 X2 hj hX ⟨u,rfl,g1⟩
 have e1:=g1.ext
 rcases Nat.lt_or_ge j pl.length with hjl | hjl
 ·have hX:=hX hjl
  have hjl':(j:Int)<pl.length:=by omega
  have hjj:=i64_inc (i:=j) (by omega)
  obtain ⟨b,o,p1,p2,_⟩:=PlaceD.elem (hl.mono e1) hjl
  have htk:placeIR (pl.take (j+1))=placeIR (pl.take j)++[(pl[j]).toI.cells]:=by
   unfold placeIR
   rw [List.take_succ_eq_append_getElem hjl,List.map_append]; rfl
  rw [htk] at hX
  generalize pl[j]=p at *
  have hz:([(.int .i64 0),(.int .u16 0)]:List Value)=PlaceD.zero.cells:=rfl
  have hst:storeN 2 (ptr H1.next 0) p.v (H1.new (.cells PlaceD.zero.cells none))=some (H1.new (.cells p.cells none)):=two_store rfl rfl rfl
  have g2:=g1.new (.cells p.cells none)
  have hb2:=AH.get_new_self H1 (.cells p.cells none)
  have c0:p.cells[0]? = some (vi p.m):=rfl
  have c1:p.cells[1]? = some (u16 p.i):=rfl
  have hcv:convInt .i64 (u16 p.i)=some (vi (p.i.toNat:Int)):=u16_to_i64 _
  have hbv:buildV [(0,1),(1,1)] #[(.int .i64 0),(.int .i64 0)] [(0,vi p.m),(1,vi (p.i.toNat:Int))]=some p.toI.v:=rfl
  have hbS:buildS 1 2 #[(.int .i64 0),(.int .i64 0)] [(0,p.toI.v)]=some (.cells p.toI.cells none,mkSlc 1 1):=buildS_one 2 [vi 0,vi 0] p.toI.cells rfl rfl
  simp only [F.f50_l3,nth_13,nth_14,nth_15,nth_16,i64_lss,hjl',decide_true,p1,p2,hz,allocW_eq,hst,stdZ]
  generalize H1.new (.cells p.cells none)=H2 at *
  obtain ⟨u',H4,a1,a2,g4⟩:=g2.app1 (k:=0) (bytes:=16) rfl p.toI.cells rfl rfl (by decide) (by decide) (by rw [placeIR_length,List.length_take]; omega)
  simp only [hb2,c0,c1,hcv,hbv,hbS,AM.mk_some,mkSlc_eq,a1,hjj,nth_13,nth_14,nth_15,nth_16,stdZ]
  exact hX _ _ ⟨u',rfl,g4⟩
 ·have hjl':¬ (j:Int)<pl.length:=by omega
  rw [List.take_of_length_le hjl] at g1
  have hpb1:=e1.cells hpb
  have hlo:∀ {H'},Ext H1 H'->loadN 6 (ptr pb 0) H'=some (.agg cs.toArray):=fun e=>by rw [loadN_ptr,e.cells hpb1,row_all _ _ 6 hcs]; rfl
  have hcn:convInt .i64 (u16 n)=some (vi (n.toNat:Int)):=u16_to_i64 _
  have r1:Rows H1 2 u (placeIR pl):=g1.rows (k:=0) rfl
  simp only [F.f50_l3,nth_13,nth_14,nth_15,nth_16,i64_lss,hjl',decide_false,hlo (Ext.refl _),hcn,stdZ]
  refine S.f51 hE (h.mono e1) wf kd x cs (hx.mono e1) hf hpl n u pl r1 (by omega) (fun ⟨b,hb,hbad⟩=>(hg b hb hbad).elim) fun _ H2 e2 =>?_
  have e12:=e1.trans e2
  simp only [stdZ]
  refine S.f93 hE (hs.mono e12) n lv pl (hl.mono e12) (by omega) fun H3 e3 =>?_
  have e13:=e12.trans e3
  rw [granted_eq x hfit hg]
  obtain ⟨rv,pv,qv,hcs',_⟩:=id hx
  have c3:cs[3]? = some (u16 x.handled):=by rw [hcs']; rfl
  have hp3:∀ {H'},Ext H1 H'->H'.get pb = .cells cs none:=fun e=>e.cells hpb1
  have hd:(x.set T M topP).1.denied want n pl=(want&&&x.handled) &&& ~~~ grantO T M n pl x.paths:=by
   unfold SetD.denied
   rw [granted_eq x hfit hg]; rfl
  simp only [u16_neq,ne_eq,not_true,decide_false,hp3 (e2.trans e3),c3,u16_and,u16_andNot,stdZ]
  refine S.f92 hE (hs.mono e13) want n lv pl (hl.mono e13) (by omega) fun H4 e4 =>?_
  rw [hd]
  simp only [hp3 (e2.trans (e3.trans e4)),hp3 (e2.trans e3),c3,u16_neq,ne_eq,not_true,decide_false,mm,stdZ]
  simp only [gdC_bool,forall_const,stdZ]
  first
   | exact next _ (e13.trans e4)
   | exact ⟨rfl,next _ (e13.trans e4)⟩
   | exact ⟨trivial,next _ (e13.trans e4)⟩
theorem grants_l2 (hE:Fold E) (h:RefW H t T M) (wf:T.WF) (kd:T.KD) (x:PolX) (cs:List Value) (hx:PolXAt H x cs) (hcs:cs.length=6) (hf:x.paths.length<2 ^ 62) (hpl:∀ b∈x.paths,b.1.length<2 ^ 62) (hg:∀ b∈x.paths,¬ badP T M b)
  (hs:SetAt H s (x.set T M topP).1) (hfit:∀ b∈x.paths,b.2&&&2047#16=b.2) (want n:BitVec 16) {pb:Nat} (hpb:H.get pb = .cells cs none) (av:Value) (ls:List (Value×List PlaceD)) (hav:Rows H 1 av (ls.map fun y=>[y.1])) (hlen:ls.length<2 ^ 40) (hls:∀ y∈ls,Rows H 2 y.1 (placeR y.2)/\y.2.length<2 ^ 40)
  {X0:List Value->AH->Prop} {t2 t3 t11:Value} {m:Nat} (hm:m<2 ^ 62)
  (next:∀ H',Ext H H'->X0 [t2,t3,u16 want,t11,ptr t 0,ptr pb 0,ptr s 0,vi ((m+1:Nat):Int)] H') :
  LoopL (fun l H X1=>F.f50_l2 E Q X0 (nth l 0) (nth l 1) (nth l 2) (nth l 3) (nth l 4) (nth l 5) (nth l 6) (nth l 7) (nth l 8) (nth l 9) (nth l 10) (nth l 11) H X1) [t2,t3,u16 want,t11,ptr t 0,ptr pb 0,ptr s 0,u16 n,vi m,av,vi ls.length,(.int .i64 0)] H:=by
 have i0:(.int .i64 0:Value)=vi ((0:Nat):Int):=rfl
 have mm:=i64_inc (i:=m) (by omega)
 generalize hm1:m+1=m1 at *
 rw [i0]
 refine LoopL.count ls.length (fun j l H'=>l=[t2,t3,u16 want,t11,ptr t 0,ptr pb 0,ptr s 0,u16 n,vi m,av,vi ls.length,vi j]/\Ext H H') ?_ ⟨rfl,Ext.refl _⟩
 rintro j _ H1 X1 hj hX ⟨rfl,e1⟩
 rcases Nat.lt_or_ge j ls.length with hjl | hjl
 ·have hX:=hX hjl
  have hjl':(j:Int)<ls.length:=by omega
  obtain ⟨b,o,p1,p2⟩:=(hav.mono e1).ix (i:=j) (by simpa using hjl)
  rw [List.getElem_map] at p2
  obtain ⟨q1,q2⟩:=hls _ (List.getElem_mem hjl)
  generalize ls[j]=y at *
  have p3:(H1.get b).cell o=some y.1:=by have:=row_at p2 (j:=0) (by omega); simpa using this
  have hl:=(q1.mono e1).lenSlc
  rw [placeR_length] at hl
  simp only [F.f50_l2,i64_lss,hjl',decide_true,p1,p3,hl,stdZ]
  exact grants_l3 hE (h.mono e1) wf kd x cs (hx.mono e1) hcs hf hpl hg (hs.mono e1) hfit want n (e1.cells hpb) y.1 y.2 (q1.mono e1) q2 (by omega) fun H2 e2=>hX _ _ ⟨rfl,e1.trans e2⟩
 ·have hjl':¬ (j:Int)<ls.length:=by omega
  have hlo:loadN 6 (ptr pb 0) H1=some (.agg cs.toArray):=by rw [loadN_ptr,e1.cells hpb,row_all _ _ 6 hcs]; rfl
  have hcn:convInt .i64 (u16 n)=some (vi (n.toNat:Int)):=u16_to_i64 _
  simp only [F.f50_l2,i64_lss,hjl',decide_false,hlo,hcn,stdZ]
  refine S.f51 hE (h.mono e1) wf kd x cs (hx.mono e1) hf hpl n _ [] (Rows.nil _ _ none) (by simp) (fun ⟨b,hb,hbad⟩=>(hg b hb hbad).elim) fun _ H2 e2 =>?_
  have e12:=e1.trans e2
  simp only [stdZ]
  refine S.f91 hE (hs.mono e12) n ?_
  have hd:(x.set T M topP).1.at_ n=grantO T M n [] x.paths:=granted_eq x hfit hg n []
  simp only [hd,u16_neq,ne_eq,not_true,decide_false,mm,stdZ]
  exact next _ e12
theorem S.f50 (hE:Fold E) (av:Value) (acts:List GActD) (hv:Rows H 14 av (acts.map GActD.cells)) (hll:acts.length<=9223372036854775807) (hok:∀ x∈acts,x.act.ok H) (x:Small) (cs:List Value) (hx:SmallAt H x cs) (n:BitVec 8) (pv:Value) (pl:List PlaceD) (hpv:Rows H 2 pv (placeR pl)) (want:BitVec 16) (hQ:∀ H',Q (vb true) H'):E.call (E.fid i.f50) [av,.agg cs.toArray,u8 n,pv,u16 want] H Q:=by
 apply hE.f50
 have x1:Ext H (H.new (.cells cs none)):=(Ext.refl _).new _
 have hb1:=AH.get_new_self H (.cells cs none)
 have hlen:cs.length=8:=by
  obtain ⟨v,pv,rv,qv,rfl,_⟩:=hx
  rfl
 simp only [F.f50,stdZ]
 generalize H.new (.cells cs none)=H1 at *
 refine S.f48 hE fun H2 e2 =>?_
 simp only [stdZ]
 have e12:=x1.trans e2
 refine S.f45 hE av acts (hv.mono e12) hll (fun x hx=>(hok x hx).mono e12) fun H3 e3 =>?_
 have e13:=e12.trans e3
 have hlp:=(hpv.mono e13).lenSlc
 rw [placeR_length] at hlp
 cases hl:lightL acts with
 | false =>
  simp only [stdZ]
  exact hQ _
 | true =>
 simp only [hlp,i64_gtr,gt_iff_lt,stdZ]
 by_cases h10:(10:Int)<pl.length
 ·simp only [h10,decide_true,stdZ]
  exact hQ _
 simp only [h10,decide_false,stdZ]
 refine S.f49 hE av acts (hv.mono e13) hll (fun x hx=>(hok x hx).mono e13) hl fun w t T M nx H4 h4 g =>?_
 have e14:=e13.trans h4.ext
 have hlo:loadN 8 (ptr H.next 0) H4=some (.agg cs.toArray):=by rw [loadN_ptr,(e2.trans (e3.trans h4.ext)).cells hb1,row_all _ _ 8 hlen]; rfl
 simp only [hlo,stdZ]
 refine S.f39 hE x cs (hx.sub e14.sub) fun H5 cp e5 hp =>?_
 have hcp:cp.length=6:=by
  obtain ⟨v,pv,qv,rfl,_⟩:=hp
  rfl
 have hcpp:cp.all plain1=true:=by
  obtain ⟨v,pv,qv,rfl,q1,q2,q3⟩:=hp
  obtain ⟨rows,q1,_⟩:=q1
  simp only [List.all_cons,q1.plain,q2.plain,q3.plain,List.all_nil,Bool.and_true,Bool.true_and]; rfl
 have hz6:([(.string ⟨#[]⟩),(.int .u32 0),(.slice none 0 0),(.int .u16 0),(.slice none 0 0),(.slice none 0 0)]:List Value).length=6:=rfl
 have hst:storeN 6 (ptr H5.next 0) (.agg cp.toArray) (H5.new (.cells [(.string ⟨#[]⟩),(.int .u32 0),(.slice none 0 0),(.int .u16 0),(.slice none 0 0),(.slice none 0 0)] none))=some (H5.new (.cells cp none)):=by
  rw [storeN_ptr,AH.get_new_self]
  have h3:AM.splice [(.string ⟨#[]⟩),(.int .u32 0),(.slice none 0 0),(.int .u16 0),(.slice none 0 0),(.slice none 0 0)] 0 cp=cp:=by simp [splice,hcp]
  simp only [List.size_toArray,List.toList_toArray,hcp,hcpp,hz6,Nat.zero_add,Nat.le_refl,and_self,if_true,h3,AH.new_put]
 have x6:Ext H5 (H5.new (.cells cp none)):=(Ext.refl _).new _
 have hb6:=AH.get_new_self H5 (.cells cp none)
 have hlo6:∀ {H'},Ext (H5.new (.cells cp none)) H'->loadN 6 (ptr H5.next 0) H'=some (.agg cp.toArray):=fun e=>by rw [loadN_ptr,e.cells hb6,row_all _ _ 6 hcp]; rfl
 simp only [allocW_eq,hst,hlo6 (Ext.refl _),stdZ]
 generalize hpb:H5.next=pb at *
 generalize H5.new (.cells cp none)=H6 at *
 refine S.f35 hE fun H7 e7 =>?_
 refine ⟨(hlo6 e7).trans (hlo6 (Ext.refl _)).symm,?_⟩
 have a7:=((h4.mono e5).mono x6).mono e7
 have e57:=x6.trans e7
 have hlq:=portsTo_len x x.ports.length
 have hlr:=pathsTo_len x x.paths.length
 have hpl:∀ b∈x.pol.paths,b.1.length<2 ^ 62:=by
  intro b hb
  have h1:=(pathsTo_ok x x.paths.length).2 b.1 (List.mem_map_of_mem hb)
  have:∀ y∈sdirs,y.length<2 ^ 62:=by decide
  exact this _ h1
 have hf:x.pol.paths.length<2 ^ 62/\x.pol.ports.length<2 ^ 62:=⟨by show (x.pathsTo x.paths.length).length<_; omega,by show (x.portsTo x.ports.length).length<_; omega⟩
 have hfit:=x.pol_fit
 have hcode:=set_code (T:=T) (M:=M) x.pol hfit
 have hr7:RefW H7 t T M:=a7.ref g
 have fin:∀ v v' H8,Ext H7 H8->((x.pol.set T M topP).2=0->∃ s,v=ptr s 0/\SetAt H8 s (x.pol.set T M topP).1)->((x.pol.set T M topP).2≠0->v = .pointer none)->v'=vi (x.pol.set T M topP).2 ->
   opt (loadN 6 (ptr pb 0) H8) fun v21 =>
   E.call (E.fid i.f51) [v21,ptr t 0,(.int .i64 0),(.slice none 0 0)] H8 fun v22 H13 =>
   opt (ext v22 0) fun v23=>opt (ext v22 1) fun v24=>opt (binInt .eql v' (.int .i64 0)) fun v25=>opt (binBool .neq v25 v24) fun v26 =>
   ifB v26 (Q (.bool false) H13) (opt (un .not v24) fun v27=>ifB v27 (opt (binNil eqPtr .eql v (.pointer none)) fun v28=>Q v28 H13) (
   LoopL (fun l H X0=>F.f50_l1 E Q (nth l 0) (nth l 1) (nth l 2) (nth l 3) (nth l 4) (nth l 5) (nth l 6) (nth l 7) H X0) [u8 n,pv,u16 want,ptr w 0,ptr t 0,ptr pb 0,v,(.int .i64 0)] H13)):=by
  intro v v' H8 e8 hgood hno hv'
  subst hv'
  simp only [hlo6 (e7.trans e8),stdZ]
  have hz0:(.int .i64 0:Value)=vi ((0#16).toNat:Int):=rfl
  have nilD:binNil eqPtr .eql (.pointer none) (.pointer none)=some (vb true):=rfl
  conv=>arg 3; rw [hz0]
  refine S.f51 hE (hr7.mono e8) g.wf g.kd x.pol cp (hp.mono (e57.trans e8)) hf.1 hpl 0#16 _ [] (Rows.nil _ _ none) (by simp) (fun hbad H9 e9 =>?_) fun hg H9 e9 =>?_
  ·have hc:(x.pol.set T M topP).2≠0:=fun h=>by
    obtain ⟨b,hb,hb2⟩:=hbad
    exact hcode.1 h b hb hb2
   have hbn:binBool .neq (vb false) (vb false)=some (vb false):=rfl
   simp only [i64_eql,hc,decide_false,hbn,hno hc,nilD,stdZ]
   exact hQ _
  ·have hc:=hcode.2 hg
   obtain ⟨s,rfl,hs⟩:=hgood hc
   have hbn:binBool .neq (vb true) (vb true)=some (vb false):=rfl
   simp only [i64_eql,hc,decide_true,hbn,stdZ]
   have e79:=e8.trans e9
   have i0:(.int .i64 0:Value)=vi ((0:Nat):Int):=rfl
   rw [i0]
   refine LoopL.count 10 (fun j l H'=>l=[u8 n,pv,u16 want,ptr w 0,ptr t 0,ptr pb 0,ptr s 0,vi j]/\Ext H9 H') ?_ ⟨rfl,Ext.refl _⟩
   rintro j _ HA X0 hj hX ⟨rfl,eA⟩
   have e7A:=e79.trans eA
   have e9A:=e9.trans eA
   have obA:HA.get pb = .cells cp none:=(e7.trans e7A).cells hb6
   obtain ⟨rv,ppv,qv,hcs',_⟩:=id hp
   have c3:cp[3]? = some (u16 x.pol.handled):=by rw [hcs']; rfl
   rcases Nat.lt_or_ge j 10 with hjl | hjl
   rotate_left
   ·have hjl':¬ (j:Int)<10:=by omega
    simp only [F.f50_l1,i64_lss,hjl',decide_false,obA,c3,stdZ]
    refine S.f94 hE (hs.mono e9A) ?_
    have:(x.pol.set T M topP).1.h=x.pol.handled:=rfl
    simp only [obA,c3,this,u16_eql,decide_true,forall_const,stdZ]
    first
     | exact hQ _
     | exact ⟨rfl,hQ _⟩
     | exact ⟨trivial,hQ _⟩
   have hX:=hX hjl
   have hjl':(j:Int)<10:=by omega
   obtain ⟨⟨p,m,L,q,nx',q1,q2,q3⟩,ho⟩:=(a7.mono e7A).at_
   have r1:convInt .i64 (u8 n)=some (vi (n.toNat:Int)):=u8_to_i64 _
   have r2:binInt .rem (vi (n.toNat:Int)) (.int .i64 3)=some (vi ((n.toNat % 3:Nat):Int)):=i64_rem_nat n.toNat 3 (by decide)
   have hm3:n.toNat % 3<3:=Nat.mod_lt _ (by decide)
   generalize n.toNat % 3=n3 at *
   have r3:binInt .add (vi (n3:Int)) (vi j)=some (vi ((n3+j:Nat):Int)):=by
    rw [i64_add (by omega) (by omega)]; congr 2
   have r4:convInt .u16 (vi ((n3+j:Nat):Int))=some (u16 (BitVec.ofNat 16 (n3+j))):=conv16 _
   have r5:binInt .add (.int .i64 1) (vi j)=some (vi ((1+j:Nat):Int)):=by
    show binInt .add (vi 1) (vi j)=_
    rw [i64_add (by omega) (by omega)]; congr 2
   have r6:convInt .u16 (vi ((1+j:Nat):Int))=some (u16 (BitVec.ofNat 16 (1+j))):=conv16 _
   generalize BitVec.ofNat 16 (n3+j)=nn at *
   have hbv:buildV [(0,1),(1,1)] #[(.int .i64 0),(.int .u16 0)] [(1,u16 (BitVec.ofNat 16 (1+j)))]=some (PlaceD.v ⟨0,BitVec.ofNat 16 (1+j)⟩):=rfl
   generalize PlaceD.mk 0 (BitVec.ofNat 16 (1+j))=pl0 at *
   simp only [F.f50_l1,i64_lss,hjl',decide_true,r1,r2,r3,r4,r5,r6,q1,hbv,stdZ]
   refine S.f31 hE q M nx' pl0 q3 g.pin.older fun HB eB =>?_
   generalize seen M pl0=ps at *
   have hz:([(.int .i64 0),(.int .u16 0)]:List Value)=PlaceD.zero.cells:=rfl
   have hst2:storeN 2 (ptr HB.next 0) ps.v (HB.new (.cells PlaceD.zero.cells none))=some (HB.new (.cells ps.cells none)):=two_store rfl rfl rfl
   have xC:Ext HB (HB.new (.cells ps.cells none)):=(Ext.refl _).new _
   have hbC:=AH.get_new_self HB (.cells ps.cells none)
   have hloC:loadN 2 (ptr HB.next 0) (HB.new (.cells ps.cells none))=some ps.v:=by rw [loadN_ptr,hbC]; rfl
   simp only [hz,allocW_eq,hst2,hloC,stdZ]
   generalize HB.new (.cells ps.cells none)=HC at *
   have e7C:=e7A.trans (eB.trans xC)
   refine S.f108 hE ((a7.mono e7C).at_) g.atOk ps fun v2 HD eD rD =>?_
   have e7D:=e7C.trans eD
   obtain ⟨c1,d1⟩:=hpv.one
   obtain ⟨c2,d2⟩:=rD.one
   have c0:vcells nilS=[nilS]:=rfl
   have d0:defd nilS=true:=rfl
   have hbs:buildS 3 1 #[nilS] [(0,nilS),(1,pv),(2,v2)]=some (.cells [nilS,pv,v2] none,mkSlc 3 3):=by
    have:=buildS_full 3 1 [nilS] [(0,nilS),(1,pv),(2,v2)] [nilS,pv,v2] rfl rfl rfl (by simp [d0,d1,d2]) (by
     intro y hy
     simp only [List.mem_cons,List.not_mem_nil,or_false] at hy
     rcases hy with rfl | rfl | rfl
     ·rw [c0]; rfl
     ·rw [c1]; rfl
     ·rw [c2]; rfl)
    simpa [c0,c1,c2] using this
   have zn:(.slice none 0 0:Value)=nilS:=rfl
   have xE:Ext HD (HD.new (.cells [nilS,pv,v2] none)):=(Ext.refl _).new _
   have hbE:=AH.get_new_self HD (.cells [nilS,pv,v2] none)
   have l3:AM.lenSlc (slc HD.next 0 3 3)=some (vi ((3:Nat):Int)):=rfl
   have hjj:=i64_inc (i:=j) (by omega)
   simp only [zn,hbs,AM.mk_some,mkSlc_eq,l3,stdZ]
   generalize HD.new (.cells [nilS,pv,v2] none)=HE at *
   have e7E:=e7D.trans xE
   have rE:Rows HE 1 (slc HD.next 0 3 3) ([(nilS,([]:List PlaceD)),(pv,pl),(v2,aboveW T M ps)].map fun y=>[y.1]):=Rows.made (rows:=[[nilS],[pv],[v2]]) hbE (.inl rfl) rfl (by simp)
   have hab:=aboveW_len T M ps
   have hplr:Rows HE 2 pv (placeR pl):=(hpv.mono (e14.trans (e5.trans e57))).mono e7E
   refine grants_l2 hE (hr7.mono e7E) g.wf g.kd x.pol cp (hp.mono (e57.trans e7E)) hcp hf.1 hpl hg (hs.mono (e9A.trans (eB.trans (xC.trans (eD.trans xE))))) hfit want nn ((e7.trans e7E).cells hb6) (slc HD.next 0 3 3) [(nilS,[]),(pv,pl),(v2,aboveW T M ps)] rE (by simp) ?_ (by omega) fun H' e'=>hX _ _ ⟨rfl,eA.trans (eB.trans (xC.trans (eD.trans (xE.trans e'))))⟩
   intro y hy
   simp only [List.mem_cons,List.not_mem_nil,or_false] at hy
   rcases hy with rfl | rfl | rfl
   ·exact ⟨Rows.nil _ _ none,by simp⟩
   ·exact ⟨hplr,by show pl.length<_; omega⟩
   ·exact ⟨rD.mono xE,by show (aboveW T M ps).length<_; omega⟩
 refine S.f90 hE a7.at_ g.wf (Tr.KD.lt g.kd) x.pol cp (hp.mono e57) ⟨by omega,by omega⟩ (fun b hb=>by have:=hpl b hb; omega) topP (fun hbad H8 e8 =>?_) fun hgood s H8 e8 _ hs =>?_
 ·exact fin _ _ H8 e8 (fun h=>(hbad h).elim) (fun _=>rfl) rfl
 ·exact fin (ptr s 0) (vi 0) H8 e8 (fun _=>⟨s,rfl,hs⟩) (fun h=>(h hgood).elim) (congrArg vi hgood.symm)
theorem S.law_RuleGrants (hE:Fold E) (args:List Value) (ha:ArgsSV H [.slice 14 gactSh,smallSh,.int .u8,.slice 2 PlaceD.sh,.int .u16] args) (hQ:∀ H',Q (vb true) H'):E.call (E.fid i.f50) args H Q:=by
 obtain ⟨v1,_,rfl,h1,ha⟩:=ha.cons_inv
 obtain ⟨v2,_,rfl,h2,ha⟩:=ha.cons_inv
 obtain ⟨v3,_,rfl,h3,ha⟩:=ha.cons_inv
 obtain ⟨v4,_,rfl,h4,ha⟩:=ha.cons_inv
 obtain ⟨v5,_,rfl,h5,ha⟩:=ha.cons_inv
 obtain rfl:=ha.nil_inv
 obtain ⟨l,q1,q2,q3⟩:=ArgSV.gacts h1
 obtain ⟨x,cs,rfl,q⟩:=ArgSV.small h2
 obtain ⟨x3,rfl⟩:=h3.u8
 obtain ⟨pl,g,_⟩:=PlaceD.ofSlice h4
 obtain ⟨x5,rfl⟩:=h5.u16
 exact S.f50 hE v1 l q1 q2 q3 x cs q x3 v4 pl g x5 hQ
end
end Go.AM
end
