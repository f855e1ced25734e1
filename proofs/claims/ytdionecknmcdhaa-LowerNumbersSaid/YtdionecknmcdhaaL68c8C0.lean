/- CONTRACTS ON THE PRINTED FUNCTIONS. -/
import Derived.Test.YtdionecknmcdhaaL68c8F
set_option linter.all false
section
namespace Go.AM
def byteAt {w:Nat} (n:BitVec w) (i:Nat):BitVec 8:=(n >>> (8*i)).setWidth 8
def bytes4 (w:BitVec 32):List (BitVec 8):=[byteAt w 0,byteAt w 1,byteAt w 2,byteAt w 3]
def bytesN (n:BitVec 64) (k:Nat):List (BitVec 8):=(List.range k).map (byteAt n)
def lo32 (n:BitVec 64):BitVec 32:=n.setWidth 32
def hi32 (n:BitVec 64):BitVec 32:=(n >>> 32).setWidth 32
theorem byteAt_get {w:Nat} (n:BitVec w) (i j:Nat):(byteAt n i).getLsbD j=(decide (j<8)&&n.getLsbD (8*i+j)):=by
 simp [byteAt,BitVec.getLsbD_setWidth,BitVec.getLsbD_ushiftRight]
theorem byteAt_lo (n:BitVec 64) (i:Nat) (h:i<4):byteAt (lo32 n) i=byteAt n i:=by
 apply BitVec.eq_of_getLsbD_eq
 intro j hj
 rw [byteAt_get,byteAt_get]
 simp [lo32,BitVec.getLsbD_setWidth,show 8*i+j<32 by omega]
theorem byteAt_hi (n:BitVec 64) (i:Nat) (h:i<4):byteAt (hi32 n) i=byteAt n (4+i):=by
 apply BitVec.eq_of_getLsbD_eq
 intro j hj
 rw [byteAt_get,byteAt_get]
 simp [hi32,BitVec.getLsbD_setWidth,BitVec.getLsbD_ushiftRight,show 8*i+j<32 by omega]
 rw [show 32+(8*i+j)=8*(4+i)+j by omega]
theorem byteAt_up (n:BitVec 32) (i:Nat) (h:i<4):byteAt (n.setWidth 64) i=byteAt n i:=by
 apply BitVec.eq_of_getLsbD_eq
 intro j hj
 rw [byteAt_get,byteAt_get]
 simp [BitVec.getLsbD_setWidth,show 8*i+j<64 by omega]
theorem bytesN_4 (n:BitVec 32):bytesN (n.setWidth 64) 4=bytes4 n:=by
 simp only [bytesN,List.range,List.range.loop,List.map,bytes4]
 rw [byteAt_up _ _ (by omega),byteAt_up _ _ (by omega),byteAt_up _ _ (by omega),byteAt_up _ _ (by omega)]
theorem bytesN_8 (n:BitVec 64):bytesN n 8=bytes4 (lo32 n)++bytes4 (hi32 n):=by
 simp only [bytesN,List.range,List.range.loop,List.map,bytes4,List.cons_append,List.nil_append]
 rw [byteAt_lo _ _ (by omega),byteAt_lo _ _ (by omega),byteAt_lo _ _ (by omega),byteAt_lo _ _ (by omega),byteAt_hi _ _ (by omega),byteAt_hi _ _ (by omega),byteAt_hi _ _ (by omega),byteAt_hi _ _ (by omega)]
def takeW (l:List (BitVec 8)):BitVec 64:=(l.zipIdx).foldl (fun (acc:BitVec 64) (p:BitVec 8×Nat)=>acc|||(p.1.setWidth 64 <<< (8*p.2))) 0#64
theorem takeW_snoc (l:List (BitVec 8)) (b:BitVec 8):takeW (l++[b])=takeW l|||(b.setWidth 64 <<< (8*l.length)):=by
 simp [takeW,List.zipIdx_append]
theorem takeW_get:∀ (n:Nat) (l:List (BitVec 8)),l.length=n->∀ p,p<64->(takeW l).getLsbD p=((l[p / 8]?).map fun b=>b.getLsbD (p % 8)).getD false:=by
 intro n
 induction n with
 | zero=>intro l hl p _; have:=List.eq_nil_of_length_eq_zero hl; subst this; simp [takeW]
 | succ n ih =>
  intro l hl p hp
  obtain ⟨l',b,rfl⟩:∃ l' b,l=l'++[b]:=by
   refine ⟨l.dropLast,l.getLast (by intro e; subst e; simp at hl),(List.dropLast_concat_getLast _).symm⟩
  have hn:l'.length=n:=by simpa using hl
  rw [takeW_snoc,BitVec.getLsbD_or,ih l' hn p hp,hn]
  by_cases h1:p / 8<n
  ·rw [List.getElem?_append_left (by omega)]
   have:¬ 8*n<=p:=by omega
   simp [BitVec.getLsbD_shiftLeft,show p<8*n by omega]
  ·rw [List.getElem?_eq_none (l:=l') (by omega)]
   by_cases h2:p / 8=n
   ·rw [List.getElem?_append_right (by omega),hn,h2]
    simp [BitVec.getLsbD_shiftLeft,BitVec.getLsbD_setWidth,hp,show ¬ p<8*n by omega,show p - 8*n<64 by omega]
    rw [show p - 8*n=p % 8 by omega]
   ·rw [List.getElem?_eq_none (by simp; omega)]
    simp [BitVec.getLsbD_shiftLeft,BitVec.getLsbD_setWidth,hp,show ¬ p<8*n by omega,show p - 8*n<64 by omega]
    exact BitVec.getLsbD_of_ge _ _ (by omega)
theorem takeW_bytes4 (n:BitVec 32):(takeW (bytes4 n)).setWidth 32=n:=by
 apply BitVec.eq_of_getLsbD_eq
 intro p hp
 rw [BitVec.getLsbD_setWidth,<- bytesN_4,takeW_get 4 _ (by simp [bytesN]) p (by omega)]
 simp only [bytesN]
 rw [List.getElem?_map,List.getElem?_range (by omega)]
 simp only [Option.map_some,Option.getD_some]
 rw [byteAt_get,BitVec.getLsbD_setWidth]
 simp [show p % 8<8 by omega,show 8*(p / 8)+p % 8=p by omega,hp,show p<64 by omega]
end Go.AM
end
section
namespace Go.AM
variable {E:Sy} {H:AH} {Q:Value->AH->Prop}
def afail (e:Int):BitVec 32:=327680#32|||BitVec.ofInt 32 (if 4095<(if 0 > e then 0 else e) then 4095 else (if 0 > e then 0 else e))
theorem S.f40 (hE:Fold E) (e:Int) (hQ:Q (u32 (afail e)) H):E.call (E.fid i.f40) [vi e] H Q:=by
 apply hE.f40
 simp [F.f40]
 exact hQ
end Go.AM
end
section
namespace Go.AM
variable {E:Sy} {H:AH} {Q:Value->AH->Prop}
def iclass (c:BitVec 16):BitVec 16:=c&&&7#16
theorem S.f8 (hE:Fold E) (c:BitVec 16) (hQ:Q (u16 (iclass c)) H):E.call (E.fid i.f8) [u16 c] H Q:=by
 apply hE.f8
 simp [F.f8]
 exact hQ
def inames:List (BitVec 16):=[32,0,96,128,1,97,129,2,3,6,22,7,135,5,132]
theorem S.f10_j3 (hE:Fold E) (c:BitVec 16) (t:Bool) (hQ:Q (vb (t&&decide (iclass c=5#16))) H):F.f10_j3 E Q (u16 c) (vb t) H:=by
 unfold F.f10_j3
 cases t with
 | false=>simpa using hQ
 | true =>
  simp only [ifB_true]
  apply S.f8 hE
  simp
  simpa using hQ
def iknown2 (c:BitVec 16):Bool:=[16,32,48,64].contains (c &&& ~~~((c&&&8#16)|||7#16))&&decide (iclass c=5#16)
theorem S.f10_j2 (hE:Fold E) (c:BitVec 16) (hQ:Q (vb (iknown2 c)) H):F.f10_j2 E Q (u16 c) (u16 (c&&&8#16)) H:=by
 simp [F.f10_j2]
 unfold iknown2 at hQ
 iterate 3
  refine ifB_split (fun h=>S.f10_j3 hE c (decide _) (by simpa [h] using hQ)) (fun h =>?_)
  try simp
 exact S.f10_j3 hE c (decide _) (by simpa [*] using hQ)
theorem S.f10_j4 (hE:Fold E) (c:BitVec 16) (t:Bool) (hQ:Q (vb ((t&&decide (iclass c=4#16))||iknown2 c)) H):F.f10_j4 E Q (u16 c) (u16 (c&&&8#16)) (vb t) H:=by
 unfold F.f10_j4
 cases t with
 | false=>exact S.f10_j2 hE c (by simpa using hQ)
 | true =>
  simp only [ifB_true]
  apply S.f8 hE
  simp
  refine ifB_split (fun h=>by simpa [h] using hQ) (fun h=>S.f10_j2 hE c (by simpa [h] using hQ))
def iknown1 (c:BitVec 16):Bool:=([0,16,32,48,64,80,96,112,160].contains (c &&& ~~~((c&&&8#16)|||7#16))&&decide (iclass c=4#16))||iknown2 c
theorem S.f10_j1 (hE:Fold E) (c:BitVec 16) (t:Bool) (hQ:Q (vb (t||iknown1 c)) H):F.f10_j1 E Q (u16 c) (vb t) H:=by
 unfold F.f10_j1
 cases t with
 | true=>simpa using hQ
 | false =>
  simp
  unfold iknown1 at hQ
  iterate 8
   refine ifB_split (fun h=>S.f10_j4 hE c (decide _) (by simpa [h] using hQ)) (fun h =>?_)
   try simp
  exact S.f10_j4 hE c (decide _) (by simpa [*] using hQ)
theorem S.f10 (hE:Fold E) (c:BitVec 16) (hQ:Q (vb (inames.contains c||iknown1 c)) H):E.call (E.fid i.f10) [u16 c] H Q:=by
 apply hE.f10
 simp [F.f10]
 unfold inames at hQ
 iterate 14
  refine ifB_split (fun h=>S.f10_j1 hE c (decide _) (by simpa [h] using hQ)) (fun h =>?_)
  try simp
 exact S.f10_j1 hE c (decide _) (by simpa [*] using hQ)
end Go.AM
end
section
namespace Go.AM
variable {E:Sy} {H:AH} {Q:Value->AH->Prop}
abbrev insnV (c:BitVec 16) (jt jf:BitVec 8) (k:BitVec 32):Value := .agg #[u16 c,u8 jt,u8 jf,u32 k]
theorem S.f11 (hE:Fold E) (k:BitVec 32) (hQ:∀ H',Ext H H'->Q (insnV 32 0 0 k) H'):E.call (E.fid i.f11) [u32 k] H Q:=by
 apply hE.f11
 simp [F.f11,splice,AH.get_new]
 exact hQ _ ((Ext.refl H).new _)
theorem S.f13 (hE:Fold E) (k:BitVec 32) (hQ:∀ H',Ext H H'->Q (insnV 6 0 0 k) H'):E.call (E.fid i.f13) [u32 k] H Q:=by
 apply hE.f13
 simp [F.f13,splice,AH.get_new]
 exact hQ _ ((Ext.refl H).new _)
theorem S.f14 (hE:Fold E) (k:BitVec 32) (hQ:∀ H',Ext H H'->Q (insnV 5 0 0 k) H'):E.call (E.fid i.f14) [u32 k] H Q:=by
 apply hE.f14
 simp [F.f14,splice,AH.get_new]
 exact hQ _ ((Ext.refl H).new _)
theorem S.f12 (hE:Fold E) (k:BitVec 32) (hQ:∀ H',Ext H H'->Q (insnV 84 0 0 k) H'):E.call (E.fid i.f12) [u32 k] H Q:=by
 apply hE.f12
 simp [F.f12,splice,AH.get_new]
 exact hQ _ ((Ext.refl H).new _)
theorem S.f9 (hE:Fold E) (c:BitVec 16) (k:BitVec 32) (jt jf:BitVec 8) (hQ:∀ H',Ext H H'->Q (insnV (5#16|||c|||0#16) jt jf k) H'):E.call (E.fid i.f9) [u16 c,u32 k,u8 jt,u8 jf] H Q:=by
 apply hE.f9
 simp [F.f9,splice,AH.get_new]
 simpa using hQ _ ((Ext.refl H).new _)
abbrev bytesV (l:List (BitVec 8)):Value := .agg (l.map u8).toArray
end Go.AM
end
section
namespace Go.AM
variable {E:Sy} {H:AH} {Q:Value->AH->Prop}
theorem splice_snoc (c l:List Value) (o:Nat) (v:Value) (h:o+l.length<c.length):(splice c o l).set (o+l.length) v=splice c o (l++[v]):=by
 simp only [splice,List.append_assoc]
 rw [List.set_append_right _ _ (by simp; omega)]
 rw [List.set_append_right _ _ (by simp; omega)]
 simp only [List.length_take,Nat.min_eq_left (by omega:o<=c.length)]
 rw [show o+l.length - o - l.length=0 by omega]
 rw [List.drop_eq_getElem_cons h]
 rw [List.set_cons_zero]
 simp [List.length_append,Nat.add_assoc]
theorem S.f44 (hE:Fold E) (b o n c:Nat) (x:BitVec 64) (k:Nat) (hk:k<=8) (hkn:k<=n) {cs:List Value} {f:Option Nat} (hb:H.get b = .cells cs f) (ho:o+k<=cs.length)
  (hQ:Q (.tuple #[]) (H.put b (.cells (splice cs o ((bytesN x k).map u8)) f))):E.call (E.fid i.f44) [slc b o n c,u64 x,vi k] H Q:=by
 apply hE.f44
 unfold F.f44
 have hlt:=AH.lt_cells hb
 refine LoopL.count k (fun i s H'=>H'=H.put b (.cells (splice cs o ((bytesN x i).map u8)) f)/\s=[slc b o n c,u64 x,vi k,vi i]) ?_ ⟨?_,rfl⟩
 ·rintro i _ _ X hi hX ⟨rfl,rfl⟩
  simp [F.f44_l1]
  refine ifB_split (fun h =>?_) (fun h =>?_)
  ·have hik:i<k:=by omega
   rw [i64_mul (by omega) (by omega)]
   have e8:(8:Int)*(i:Int)=((8*i:Nat):Int):=by omega
   simp only [opt_some,e8,u64_shr,u64_to_u8]
   rw [ixSlc_slc 1 b o n c i (by omega)]
   simp [AH.get_put,hlt,splice_length (show o+(List.map u8 (bytesN x i)).length<=cs.length by simp [bytesN]; omega),show o+i<cs.length by omega]
   rw [i64_inc (by omega)]
   refine hX hik _ _ ⟨?_,rfl⟩
   have:=splice_snoc cs ((bytesN x i).map u8) o (u8 (byteAt x i)) (by simp [bytesN]; omega)
   have e:(bytesN x (i+1))=bytesN x i++[byteAt x i]:=by simp [bytesN,List.range_succ]
   rw [e,List.map_append,List.map_cons,List.map_nil,<- this]
   simp [bytesN,byteAt]
  ·have:i=k:=by omega
   subst this; exact hQ
 ·simp [bytesN,splice]
  rw [<- hb]
  exact (AH.put_get H hlt).symm
theorem S.f45 (hE:Fold E) (v:Value) (l:List (BitVec 8)) (k:Nat) (hk:k<=l.length) (hk8:k<=8) (hV:Vals H v (l.map u8)) (hQ:Q (u64 (takeW (l.take k))) H) :
  E.call (E.fid i.f45) [v,vi k] H Q:=by
 apply hE.f45
 obtain ⟨v',e1,hV'⟩:=Vals.slice hV (lo:=none) (hi:=some (vi k)) (i:=0) (j:=k) (.inr ⟨rfl,rfl⟩) (.inl rfl) (by omega) (by simpa using hk)
 have e2:((l.map u8).take k).drop 0=(l.take k).map u8:=by simp
 rw [e2] at hV'
 have e3:=hV'.lenSlc
 have hlen:(l.take k).length=k:=by simp [hk]
 simp [F.f45,e1,e3,Nat.min_eq_left hk]
 refine LoopL.count k (fun i s H'=>H'=H/\s=[u64 (takeW ((l.take k).take i)),v',vi k,vi i]) ?_ ⟨rfl,by simp [takeW]⟩
 rintro i _ _ X hi hX ⟨rfl,rfl⟩
 simp only [F.f45_l1,nth_0,nth_1,nth_2,nth_3]
 simp
 refine ifB_split (fun h =>?_) (fun h =>?_)
 ·have hik:i<k:=by omega
  obtain ⟨b,o,f1,f2⟩:=Vals.elem hV' (i:=i) (by simp; omega)
  simp only [List.getElem_map] at f2
  simp only [f1,f2,opt_some,load1_ptr,u8_to_u64]
  rw [i64_mul (by omega) (by omega)]
  have e8:(8:Int)*(i:Int)=((8*i:Nat):Int):=by omega
  simp only [opt_some,e8,u64_shl,u64_or]
  rw [i64_inc (by omega)]
  refine hX hik _ _ ⟨rfl,?_⟩
  rw [List.take_succ_eq_append_getElem (by omega:i<(l.take k).length),takeW_snoc]
  have e9:((l.take k).take i).length=i:=by simp; omega
  rw [e9]
 ·have:i=k:=by omega
  subst this
  rw [List.take_take,Nat.min_self]; exact hQ
structure RecD where
 number:BitVec 32
 arch:BitVec 32
 at_:BitVec 64
 args:List (BitVec 64)
def RecD.ok (r:RecD):Prop:=r.args.length=6
def RecD.cells (r:RecD):List Value:=u32 r.number :: u32 r.arch :: u64 r.at_ :: r.args.map u64
abbrev RecD.v (r:RecD):Value := .agg r.cells.toArray
def RecD.words (r:RecD):List (BitVec 32):=r.number :: r.arch :: lo32 r.at_ :: hi32 r.at_ :: r.args.flatMap fun a=>[lo32 a,hi32 a]
def RecD.bytes (r:RecD):List (BitVec 8):=r.words.flatMap bytes4
theorem RecD.ok_cases {r:RecD} (h:r.ok):∃ n a t x0 x1 x2 x3 x4 x5,r=⟨n,a,t,[x0,x1,x2,x3,x4,x5]⟩:=by
 obtain ⟨n,a,t,l⟩:=r
 match l,h with
 | [x0,x1,x2,x3,x4,x5],_=>exact ⟨n,a,t,x0,x1,x2,x3,x4,x5,rfl⟩
theorem slArr_from (n b o i:Nat) (j:Int) (hj:j=(i:Int)) (hi:i<=n):slArr n 1 (ptr b o) (some (vi j)) none none=some (.slice (some (if n=i then ⟨b,o,none⟩ else (⟨b,o,none⟩:Addr).add (i*1))) (n - i) (n - i)):=by
 subst hj
 have e0:bnd (none:Option Value) n n=some n:=rfl
 have e1:bnd (some (vi (i:Int))) 0 n=some i:=by simp only [bnd]; rw [if_pos (by omega)]; simp
 simp only [slArr,Option.isSome_none,Bool.false_and,Bool.false_eq_true,if_false,e0,e1,Option.bind_some]
theorem slArr_lt (n b o i:Nat) (j:Int) (hj:j=(i:Int)) (hi:i<n):slArr n 1 (ptr b o) (some (vi j)) none none=some (slc b (o+i) (n - i) (n - i)):=by
 rw [slArr_from n b o i j hj (by omega),if_neg (by omega)]
 simp only [Addr.add,Nat.mul_one]
 by_cases h:i=0
 ·simp [h]
 ·simp [h]
theorem splice_done (done bs rest:List Value) (o:Nat) (ho:o=done.length) (h:bs.length<=rest.length):splice (done++rest) o bs=done++bs++rest.drop bs.length:=by
 subst ho
 simp only [splice,List.take_left,List.drop_append]
 rw [List.drop_eq_nil_of_le (by omega)]
 simp [Nat.add_sub_cancel_left]
def BS (H H':AH) (c0:List Value) (done:List (BitVec 8)):Prop :=
 Ext H H'/\H'.next=H.next+3/\H'.get H.next = .cells c0 none/\H'.get (H.next+1) = .cells (zs 64 (u8 0#8)) none /\
 H'.get (H.next+2) = .cells (done.map u8++zs (64 - done.length) (u8 0#8)) none/\done.length<=64
theorem BS.put {H H':AH} {c0:List Value} {done:List (BitVec 8)} (h:BS H H' c0 done) (bs:List (BitVec 8)) (hb:done.length+bs.length<=64) :
  BS H (H'.put (H.next+2) (.cells (splice (done.map u8++zs (64 - done.length) (u8 0#8)) done.length (bs.map u8)) none)) c0 (done++bs):=by
 obtain ⟨h1,h2,h3,h4,h5,h6⟩:=h
 refine ⟨h1.put (by omega) _,h2,?_,?_,?_,by simp; omega⟩
 ·rw [AH.get_put_ne _ _ (by omega)]; exact h3
 ·rw [AH.get_put_ne _ _ (by omega)]; exact h4
 ·rw [AH.get_put_self _ _ (by omega),splice_done _ _ _ _ (by simp) (by simp; omega)]
  simp only [List.map_append,zs_drop,List.length_map,List.length_append]
  rw [Nat.sub_sub]
theorem S.put_BS (hE:Fold E) {H H':AH} {c0:List Value} {done:List (BitVec 8)} (h:BS H H' c0 done) (n c:Nat) (x:BitVec 64) (k:Nat) (hk:k<=8) (hn:k<=n) (hd:done.length+k<=64) (o:Nat) (ho:o=done.length)
  (hQ:∀ H'',BS H H'' c0 (done++bytesN x k)->Q (.tuple #[]) H''):E.call (E.fid i.f44) [slc (H.next+2) o n c,u64 x,vi k] H' Q:=by
 subst ho
 refine S.f44 hE (H.next+2) done.length n c x k hk hn h.2.2.2.2.1 (by simp; omega) (hQ _ ?_)
 exact h.put (bytesN x k) (by simp [bytesN]; omega)
theorem S.f42 (hE:Fold E) (r:RecD) (hr:r.ok) (hQ:∀ H',Ext H H'->Q (bytesV r.bytes) H'):E.call (E.fid i.f42) [r.v] H Q:=by
 obtain ⟨n,a,t,x0,x1,x2,x3,x4,x5,rfl⟩:=RecD.ok_cases hr
 apply hE.f42
 unfold F.f42
 simp only [boxO_agg,mk_some,allocW_eq,mkPtr_eq,AH.next_new]
 generalize hH3:(((H.new _).new _).new _)=H3
 have h0:BS H H3 (RecD.cells ⟨n,a,t,[x0,x1,x2,x3,x4,x5]⟩) []:=by
  subst hH3
  exact ⟨(((Ext.refl H).new _).new _).new _,rfl,by simp [AH.get_new,Nat.add_assoc],by simp [AH.get_new,Nat.add_assoc],by simp [AH.get_new,Nat.add_assoc],by simp⟩
 clear hH3
 have hc:∀ {H':AH} {d:List (BitVec 8)},BS H H' (RecD.cells ⟨n,a,t,[x0,x1,x2,x3,x4,x5]⟩) d->H'.get H.next = .cells [u32 n,u32 a,u64 t,u64 x0,u64 x1,u64 x2,u64 x3,u64 x4,u64 x5] none:=fun h=>h.2.2.1
 rw [slArr_lt 64 (H.next+1+1) 0 0 0 rfl (by omega)]
 simp [hc h0]
 refine S.put_BS hE h0 64 64 (n.setWidth 64) 4 (by omega) (by omega) (by simp) 0 (by simp) fun H4 h4 =>?_
 rw [slArr_lt 64 (H.next+1+1) 0 4 4 rfl (by omega)]
 simp [hc h4]
 refine S.put_BS hE h4 60 60 (a.setWidth 64) 4 (by omega) (by omega) (by simp [bytesN]) 4 (by simp [bytesN]) fun H5 h5 =>?_
 rw [slArr_lt 64 (H.next+1+1) 0 8 8 rfl (by omega)]
 simp [hc h5]
 refine S.put_BS hE h5 56 56 t 8 (by omega) (by omega) (by simp [bytesN]) 8 (by simp [bytesN]) fun H6 h6 =>?_
 simp [hc h6]
 generalize hd0:[]++bytesN (n.setWidth 64) 4++bytesN (a.setWidth 64) 4++bytesN t 8=d0 at h6
 have hl0:d0.length=16:=by rw [<- hd0]; simp [bytesN]
 refine LoopL.count 6 (fun i s H'=>BS H H' (RecD.cells ⟨n,a,t,[x0,x1,x2,x3,x4,x5]⟩) (d0++([x0,x1,x2,x3,x4,x5].take i).flatMap (bytesN · 8))/\s=[ptr (H.next+1) 0,ptr (H.next+1+1) 0,.agg #[u64 x0,u64 x1,u64 x2,u64 x3,u64 x4,u64 x5],vi i]) ?_ ⟨by simpa using h6,rfl⟩
 rintro i _ H' X hi hX ⟨hB,rfl⟩
 simp [F.f42_l1]
 refine ifB_split (fun h =>?_) (fun h =>?_)
 ·have hi6:i<6:=by omega
  have hagg:ixAgg1 6 1 (.agg #[u64 x0,u64 x1,u64 x2,u64 x3,u64 x4,u64 x5]) (vi i)=some (u64 ([x0,x1,x2,x3,x4,x5][i]'(by simpa using hi6))):=by
   simp only [ixAgg1]
   rw [if_pos (by omega)]
   simp only [part1_agg,Int.toNat_natCast,Nat.mul_one]
   have:i=0\/i=1\/i=2\/i=3\/i=4\/i=5:=by omega
   rcases this with rfl | rfl | rfl | rfl | rfl | rfl <;> rfl
  rw [hagg,opt_some,i64_mul (by omega) (by omega),opt_some,i64_add (by omega) (by omega),opt_some]
  rw [slArr_lt 64 (H.next+1+1) 0 (16+8*i) _ (by omega) (by omega)]
  simp only [opt_some]
  have hlen:(d0++([x0,x1,x2,x3,x4,x5].take i).flatMap (bytesN · 8)).length=16+8*i:=by
   have:i=0\/i=1\/i=2\/i=3\/i=4\/i=5:=by omega
   rcases this with rfl | rfl | rfl | rfl | rfl | rfl <;> simp [hl0,bytesN]
  refine S.put_BS hE hB (64 - (16+8*i)) (64 - (16+8*i)) _ 8 (by omega) (by omega) (by omega) _ (by omega) fun H7 h7 =>?_
  rw [i64_inc (by omega)]
  refine hX hi6 _ _ ⟨?_,rfl⟩
  rw [List.take_succ_eq_append_getElem (by simpa using hi6),List.flatMap_append,<- List.append_assoc]
  simpa using h7
 ·have:i=6:=by omega
  subst this
  obtain ⟨q1,q2,q3,q4,q5,q6⟩:=hB
  have hd:d0++([x0,x1,x2,x3,x4,x5].take 6).flatMap (bytesN · 8)=RecD.bytes ⟨n,a,t,[x0,x1,x2,x3,x4,x5]⟩:=by
   rw [<- hd0]
   simp [RecD.bytes,RecD.words,bytesN_4,bytesN_8]
  rw [hd] at q5 q6
  have hl:(RecD.bytes ⟨n,a,t,[x0,x1,x2,x3,x4,x5]⟩).length=64:=rfl
  generalize RecD.bytes ⟨n,a,t,[x0,x1,x2,x3,x4,x5]⟩=d at *
  rw [hl] at q5
  simp only [Nat.sub_self,zs_zero,List.append_nil] at q5
  have hp:∀ x∈d,plain1 (u8 x)=true:=fun x _=>rfl
  simp [q5,q4,hl,List.take_of_length_le,splice,AH.get_put,q2]
  exact hQ _ (q1.put (by omega) _)
end Go.AM
end
section
namespace Go.AM
variable {E:Sy} {H:AH} {Q:Value->AH->Prop}
theorem Vals.sub {H:AH} {b o n c:Nat} {cs:List Value} {f:Option Nat} (hg:H.get b = .cells cs f) (hf:f=none\/f=some 1) (ho:o+n<=cs.length) (hn:n<=c):Vals H (slc b o n c) ((cs.drop o).take n):=by
 have hl:((cs.drop o).take n).length=n:=by simp; omega
 refine ⟨fun r hr=>by simp only [List.mem_map] at hr; obtain ⟨x,_,rfl⟩:=hr; rfl,.inr ⟨b,o,c,by rw [List.length_map,hl],by rw [List.length_map,hl]; exact hn,?_,?_⟩⟩
 ·rw [hg]; rcases hf with rfl | rfl <;> simp [fits]
 ·rw [hg,flatten_single,List.length_map,hl,Nat.mul_one,row_cells,if_pos ho]
theorem S.take_at (hE:Fold E) (b o n c k:Nat) (l:List (BitVec 8)) {f:Option Nat} (hg:H.get b = .cells (l.map u8) f) (hf:f=none\/f=some 1) (ho:o+n<=l.length) (hn:n<=c) (hk:k<=n) (hk8:k<=8)
  (hQ:Q (u64 (takeW ((l.drop o).take k))) H):E.call (E.fid i.f45) [slc b o n c,vi k] H Q:=by
 have hV:=Vals.sub hg hf (o:=o) (n:=n) (c:=c) (by simpa using ho) hn
 have e:((l.map u8).drop o).take n=((l.drop o).take n).map u8:=by simp
 rw [e] at hV
 refine S.f45 hE _ _ k (by simp; omega) hk8 hV ?_
 rwa [List.take_take,Nat.min_eq_left hk]
end Go.AM
end
section
namespace Go.AM
variable {E:Sy} {H:AH} {Q:Value->AH->Prop}
theorem words_len (r:RecD) (hr:r.ok):r.words.length=16:=by
 obtain ⟨n,a,t,x0,x1,x2,x3,x4,x5,rfl⟩:=RecD.ok_cases hr
 rfl
theorem bytes_len (r:RecD) (hr:r.ok):r.bytes.length=64:=by
 obtain ⟨n,a,t,x0,x1,x2,x3,x4,x5,rfl⟩:=RecD.ok_cases hr
 rfl
theorem bytes_word (r:RecD) (i:Nat) (hi:i<r.words.length):(r.bytes.drop (4*i)).take 4=bytes4 r.words[i]:=by
 have:=flatten_part (sz:=4) (r.words.map bytes4) (by intro x hx; obtain ⟨y,_,rfl⟩:=List.mem_map.1 hx; rfl) i (by simpa using hi)
 rw [List.getElem_map] at this
 rw [<- this,Nat.mul_comm,RecD.bytes,List.flatMap_def]
end Go.AM
end
section
namespace Go.AM
variable {E:Sy} {H:AH} {Q:Value->AH->Prop}
def rword (r:RecD) (a:BitVec 32):BitVec 32×Bool:=if a.toNat % 4=0/\a.toNat<=60 then (r.words.getD (a.toNat / 4) 0,true) else (0,false)
theorem S.f43 (hE:Fold E) (r:RecD) (hr:r.ok) (a:BitVec 32) (hQ:∀ H',Ext H H'->Q (.tuple #[u32 (rword r a).1,vb (rword r a).2]) H'):E.call (E.fid i.f43) [r.v,u32 a] H Q:=by
 apply hE.f43
 simp [F.f43]
 have hm:(a % 4#32=0#32)↔a.toNat % 4=0:=by
  rw [<- BitVec.toNat_inj]; simp
 by_cases h1:a.toNat % 4=0
 ·simp only [hm.2 h1]
  simp
  by_cases h2:60<a.toNat
  ·have h3:¬ a.toNat<=60:=by omega
   simp [h2]
   have:=hQ (H.new (AObj.cells r.cells none)) (by simp)
   simpa [rword,h1,h3] using this
  ·have h3:a.toNat<=60:=by omega
   simp [h2]
   have hl9:r.cells.length=9:=by
    obtain ⟨n,a,t,x0,x1,x2,x3,x4,x5,rfl⟩:=RecD.ok_cases hr
    rfl
   rw [if_pos (by omega),List.take_of_length_le (by omega)]
   simp only [Option.map_some,opt_some]
   refine S.f42 hE r hr fun H4 h4 =>?_
   have hb:=bytes_len r hr
   simp [hb,splice]
   generalize hH5:H4.new _=H5
   have hg:H5.get H4.next = .cells (r.bytes.map u8) none:=by subst hH5; simp
   have hx:Ext H H5:=by subst hH5; exact (((Ext.refl H).new _).trans h4).new _
   clear hH5
   rw [show slArr 64 1 (ptr H4.next 0) (some (u32 a)) none none=slArr 64 1 (ptr H4.next 0) (some (vi (a.toNat:Int))) none none from rfl]
   rw [slArr_lt 64 H4.next 0 a.toNat _ rfl (by omega),opt_some]
   refine S.take_at hE H4.next (0+a.toNat) _ _ 4 r.bytes hg (.inl rfl) (by omega) (by omega) (by omega) (by omega) ?_
   have hw:=bytes_word r (a.toNat / 4) (by rw [words_len r hr]; omega)
   have e4:0+a.toNat=4*(a.toNat / 4):=by omega
   rw [e4,hw]
   simp [takeW_bytes4]
   have:=hQ H5 hx
   simp only [rword,h1,h3,and_self,if_true] at this
   rw [List.getD_eq_getElem?_getD,List.getElem?_eq_getElem (by rw [words_len r hr]; omega)] at this
   exact this
 ·have:¬ (a % 4#32=0#32):=fun e=>h1 (hm.1 e)
  simp [this]
  have:=hQ (H.new (AObj.cells r.cells none)) (by simp)
  simpa [rword,h1] using this
def clampArg (n:Int):Nat:=(if 5<(if 0 > n then 0 else n) then 5 else (if 0 > n then 0 else n)).toNat
theorem clampArg_lt (n:Int):clampArg n<6:=by unfold clampArg; split <;> split <;> omega
theorem clampArg_eq (n:Int):(if 5<(if 0 > n then 0 else n) then 5 else (if 0 > n then 0 else n))=(clampArg n:Int):=by unfold clampArg; split <;> split <;> omega
theorem S.f41 (hE:Fold E) (n:Int) (b:Bool) (hQ:Q (u32 (BitVec.ofNat 32 (16+8*clampArg n+(if b then 4 else 0)))) H):E.call (E.fid i.f41) [vi n,vb b] H Q:=by
 apply hE.f41
 have hc:=clampArg_lt n
 simp only [F.f41,i64_max,opt_some,i64_min,clampArg_eq]
 rw [i64_mul (by omega) (by omega),opt_some,i64_add (by omega) (by omega),opt_some]
 have e:(16:Int)+8*(clampArg n:Int)=((16+8*clampArg n:Nat):Int):=by omega
 simp only [e,i64_to_u32,opt_some,BitVec.ofInt_natCast]
 cases b with
 | false=>simpa using hQ
 | true =>
  simp
  have:BitVec.ofNat 32 (16+8*clampArg n)+4#32=BitVec.ofNat 32 (16+8*clampArg n+4):=by
   rw [<- BitVec.ofNat_add]
  rw [this]; simpa using hQ
theorem words_arg (r:RecD) (hr:r.ok) (k:Nat) (hk:k<6) (hb:Nat) (hh:hb<2):r.words.getD (4+2*k+hb) 0=if hb=0 then lo32 (r.args.getD k 0) else hi32 (r.args.getD k 0):=by
 obtain ⟨n,a,t,x0,x1,x2,x3,x4,x5,rfl⟩:=RecD.ok_cases hr
 have h1:k=0\/k=1\/k=2\/k=3\/k=4\/k=5:=by omega
 have h2:hb=0\/hb=1:=by omega
 rcases h1 with rfl | rfl | rfl | rfl | rfl | rfl <;> rcases h2 with rfl | rfl <;> rfl
theorem rword_arg (r:RecD) (hr:r.ok) (k:Nat) (hk:k<6) (b:Bool):rword r (BitVec.ofNat 32 (16+8*k+(if b then 4 else 0)))=(if b then hi32 (r.args.getD k 0) else lo32 (r.args.getD k 0),true):=by
 have h1:=words_arg r hr k hk (if b then 1 else 0) (by split <;> omega)
 unfold rword
 have e:(BitVec.ofNat 32 (16+8*k+(if b then 4 else 0))).toNat=16+8*k+(if b then 4 else 0):=by
  rw [BitVec.toNat_ofNat]; apply Nat.mod_eq_of_lt; split <;> omega
 rw [e,if_pos (by constructor <;> split <;> omega)]
 have e2:(16+8*k+(if b then 4 else 0)) / 4=4+2*k+(if b then 1 else 0):=by split <;> omega
 rw [e2,h1]
 cases b <;> rfl
end Go.AM
end
section
namespace Go.AM
variable {E:Sy} {H:AH} {Q:Value->AH->Prop}
structure CondD where
 arg:Int
 op:BitVec 8
 mask:BitVec 64
 value:BitVec 64
def CondD.cells (c:CondD):List Value:=[vi c.arg,u8 c.op,u64 c.mask,u64 c.value]
abbrev CondD.v (c:CondD):Value := .agg c.cells.toArray
def holdsOf (op:Nat) (mask value a:BitVec 64):Bool :=
 if op=1 then decide (a=value) else if op=2 then decide (a≠value) else if op=3 then decide (a.toNat<value.toNat) else if op=4 then decide (a.toNat<=value.toNat)
 else if op=5 then decide (value.toNat<a.toNat) else if op=6 then decide (value.toNat<=a.toNat) else if op=7 then decide (a&&&mask=value) else false
def argAt (l:List (BitVec 64)) (n:Nat):BitVec 64:=l.getD n 0
def holds (c:CondD) (args:List (BitVec 64)):Bool:=if c.arg<0\/5<c.arg then false else holdsOf c.op.toNat c.mask c.value (argAt args c.arg.toNat)
theorem arg_cell {pre:List Value} (args:List (BitVec 64)) (h:args.length=6) (n:Int) (h0:0<=n) (h5:n<=5) (k:Nat) (hk:k=pre.length):∃ i:Nat,n=(i:Int)/\i<6/\(pre++args.map u64)[k+i]? = some (u64 (argAt args n.toNat)):=by
 refine ⟨n.toNat,by omega,by omega,?_⟩
 subst hk
 rw [List.getElem?_append_right (by omega),Nat.add_sub_cancel_left,List.getElem?_map,argAt,List.getD_eq_getElem?_getD,List.getElem?_eq_getElem (by omega)]
 rfl
theorem S.f37 (hE:Fold E) (c:CondD) (r:RecD) (hr:r.ok) (hQ:∀ H',Ext H H'->Q (vb (holds c r.args)) H'):E.call (E.fid i.f37) [c.v,r.v] H Q:=by
 apply hE.f37
 have hx:Ext H ((H.new (.cells c.cells none)).new (.cells r.cells none)):=((Ext.refl H).new _).new _
 have hQ:=hQ _ hx
 simp [F.f37,AH.get_new,CondD.cells]
 unfold holds at hQ
 by_cases h0:c.arg<0
 ·simp [h0]
  simpa [h0,CondD.cells] using hQ
 ·by_cases h5:5<c.arg
  ·simp [h0,AH.get_new,h5]
   simpa [h0,h5,CondD.cells] using hQ
  ·obtain ⟨i,e1,e2,e3⟩:=arg_cell (pre:=[u32 r.number,u32 r.arch,u64 r.at_]) r.args hr c.arg (by omega) (by omega) 3 rfl
   have e3:r.cells[3+i]? = some (u64 (argAt r.args c.arg.toNat)):=e3
   simp [h0,AH.get_new,h5,CondD.cells]
   rw [e1,ixArr_nat 6 1 _ _ i e2]
   simp [AH.get_new,e3]
   rw [<- e1]
   generalize argAt r.args c.arg.toNat=a at *
   simp only [h0,h5,or_self,if_false,holdsOf] at hQ
   have oe:∀ k:Nat,k<256->(c.op=BitVec.ofNat 8 k↔c.op.toNat=k):=by
    intro k hk
    rw [<- BitVec.toNat_inj,BitVec.toNat_ofNat,Nat.mod_eq_of_lt (by omega)]
   have o1:=oe 1 (by omega)
   have o2:=oe 2 (by omega)
   have o3:=oe 3 (by omega)
   have o4:=oe 4 (by omega)
   have o5:=oe 5 (by omega)
   have o6:=oe 6 (by omega)
   have o7:=oe 7 (by omega)
   simp only [ifB_dec,o1,o2,o3,o4,o5,o6,o7]
   generalize c.op.toNat=op at *
   have hc:c.cells=[vi c.arg,u8 c.op,u64 c.mask,u64 c.value]:=rfl
   rw [hc] at hQ
   by_cases p1:op=1
   ·simp [p1,AH.get_new] at hQ ⊢; exact hQ
   by_cases p2:op=2
   ·simp [p2,AH.get_new] at hQ ⊢; exact hQ
   by_cases p3:op=3
   ·simp [p3,AH.get_new] at hQ ⊢; exact hQ
   by_cases p4:op=4
   ·simp [p4,AH.get_new] at hQ ⊢; exact hQ
   by_cases p5:op=5
   ·simp [p5,AH.get_new] at hQ ⊢; exact hQ
   by_cases p6:op=6
   ·simp [p6,AH.get_new] at hQ ⊢; exact hQ
   by_cases p7:op=7
   ·simp [p7,AH.get_new] at hQ ⊢; exact hQ
   ·simp [p1,p2,p3,p4,p5,p6,p7] at hQ ⊢; exact hQ
end Go.AM
end
section
namespace Go.AM
def Only (F:List Nat) (H H':AH):Prop:=H.next<=H'.next/\∀ b,b<H.next->b ∉ F->H'.get b=H.get b
theorem Only.refl (F:List Nat) (H:AH):Only F H H:=⟨Nat.le_refl _,fun _ _ _=>rfl⟩
theorem Only.new {F:List Nat} {H H':AH} (h:Only F H H') (o:AObj):Only F H (H'.new o) :=
 ⟨Nat.le_succ_of_le h.1,fun b hb hf=>by rw [AH.get_new_lt _ _ (Nat.lt_of_lt_of_le hb h.1)]; exact h.2 b hb hf⟩
theorem Only.put {F:List Nat} {H H':AH} (h:Only F H H') {b:Nat} (hb:b∈F\/H.next<=b) (o:AObj):Only F H (H'.put b o) :=
 ⟨h.1,fun x hx hf=>by rw [AH.get_put_ne _ _ (by rintro rfl; exact hb.elim hf (fun k=>by omega))]; exact h.2 x hx hf⟩
theorem Only.get {F:List Nat} {H H':AH} (h:Only F H H') {b:Nat} (hb:b<H.next) (hf:b ∉ F):H'.get b=H.get b:=h.2 b hb hf
theorem Only.ext {F:List Nat} {H0 H H':AH} (h:Only F H H') (e:Ext H0 H) (hs:∀ b∈F,H0.next<=b):Ext H0 H' :=
 ⟨Nat.le_trans e.1 h.1,fun b hb=>by rw [h.2 b (Nat.lt_of_lt_of_le hb e.1) (fun k=>by have:=hs b k; omega)]; exact e.2 b hb⟩
def Sub (Z H:AH):Prop:=Z.next<=H.next/\∀ b,Z.get b ≠ .dead->H.get b=Z.get b
theorem Sub.refl (H:AH):Sub H H:=⟨Nat.le_refl _,fun _ _=>rfl⟩
theorem Ext.sub {H H':AH} (e:Ext H H'):Sub H H':=⟨e.1,fun _ hb=>e.get (AH.lt_of_get hb)⟩
theorem Sub.trans {A B C:AH} (h:Sub A B) (h':Sub B C):Sub A C:=⟨Nat.le_trans h.1 h'.1,fun b hb=>by rw [h'.2 b (by rw [h.2 b hb]; exact hb),h.2 b hb]⟩
theorem Sub.ext {Z H H':AH} (h:Sub Z H) (e:Ext H H'):Sub Z H':=h.trans e.sub
theorem Sub.only {Z H H':AH} {F:List Nat} (h:Sub Z H) (o:Only F H H') (hF:∀ b∈F,Z.get b = .dead):Sub Z H' :=
 ⟨Nat.le_trans h.1 o.1,fun b hb=>by
  have h1:=h.2 b hb
  rw [o.2 b (AH.lt_of_get (by rw [h1]; exact hb)) (fun k=>hb (hF b k)),h1]⟩
theorem AH.get_ge (H:AH) {b:Nat} (h:H.next<=b):H.get b = .dead:=by simp [AH.get,Nat.not_lt.2 h]
theorem Rows.sub {Z H:AH} {sz:Nat} {v:Value} {rows:List (List Value)} (h:Rows Z sz v rows) (e:Sub Z H):Rows H sz v rows:=by
 refine ⟨h.len,?_⟩
 rcases h.at_ with h | ⟨b,o,c,h1,h2,h3,h4⟩
 ·exact .inl h
 ·have:=e.2 b (row_notdead h4)
  exact .inr ⟨b,o,c,h1,h2,by rw [this]; exact h3,by rw [this]; exact h4⟩
def AH.freeze (Z:AH) (n b:Nat) (o:AObj):AH:={ next:=n,raw:=fun x=>if x=b then o else Z.get x }
theorem AH.get_freeze (Z:AH) (n b:Nat) (o:AObj) (x:Nat) (hn:Z.next<=n) (hb:b<n):(Z.freeze n b o).get x=if x=b then o else Z.get x:=by
 by_cases h:x=b
 ·subst h; simp [AH.get,AH.freeze,hb]
 ·by_cases k:x<n
  ·simp [AH.get,AH.freeze,h,k]
  ·have:¬ x<Z.next:=by omega
   simp [AH.get,AH.freeze,h,k,this]
theorem Sub.freeze {Z H:AH} (h:Sub Z H) {b:Nat} (hb:b<H.next):Sub (Z.freeze H.next b (H.get b)) H :=
 ⟨Nat.le_refl _,fun x hx=>by
  rw [AH.get_freeze _ _ _ _ _ h.1 hb] at hx ⊢
  split
  ·rename_i e; rw [e]
  ·rename_i e; rw [if_neg e] at hx; exact h.2 x hx⟩
theorem Sub.to_freeze {Z H:AH} (h:Sub Z H) {b:Nat} (hb:b<H.next):Sub Z (Z.freeze H.next b (H.get b)) :=
 ⟨h.1,fun x hx=>by
  rw [AH.get_freeze _ _ _ _ _ h.1 hb]
  split
  ·rename_i e; rw [<- h.2 x hx,e]
  ·rfl⟩
def Grow (Z H:AH) (sz:Nat) (v:Value) (rows:List (List Value)):Prop :=
 (∀ r∈rows,r.length=sz/\r.all plain1=true)/\((rows=[]/\v=nilS)\/∃ b f c cs,Z.get b = .dead/\v=slc b 0 rows.length c/\H.get b = .cells cs f/\rows.length<=c/\cs.length=c*sz/\cs.take (rows.length*sz)=rows.flatten /\
  (f=none\/f=some sz))
section
variable {Z H H':AH} {sz:Nat} {v:Value} {rows:List (List Value)}
theorem Grow.nil (Z H:AH) (sz:Nat):Grow Z H sz nilS []:=⟨by simp,.inl ⟨rfl,rfl⟩⟩
theorem Grow.made {b n:Nat} {f:Option Nat} (hb:Z.get b = .dead) (hg:H.get b = .cells rows.flatten f) (hf:f=none\/f=some sz) (hn:rows.length=n) (hr:∀ r∈rows,r.length=sz/\r.all plain1=true):Grow Z H sz (slc b 0 n n) rows:=by
 subst hn
 have hfl:=flatten_length rows fun r h=>(hr r h).1
 exact ⟨hr,.inr ⟨b,f,rows.length,rows.flatten,hb,rfl,hg,Nat.le_refl _,hfl,by rw [<- hfl,List.take_length],hf⟩⟩
theorem Grow.room {b c:Nat} {cs:List Value} (hb:Z.get b = .dead) (hg:H.get b = .cells cs none) (hc:cs.length=c*sz):Grow Z H sz (slc b 0 0 c) [] :=
 ⟨by simp,.inr ⟨b,none,c,cs,hb,rfl,hg,Nat.zero_le _,hc,by simp,.inl rfl⟩⟩
theorem Grow.toRows (h:Grow Z H sz v rows):Rows H sz v rows:=by
 rcases h.2 with ⟨rfl,rfl⟩ | ⟨b,f,c,cs,h1,rfl,h3,h4,h5,h6,h7⟩
 ·exact Rows.nil _ _ none
 ·refine ⟨fun r hr=>(h.1 r hr).1,.inr ⟨b,0,c,rfl,h4,?_,?_⟩⟩
  ·rw [h3]; rcases h7 with rfl | rfl <;> simp [fits]
  ·have:rows.length*sz<=c*sz:=Nat.mul_le_mul_right _ h4
   rw [h3,row_cells,if_pos (by omega),List.drop_zero,h6]
theorem Grow.plain (h:Grow Z H sz v rows):plain1 v=true:=by
 rcases h.2 with ⟨_,rfl⟩ | ⟨b,f,c,cs,h1,rfl,_⟩ <;> rfl
theorem Grow.keep (h:Grow Z H sz v rows) (e:∀ b,blk v=some b->b<H.next->H'.get b=H.get b):Grow Z H' sz v rows:=by
 refine ⟨h.1,?_⟩
 rcases h.2 with h | ⟨b,f,c,cs,h1,rfl,h3,h4⟩
 ·exact .inl h
 ·exact .inr ⟨b,f,c,cs,h1,rfl,by rw [e b rfl (AH.lt_cells h3)]; exact h3,h4⟩
theorem Grow.ext (h:Grow Z H sz v rows) (e:Ext H H'):Grow Z H' sz v rows:=h.keep fun b _ hb=>e.get hb
theorem Grow.blk_lt (h:Grow Z H sz v rows) {b:Nat} (hb:blk v=some b):b<H.next:=by
 rcases h.2 with ⟨_,rfl⟩ | ⟨b',f,c,cs,h1,rfl,h3,_⟩
 ·simp [blk] at hb
 ·simp [blk] at hb; subst hb; exact AH.lt_cells h3
def blkL (v:Value):List Nat:=match blk v with | some b=>[b] | none=>[]
theorem mem_blkL {v:Value} {b:Nat}:b∈blkL v↔blk v=some b:=by
 unfold blkL
 cases blk v <;> simp [eq_comm]
def Grew' (H H':AH) (v v':Value):Prop:=Only (blkL v) H H'/\∀ b,blk v'=some b->blk v=some b\/H.next<=b
theorem Grow.app (h:Grow Z H sz v rows) (hZ:Z.next<=H.next) {bytes:Nat} {x:Value} {new:List (List Value)} (hx:Rows H sz x new) (hp:∀ r∈new,r.all plain1=true)
  (hs:sz≠0) (hb:bytes≠0) (h1:(rows.length+new.length)*bytes<=2 ^ 46) (h2:rows.length+new.length<2 ^ 62) :
  ∃ v' H',AM.app sz bytes v x H=some (v',H')/\Grow Z H' sz v' (rows++new)/\Grew' H H' v v':=by
 have hrows:=h.toRows
 have hall:∀ r∈rows++new,r.length=sz/\r.all plain1=true:=by
  intro r hr
  rcases List.mem_append.1 hr with hr | hr
  ·exact h.1 r hr
  ·exact ⟨hx.len r hr,hp r hr⟩
 have hpn:new.flatten.all plain1=true:=all_flatten hp
 have hpo:rows.flatten.all plain1=true:=all_flatten fun r hr=>(h.1 r hr).2
 have hfn:=flatten_length new hx.len
 have hfo:=flatten_length rows fun r hr=>(h.1 r hr).1
 have hnew:srcRow sz new.length x H=some new.flatten:=firstRow_rows hx
 rcases h.2 with ⟨rfl,rfl⟩ | ⟨b,f,c,cs,g1,rfl,g3,g4,g5,g6,g7⟩
 ·by_cases hn:new=[]
  ·subst hn
   refine ⟨nilS,H,?_,⟨by simp,.inl ⟨rfl,rfl⟩⟩,Only.refl _ _,fun b hb => .inl hb⟩
   have e:=lenO_rows hx
   simp at e hnew
   simp [AM.app,e,hnew]
  ·have hpos:0<new.length:=List.length_pos_iff.2 hn
   refine ⟨slc H.next 0 new.length new.length,H.new (.cells new.flatten (some sz)),?_,Grow.made (AH.get_ge _ hZ) (AH.get_new_self _ _) (.inr rfl) (by simp) (by simpa using hall),(Only.refl _ _).new _,fun b hb => .inr (by simp [blk] at hb; omega)⟩
   simp only [AM.app,lenO_rows hx,hnew,Option.bind_some,hpn,Bool.not_true,Bool.false_eq_true,if_false]
   simp at h1 h2
   rw [if_neg (by omega),if_neg (by simp; omega)]
   simp [firstRow]
 ·have hlt:=AH.lt_cells g3
  have hbl:blkL (slc b 0 rows.length c)=[b]:=rfl
  have hmul:(rows.length+new.length)*sz=rows.length*sz+new.length*sz:=Nat.add_mul _ _ _
  by_cases hcap:rows.length+new.length<=c
  ·have hle:(rows.length+new.length)*sz<=c*sz:=Nat.mul_le_mul_right _ hcap
   refine ⟨slc b 0 (rows.length+new.length) c,H.put b (.cells (splice cs (rows.length*sz) new.flatten) f),?_,⟨hall,.inr ⟨b,f,c,_,g1,by simp,AH.get_put_self _ _ hlt,by simpa using hcap,?_,?_,?_⟩⟩,(Only.refl _ _).put (.inl (by simp [hbl])) _,fun b' hb' => .inl (by simpa [blk] using hb')⟩
   ·simp only [AM.app,lenO_rows hx,hnew,Option.bind_some,hpn,Bool.not_true,Bool.false_eq_true,if_false]
    rw [if_pos hcap]
    simp only [Option.isSome_none,Bool.false_eq_true,if_false,g3]
    rw [if_pos (by omega),Nat.zero_add]
   ·rw [splice_length (by omega)]; exact g5
   ·simp only [List.length_append,List.flatten_append,hmul,splice]
    rw [List.take_append_of_le_length (by rw [List.length_append,List.length_take,hfn]; omega),List.take_of_length_le (by rw [List.length_append,List.length_take,hfn]; omega),g6]
   ·exact g7
  ·have hold:firstRow sz rows.length (slc b 0 rows.length c) H=some rows.flatten:=by
    have:rows.length*sz<=c*sz:=Nat.mul_le_mul_right _ g4
    simp only [firstRow,Option.isSome_none,Bool.false_eq_true,if_false,g3,row_cells]
    rw [if_pos (by omega),List.drop_zero,g6]
   have hfin:∀ H1:AH,H1.next=H.next->AM.app sz bytes (slc b 0 rows.length c) x H=some (mkSlc (rows.length+new.length) (rows.length+new.length) H.next,H1.new (.cells (rows.flatten++new.flatten) (some sz))) ->
     Only [b] H H1 ->
     ∃ v' H',AM.app sz bytes (slc b 0 rows.length c) x H=some (v',H')/\Grow Z H' sz v' (rows++new)/\Grew' H H' (slc b 0 rows.length c) v':=by
    intro H1 e1 e2 e3
    exact ⟨_,_,e2,Grow.made (AH.get_ge _ hZ) (by rw [<- e1,AH.get_new_self,List.flatten_append]) (.inr rfl) (by simp) hall,by rw [hbl]; exact e3.new _,fun b' hb' => .inr (by simp [blk] at hb'; omega)⟩
   have pre:AM.app sz bytes (slc b 0 rows.length c) x H=(match f with
     | none=>some (mkSlc (rows.length+new.length) (rows.length+new.length) H.next,H.new (.cells (rows.flatten++new.flatten) (some sz)))
     | some e=>if e=sz then some (mkSlc (rows.length+new.length) (rows.length+new.length) H.next,(H.put b .dead).new (.cells (rows.flatten++new.flatten) (some sz))) else none):=by
    simp only [AM.app,lenO_rows hx,hnew,Option.bind_some,hpn,Bool.not_true,Bool.false_eq_true,if_false]
    rw [if_neg hcap,if_neg (by omega),hold]
    simp only [Option.bind_some,hpo,Bool.not_true,Bool.false_eq_true,if_false,g3]
    cases f <;> rfl
   rcases g7 with rfl | rfl
   ·exact hfin H rfl pre (Only.refl _ _)
   ·exact hfin (H.put b .dead) rfl (by rw [pre]; simp) ((Only.refl _ _).put (.inl (by simp)) _)
theorem Grow.app1 (h:Grow Z H sz v rows) (hZ:Z.next<=H.next) {bytes:Nat} (new:List Value) (hl:new.length=sz) (hp:new.all plain1=true) (hs:sz≠0) (hb:bytes≠0) (h1:(rows.length+1)*bytes<=2 ^ 46) :
  ∃ v' H',AM.app sz bytes v (slc H.next 0 1 1) (H.new (.cells new none))=some (v',H')/\Grow Z H' sz v' (rows++[new])/\Grew' H H' v v':=by
 have hb1:1<=bytes:=by omega
 have h2:(rows.length+1)*1<=(rows.length+1)*bytes:=Nat.mul_le_mul_left _ hb1
 obtain ⟨v',H',a1,a2,a3,a4⟩:=(h.ext ((Ext.refl H).new (.cells new none))).app (Nat.le_succ_of_le hZ) (bytes:=bytes) (x:=slc H.next 0 1 1) (new:=[new]) (Rows.made (f:=none) (by rw [AH.get_new_self]; simp) (.inl rfl) rfl (by simpa using hl)) (by simpa using hp) hs hb h1 (by simp at *; omega)
 refine ⟨v',H',a1,a2,⟨by have:=a3.1; simp at this; omega,fun b hb hf =>?_⟩,fun b hb=>(a4 b hb).imp id fun k=>by simp at k; omega⟩
 rw [a3.2 b (by simp; omega) hf,AH.get_new_lt _ _ hb]
end
theorem row_all (c:List Value) (f:Option Nat) (n:Nat) (h:c.length=n):(AObj.cells c f).row 0 n=some c:=by
 rw [row_cells,if_pos (by omega),List.drop_zero,List.take_of_length_le (by omega)]
theorem splice_mid (a b c v:List Value) (h:b.length=v.length):splice (a++b++c) a.length v=a++v++c:=by
 have h1:(a++b++c).take a.length=a:=by rw [List.append_assoc,List.take_left' rfl]
 have h2:(a++b++c).drop (a.length+v.length)=c:=by rw [<- h,<- List.length_append,List.drop_left' rfl]
 simp only [splice,h1,h2]
theorem fillL_full (size:Nat):∀ (vs:List Value) (k:Nat) (pre post:List Value),pre.length=k*size->post.length=vs.length*size->(∀ v∈vs,(vcells v).length=size) ->
  fillL (fun i=>some (i*size,size)) (pre++post) ((List.range' k vs.length).zip vs)=some (pre++vs.flatMap vcells)
 | [],k,pre,post,_,h2,_=>by
  simp at h2
  simp [h2]
 | v :: vs,k,pre,post,h1,h2,h3=>by
  have hv:=h3 v (by simp)
  have e:post=post.take size++post.drop size:=(List.take_append_drop _ _).symm
  have hl:(post.take size).length=size:=by rw [List.length_take,h2,List.length_cons,Nat.succ_mul]; omega
  have hs:splice (pre++post) (k*size) (vcells v)=(pre++vcells v)++post.drop size:=by
   conv=>lhs; rw [e]
   rw [<- h1,<- List.append_assoc,splice_mid _ _ _ _ (by omega)]
  simp only [List.length_cons,List.range'_succ,List.zip_cons_cons,fillL_cons]
  rw [hv,hs]
  have ih:=fillL_full size vs (k+1) (pre++vcells v) (post.drop size) (by rw [List.length_append,h1,hv,Nat.succ_mul]) (by rw [List.length_drop,h2,List.length_cons,Nat.succ_mul]; omega) (fun x hx=>h3 x (by simp [hx]))
  rw [ih]
  have hle:k*size+size<=pre.length+post.length:=by rw [h1,h2,List.length_cons,Nat.succ_mul]; omega
  simp [hle]
theorem buildS_full (len size:Nat) (zero:List Value) (parts:List (Nat×Value)) (vs:List Value) (hz:zero.length=size) (hp:parts=(List.range' 0 vs.length).zip vs) (hn:vs.length=len) (hd:vs.all defd=true) (hl:∀ v∈vs,(vcells v).length=size) :
  buildS len size zero.toArray parts=some (.cells (vs.flatMap vcells) none,mkSlc len len):=by
 subst hp hn
 rw [buildS_eq _ _ _ _ hz]
 have h1:((List.range' 0 vs.length).zip vs).all (fun p=>defd p.2)=true:=by
  rw [List.all_eq_true] at hd ⊢
  intro p hp
  exact hd _ (List.of_mem_zip hp).2
 have:=fillL_full size vs 0 [] (List.replicate vs.length zero).flatten (by simp) (by simp [hz]) hl
 simp only [List.nil_append] at this
 simp [h1,this]
 rfl
theorem buildS_one (size:Nat) (zero cs:List Value) (hz:zero.length=size) (h:cs.length=size):buildS 1 size zero.toArray [(0,.agg cs.toArray)]=some (.cells cs none,mkSlc 1 1):=by
 have:=buildS_full 1 size zero [(0,.agg cs.toArray)] [.agg cs.toArray] hz rfl rfl rfl (by simpa using h)
 simpa using this
@[simp] theorem callV_func (c:CallT) (g:FuncId) (a b:Array Value) (args:List Value) (H:AH) (K:Value->AH->Prop):callV c (.func (.func g) a b) args H K=c g (a.toList++args++b.toList) H K:=nrfl rfl
theorem i64_quo_nat (a b:Nat) (hb:b≠0) (ha:a<2 ^ 63):binInt .quo (vi a) (vi b)=some (vi ((a / b:Nat):Int)):=by
 have h1:a / b<=a:=Nat.div_le_self _ _
 rw [binInt_quo _ _ _ (by omega)]
 have e:(a:Int).tdiv b=((a / b:Nat):Int):=by simp [Int.tdiv]
 rw [e]
 generalize a / b=q at *
 rw [wrap_i64 (by omega) (by omega)]
theorem i64_quo_num (a n:Nat) (hn:n≠0) (ha:a<2 ^ 63):binInt .quo (vi a) (vi (no_index (OfNat.ofNat n)))=some (vi ((a / n:Nat):Int)):=i64_quo_nat a n hn ha
def MapAt {K V:Type} (fk:K->Value) (fv:V->Value) (H:AH) (r:Nat) (l:List (K×V)):Prop :=
 ∃ es clock,H.get r = .map es clock true/\es.map (fun e=>(e.key,e.val))=(l.map fun p=>(fk p.1,fv p.2))/\(es.map (·.born)).Nodup/\(∀ e∈es,e.born<clock)/\(l.map Prod.fst).Nodup
def aset {K V:Type} [DecidableEq K] (k:K) (v:V):List (K×V)->List (K×V)
 | []=>[(k,v)]
 | p :: l=>if p.1=k then (k,v) :: l else p :: aset k v l
section
variable {K V:Type} [DecidableEq K] {fk:K->Value} {fv:V->Value} {H:AH} {r kd:Nat}
theorem MapAt.lt {l:List (K×V)} (h:MapAt fk fv H r l):r<H.next:=by
 obtain ⟨es,clock,h1,_⟩:=h
 exact AH.lt_of_get (by rw [h1]; simp)
theorem MapAt.keep {H':AH} {l:List (K×V)} (h:MapAt fk fv H r l) (e:H'.get r=H.get r):MapAt fk fv H' r l:=by
 obtain ⟨es,clock,h1,h2⟩:=h
 exact ⟨es,clock,by rw [e]; exact h1,h2⟩
theorem MapAt.new (H:AH):MapAt fk fv (H.new (.map [] 0 true)) H.next ([]:List (K×V)):=⟨[],0,AH.get_new_self _ _,rfl,by simp,by simp,by simp⟩
theorem findE_told (hk:∀ a b,sameCell kd (fk a) (fk b)=some (decide (a=b))) (k:K):∀ (es:List MapEntry) (l:List (K×V)),es.map (fun e=>(e.key,e.val))=l.map (fun p=>(fk p.1,fv p.2)) ->
  findE kd (fk k) es=some ((l.findIdx? fun p=>decide (k=p.1)).bind fun i=>(l[i]?).map fun p=>(i,fv p.2))
 | [],[],_=>rfl
 | [],_ :: _,h=>by simp at h
 | _ :: _,[],h=>by simp at h
 | e :: es,p :: l,h=>by
  simp only [List.map_cons,List.cons.injEq,Prod.mk.injEq] at h
  obtain ⟨⟨h1,h2⟩,h3⟩:=h
  have ih:=findE_told hk k es l h3
  simp only [findE,h1,hk,Option.bind_some]
  by_cases e:k=p.1
  ·simp [e,h2,List.findIdx?_cons]
  ·simp only [e,decide_false,ih,Option.map_some,List.findIdx?_cons,if_false,Bool.false_eq_true]
   congr 1
   cases l.findIdx? fun p=>decide (k=p.1) <;> simp
   rename_i i
   cases l[i]? <;> rfl
theorem lookup_findIdx (k:K):∀ l:List (K×V),(l.findIdx? fun p=>decide (k=p.1)).bind (fun i=>(l[i]?).map fun p=>(i,fv p.2))=(l.findIdx? fun p=>decide (k=p.1)).bind (fun i=>(l.lookup k).map fun v=>(i,fv v))
 | []=>rfl
 | p :: l=>by
  have ih:=lookup_findIdx k l
  by_cases e:k=p.1
  ·subst e
   simp [List.findIdx?_cons,List.lookup]
  ·have e':(k == p.1)=false:=by simpa using e
   simp only [List.findIdx?_cons,e,decide_false,Bool.false_eq_true,if_false,List.lookup,e']
   cases hf:l.findIdx? fun p=>decide (k=p.1) with
   | none=>simp
   | some i =>
    rw [hf] at ih
    simp at ih ⊢
    cases h1:l[i]? <;> cases h2:l.lookup k <;> simp [h1,h2] at ih ⊢
    exact ih
theorem findIdx_lookup (k:K):∀ l:List (K×V),(l.findIdx? fun p=>decide (k=p.1))=none↔l.lookup k=none
 | []=>by simp
 | p :: l=>by
  have ih:=findIdx_lookup k l
  by_cases e:k=p.1
  ·subst e; simp [List.findIdx?_cons,List.lookup]
  ·have e':(k == p.1)=false:=by simpa using e
   simp only [List.findIdx?_cons,e,decide_false,Bool.false_eq_true,if_false,List.lookup,e']
   rw [Option.map_eq_none_iff]
   exact ih
theorem MapAt.look {l:List (K×V)} (h:MapAt fk fv H r l) (hk:∀ a b,sameCell kd (fk a) (fk b)=some (decide (a=b))) (k:K) (zero:Value) (ok:Bool) :
  AM.look kd zero ok (.map (some r)) (fk k) H=some (match l.lookup k with | some v=>(if ok then .tuple #[fv v,.bool true] else fv v) | none=>(if ok then .tuple #[zero,.bool false] else zero)):=by
 obtain ⟨es,clock,h1,h2,_⟩:=h
 simp only [AM.look,entriesOf,h1,Option.bind_some]
 rw [findE_told hk k es l h2,lookup_findIdx]
 have:=findIdx_lookup k l
 cases hf:l.findIdx? fun p=>decide (k=p.1) with
 | none =>
  have this:=this.1 hf
  simp only [this,Option.bind_none,Option.map_some]
 | some i =>
  rw [hf] at this
  cases hl:l.lookup k with
  | none=>rw [hl] at this; simp at this
  | some v=>simp
theorem aset_found (k:K) (v:V):∀ (l:List (K×V)) (i:Nat),(l.findIdx? fun p=>decide (k=p.1))=some i->aset k v l=l.set i (k,v)
 | [],i,h=>by simp at h
 | p :: l,i,h=>by
  by_cases e:k=p.1
  ·subst e
   simp [List.findIdx?_cons] at h
   subst h
   simp [aset]
  ·have e':¬ p.1=k:=fun x=>e x.symm
   simp only [List.findIdx?_cons,e,decide_false,Bool.false_eq_true,if_false,Option.map_eq_some_iff] at h
   obtain ⟨j,h1,rfl⟩:=h
   simp [aset,e',aset_found k v l j h1]
theorem aset_none (k:K) (v:V):∀ (l:List (K×V)),(l.findIdx? fun p=>decide (k=p.1))=none->aset k v l=l++[(k,v)]
 | [],_=>rfl
 | p :: l,h=>by
  by_cases e:k=p.1
  ·subst e; simp [List.findIdx?_cons] at h
  ·have e':¬ p.1=k:=fun x=>e x.symm
   simp only [List.findIdx?_cons,e,decide_false,Bool.false_eq_true,if_false,Option.map_eq_none_iff] at h
   simp [aset,e',aset_none k v l h]
theorem aset_keys (k:K) (v:V):∀ (l:List (K×V)),(aset k v l).map Prod.fst=if k∈l.map Prod.fst then l.map Prod.fst else l.map Prod.fst++[k]
 | []=>by simp [aset]
 | p :: l=>by
  by_cases e:p.1=k
  ·subst e; simp [aset]
  ·have e':¬ k=p.1:=fun x=>e x.symm
   simp only [aset,e,if_false,List.map_cons,aset_keys k v l,List.mem_cons,e',false_or]
   split <;> simp
theorem aset_nodup (k:K) (v:V) (l:List (K×V)) (h:(l.map Prod.fst).Nodup):((aset k v l).map Prod.fst).Nodup:=by
 rw [aset_keys]
 split
 ·exact h
 ·rename_i hk
  rw [List.nodup_append]
  exact ⟨h,by simp,fun a ha b hb=>by simp at hb; subst hb; rintro rfl; exact hk ha⟩
theorem MapAt.set {l:List (K×V)} (h:MapAt fk fv H r l) (hk:∀ a b,sameCell kd (fk a) (fk b)=some (decide (a=b))) (k:K) (v:V) :
  ∃ o,o ≠ .dead/\setMap kd (.map (some r)) (fk k) (fv v) H=some (H.put r o)/\MapAt fk fv (H.put r o) r (aset k v l):=by
 have hlt:=h.lt
 obtain ⟨es,clock,h1,h2,h3,h4,h5⟩:=h
 have hlen:es.length=l.length:=by simpa using congrArg List.length h2
 simp only [setMap,h1]
 rw [findE_told hk k es l h2]
 cases hf:l.findIdx? fun p=>decide (k=p.1) with
 | none =>
  refine ⟨.map (es++[{ key:=fk k,val:=fv v,born:=clock }]) (clock+1) true,by simp,by simp,_,_,AH.get_put_self _ _ hlt,?_,?_,?_,aset_nodup k v l h5⟩
  ·rw [aset_none k v l hf,List.map_append,List.map_append,h2]
   rfl
  ·rw [List.map_append,List.nodup_append]
   refine ⟨h3,by simp,fun a ha b hb =>?_⟩
   obtain ⟨e,he,rfl⟩:=List.mem_map.1 ha
   have:=h4 e he
   simp at hb
   omega
  ·intro e he
   rcases List.mem_append.1 he with he | he
   ·exact Nat.lt_succ_of_lt (h4 e he)
   ·simp at he; subst he; exact Nat.lt_succ_self _
 | some i =>
  have hi:i<l.length:=by
   have:=List.findIdx?_eq_some_iff_getElem.1 hf
   exact this.1
  refine ⟨.map (es.modify i fun e=>{ e with key:=fk k,val:=fv v }) clock true,by simp,by simp [hi],_,_,AH.get_put_self _ _ hlt,?_,?_,?_,aset_nodup k v l h5⟩
  rotate_left
  ·have:(es.modify i fun e=>{ e with key:=fk k,val:=fv v }).map (·.born)=es.map (·.born):=by
    apply List.ext_getElem?
    intro j
    simp only [List.getElem?_map,List.getElem?_modify]
    cases es[j]? <;> simp
    split <;> rfl
   rw [this]; exact h3
  ·intro e he
   obtain ⟨j,hj⟩:=List.mem_iff_getElem?.1 he
   rw [List.getElem?_modify] at hj
   cases hx:es[j]? with
   | none=>rw [hx] at hj; simp at hj
   | some x =>
    have hm:=h4 x (List.mem_of_getElem? hx)
    rw [hx] at hj
    simp at hj
    subst hj
    split <;> exact hm
  rw [aset_found k v l i hf]
  apply List.ext_getElem?
  intro j
  have:=congrArg (fun x=>x[j]?) h2
  simp only [List.getElem?_map] at this
  simp only [List.getElem?_map,List.getElem?_modify,List.getElem?_set]
  by_cases e:i=j
  ·subst e
   simp [hi]
   have:i<es.length:=by omega
   simp [this]
  ·simp [e,this]
end
end Go.AM
end
section
namespace Go.AM
variable {E:Sy} {H:AH} {Q:Value->AH->Prop}
theorem RecD.cells_len {r:RecD} (hr:r.ok):r.cells.length=9:=by
 obtain ⟨n,a,t,x0,x1,x2,x3,x4,x5,rfl⟩:=RecD.ok_cases hr
 rfl
end Go.AM
end
section
namespace Go.AM
variable {E:Sy} {H:AH} {Q:Value->AH->Prop}
def SliceOf {α:Type} (R:AH->α->List Value->Prop) (H:AH) (sz:Nat) (v:Value) (l:List α):Prop :=
 ∃ rows,Rows H sz v rows/\rows.length=l.length/\∀ i (h1:i<l.length) (h2:i<rows.length),R H l[i] rows[i]
theorem Rows.plain {H:AH} {sz:Nat} {v:Value} {rows:List (List Value)} (h:Rows H sz v rows):plain1 v=true:=by
 rcases h.at_ with ⟨_,c,rfl⟩ | ⟨b,o,c,rfl,_⟩ <;> rfl
section
variable {α:Type} {R:AH->α->List Value->Prop} {sz:Nat} {v:Value} {l:List α}
theorem SliceOf.lenSlc (h:SliceOf R H sz v l):AM.lenSlc v=some (vi l.length):=by
 obtain ⟨rows,h1,h2,h3⟩:=h
 rw [h1.lenSlc,h2]
theorem SliceOf.ix (h:SliceOf R H sz v l) {i:Nat} (hi:i<l.length):∃ b o cs,ixSlc sz v (vi i)=some (ptr b o)/\(H.get b).row o sz=some cs/\R H l[i] cs:=by
 obtain ⟨rows,h1,h2,h3⟩:=h
 obtain ⟨b,o,f1,f2⟩:=h1.ix (i:=i) (by omega)
 exact ⟨b,o,_,f1,f2,h3 i hi (by omega)⟩
end
end Go.AM
end
section
namespace Go.AM
deriving instance DecidableEq for CondD
structure BranchD where
 conds:List CondD
 action:BitVec 32
structure CaseD where
 number:BitVec 32
 branches:List BranchD
structure PlanD where
 cases:List CaseD
 default:BitVec 32
def holdAll (l:List CondD) (r:RecD):Bool:=l.all fun c=>holds c r.args
def decideB (d:BitVec 32) (l:List BranchD) (r:RecD):BitVec 32:=match l.find? fun b=>holdAll b.conds r with
 | some b=>b.action
 | none=>d
def decideF (p:PlanD) (r:RecD):BitVec 32:=if r.arch=3221225534#32 then
  match p.cases.find? fun c=>decide (c.number=r.number) with
  | none=>p.default
  | some c=>decideB p.default c.branches r
 else 2147483648#32
end Go.AM
end
section
namespace Go.AM
structure Res where
 fp:List Nat
 P:AH->Prop
 keep:∀ {H H':AH},P H->(∀ b∈fp,H'.get b=H.get b)->P H'
structure Has (H0 Z H:AH) (L:List Res):Prop where
 ext:Ext H0 H
 sub:Sub Z H
 all:∀ r∈L,r.P H/\∀ b∈r.fp,H0.next<=b/\b<H.next/\Z.get b = .dead
 nd:(L.flatMap Res.fp).Nodup
structure Upd (r r':Res) (H H':AH):Prop where
 only:Only r.fp H H'
 holds:r'.P H'
 fp:∀ b∈r'.fp,(b∈r.fp\/H.next<=b)/\b<H'.next
 nd:r'.fp.Nodup
def Fz (n:Nat) (Z Z':AH):Prop:=Sub Z Z'/\∀ b,b<n->Z'.get b=Z.get b
section
variable {H0 Z H H':AH} {L:List Res}
theorem Has.begin (e:Ext H0 H) (s:Sub Z H):Has H0 Z H []:=⟨e,s,by simp,by simp⟩
theorem Has.get (h:Has H0 Z H L) {k:Nat} {r:Res} (hk:L[k]? = some r):r.P H:=(h.all r (List.mem_of_getElem? hk)).1
theorem Has.grow (h:Has H0 Z H L) (e:Ext H H'):Has H0 Z H' L :=
 ⟨h.ext.trans e,h.sub.ext e,fun r hr=>by
  obtain ⟨h1,h2⟩:=h.all r hr
  exact ⟨r.keep h1 fun b hb=>e.get (h2 b hb).2.1,fun b hb=>⟨(h2 b hb).1,Nat.lt_of_lt_of_le (h2 b hb).2.1 e.1,(h2 b hb).2.2⟩⟩,h.nd⟩
theorem Has.new (h:Has H0 Z H L) (o:AObj):Has H0 Z (H.new o) L:=h.grow ((Ext.refl H).new o)
theorem Has.add (h:Has H0 Z H L) (r:Res) (e:Ext H H') (hp:r.P H') (hf:∀ b∈r.fp,H.next<=b/\b<H'.next) (hn:r.fp.Nodup):Has H0 Z H' (L++[r]):=by
 have g:=h.grow e
 refine ⟨g.ext,g.sub,fun x hx =>?_,?_⟩
 ·rcases List.mem_append.1 hx with hx | hx
  ·exact g.all x hx
  ·simp only [List.mem_singleton] at hx; subst hx
   exact ⟨hp,fun b hb=>⟨Nat.le_trans h.ext.1 (hf b hb).1,(hf b hb).2,AH.get_ge _ (Nat.le_trans h.sub.1 (hf b hb).1)⟩⟩
 ·rw [List.flatMap_append,List.nodup_append]
  refine ⟨h.nd,by simpa using hn,fun a ha b hb =>?_⟩
  simp only [List.mem_flatMap] at ha
  obtain ⟨y,hy,ha⟩:=ha
  have:=((h.all y hy).2 a ha).2.1
  have:=(hf b (by simpa using hb)).1
  omega
theorem nodup_disj:∀ {L:List Res} (_:(L.flatMap Res.fp).Nodup) {i j:Nat} {r s:Res} (_:L[i]? = some r) (_:L[j]? = some s) (_:i≠j) {b:Nat} (_:b∈r.fp),b ∉ s.fp
 | [],_,i,j,r,s,hi,_,_,b,_=>by simp at hi
 | x :: L,hn,i,j,r,s,hi,hj,hij,b,hb=>by
  rw [List.flatMap_cons,List.nodup_append] at hn
  obtain ⟨_,h2,h3⟩:=hn
  intro hs
  cases i with
  | zero =>
   cases j with
   | zero=>exact hij rfl
   | succ j =>
    simp at hi; subst hi
    exact h3 b hb b (List.mem_flatMap.2 ⟨s,List.mem_of_getElem? (by simpa using hj),hs⟩) rfl
  | succ i =>
   cases j with
   | zero =>
    simp at hj; subst hj
    exact h3 b hs b (List.mem_flatMap.2 ⟨r,List.mem_of_getElem? (by simpa using hi),hb⟩) rfl
   | succ j=>exact nodup_disj h2 (by simpa using hi) (by simpa using hj) (by omega) hb hs
theorem nodup_set:∀ {L:List Res} (_:(L.flatMap Res.fp).Nodup) {n:Nat} (_:∀ r∈L,∀ b∈r.fp,b<n) {k:Nat} {r r':Res} (_:L[k]? = some r) (_:∀ b∈r'.fp,b∈r.fp\/n<=b) (_:r'.fp.Nodup),((L.set k r').flatMap Res.fp).Nodup
 | [],_,n,_,k,r,r',hk,_,_=>by simp at hk
 | x :: L,hn,n,hlt,k,r,r',hk,hf,hr=>by
  rw [List.flatMap_cons,List.nodup_append] at hn
  obtain ⟨h1,h2,h3⟩:=hn
  cases k with
  | zero =>
   simp at hk; subst hk
   rw [List.set_cons_zero,List.flatMap_cons,List.nodup_append]
   refine ⟨hr,h2,fun a ha b hb =>?_⟩
   rcases hf a ha with h | h
   ·exact h3 a h b hb
   ·obtain ⟨y,hy,hb⟩:=List.mem_flatMap.1 hb
    have:=hlt y (by simp [hy]) b hb
    omega
  | succ k =>
   rw [List.set_cons_succ,List.flatMap_cons,List.nodup_append]
   refine ⟨h1,nodup_set h2 (fun r hr=>hlt r (by simp [hr])) (by simpa using hk) hf hr,fun a ha b hb =>?_⟩
   obtain ⟨y,hy,hb⟩:=List.mem_flatMap.1 hb
   rcases List.mem_or_eq_of_mem_set hy with hy | e
   ·exact h3 a ha b (List.mem_flatMap.2 ⟨y,hy,hb⟩)
   ·subst e
    rcases hf b ‹b∈y.fp› with h | h
    ·exact h3 a ha b (List.mem_flatMap.2 ⟨r,List.mem_of_getElem? (by simpa using hk),h⟩)
    ·have:=hlt x (by simp) a ha
     omega
theorem Has.step (h:Has H0 Z H L) {k:Nat} {r r':Res} (hk:L[k]? = some r) (u:Upd r r' H H'):Has H0 Z H' (L.set k r'):=by
 have hr:=h.all r (List.mem_of_getElem? hk)
 refine ⟨u.only.ext h.ext fun b hb=>(hr.2 b hb).1,h.sub.only u.only fun b hb=>(hr.2 b hb).2.2,fun x hx =>?_,nodup_set h.nd (fun r hr b hb=>((h.all r hr).2 b hb).2.1) hk (fun b hb=>(u.fp b hb).1) u.nd⟩
 obtain ⟨j,hj,hjx⟩:=List.getElem_of_mem hx
 by_cases e:k=j
 ·subst e
  rw [List.getElem_set_self] at hjx
  subst hjx
  refine ⟨u.holds,fun b hb=>⟨?_,(u.fp b hb).2,?_⟩⟩
  ·rcases (u.fp b hb).1 with g | g
   ·exact (hr.2 b g).1
   ·exact Nat.le_trans h.ext.1 g
  ·rcases (u.fp b hb).1 with g | g
   ·exact (hr.2 b g).2.2
   ·exact AH.get_ge _ (Nat.le_trans h.sub.1 g)
 ·rw [List.getElem_set_ne e] at hjx
  have hj':j<L.length:=by simpa using hj
  have hjx':L[j]? = some x:=by rw [List.getElem?_eq_getElem hj',hjx]
  obtain ⟨h1,h2⟩:=h.all x (List.mem_of_getElem? hjx')
  refine ⟨x.keep h1 fun b hb=>u.only.get (h2 b hb).2.1 (nodup_disj h.nd hjx' hk (Ne.symm e) hb),fun b hb=>⟨(h2 b hb).1,Nat.lt_of_lt_of_le (h2 b hb).2.1 u.only.1,(h2 b hb).2.2⟩⟩
theorem nodup_erase:∀ {L:List Res} (_:(L.flatMap Res.fp).Nodup) (k:Nat),((L.eraseIdx k).flatMap Res.fp).Nodup
 | [],_,_=>by simp
 | x :: L,hn,0=>by
  rw [List.flatMap_cons,List.nodup_append] at hn
  exact hn.2.1
 | x :: L,hn,k+1=>by
  rw [List.flatMap_cons,List.nodup_append] at hn
  rw [List.eraseIdx_cons_succ,List.flatMap_cons,List.nodup_append]
  refine ⟨hn.1,nodup_erase hn.2.1 k,fun a ha b hb =>?_⟩
  obtain ⟨y,hy,hb⟩:=List.mem_flatMap.1 hb
  exact hn.2.2 a ha b (List.mem_flatMap.2 ⟨y,List.mem_of_mem_eraseIdx hy,hb⟩)
theorem Has.drop (h:Has H0 Z H L) (k:Nat):Has H0 Z H (L.eraseIdx k) :=
 ⟨h.ext,h.sub,fun r hr=>h.all r (List.mem_of_mem_eraseIdx hr),nodup_erase h.nd k⟩
theorem freeze_all (h:Sub Z H):∀ (l:List Nat),(∀ b∈l,b<H.next)->∃ Z',Sub Z Z'/\Sub Z' H/\(∀ b∈l,Z'.get b=H.get b)/\∀ b,b ∉ l->Z'.get b=Z.get b
 | [],_=>⟨Z,Sub.refl _,h,by simp,fun _ _=>rfl⟩
 | b :: l,hl=>by
  obtain ⟨Z',h1,h2,h3,h4⟩:=freeze_all h l fun x hx=>hl x (by simp [hx])
  have hb:=hl b (by simp)
  have hg:∀ x,(Z'.freeze H.next b (H.get b)).get x=if x=b then H.get b else Z'.get x:=fun x=>AH.get_freeze _ _ _ _ _ h2.1 hb
  refine ⟨_,h1.trans (h2.to_freeze hb),h2.freeze hb,fun x hx =>?_,fun x hx =>?_⟩
  ·rw [hg]
   split
   ·rename_i e; rw [e]
   ·rename_i e; exact h3 x (by simpa [e] using hx)
  ·simp only [List.mem_cons,not_or] at hx
   rw [hg,if_neg hx.1,h4 x hx.2]
theorem Has.freeze (h:Has H0 Z H L) {k:Nat} {r:Res} (hk:L[k]? = some r):∃ Z',Fz H0.next Z Z'/\r.P Z'/\Has H0 Z' H (L.eraseIdx k):=by
 have hr:=h.all r (List.mem_of_getElem? hk)
 obtain ⟨Z',h1,h2,h3,h4⟩:=freeze_all h.sub r.fp fun b hb=>(hr.2 b hb).2.1
 refine ⟨Z',⟨h1,fun b hb=>h4 b fun hm =>?_⟩,r.keep hr.1 h3,h.ext,h2,fun x hx =>?_,nodup_erase h.nd k⟩
 ·have:=(hr.2 b hm).1
  omega
 obtain ⟨j,hjk,hj⟩:=List.mem_eraseIdx_iff_getElem?.1 hx
 obtain ⟨g1,g2⟩:=h.all x (List.mem_of_getElem? hj)
 exact ⟨g1,fun b hb=>⟨(g2 b hb).1,(g2 b hb).2.1,by rw [h4 b (nodup_disj h.nd hj hk hjk hb)]; exact (g2 b hb).2.2⟩⟩
end
def boxR (b:Nat) (c:List Value):Res:=⟨[b],fun H=>H.get b = .cells c none,fun h e=>by rw [e _ (by simp)]; exact h⟩
def zH:AH:=⟨0,fun _ => .dead⟩
theorem zH_get (b:Nat):zH.get b = .dead:=by simp [AH.get,zH]
def growR (sz:Nat) (v:Value) (rows:List (List Value)):Res:=⟨blkL v,fun H=>Grow zH H sz v rows,fun h e=>h.keep fun b hb _=>e b (mem_blkL.2 hb)⟩
def mapR {K V:Type} [DecidableEq K] (fk:K->Value) (fv:V->Value) (r:Nat) (l:List (K×V)):Res:=⟨[r],fun H=>MapAt fk fv H r l,fun h e=>h.keep (e _ (by simp))⟩
section
variable {H0 Z H H':AH} {L:List Res}
theorem blkL_nodup (v:Value):(blkL v).Nodup:=by unfold blkL; split <;> simp
theorem Has.box (h:Has H0 Z H L) {k b:Nat} {c:List Value} (hk:L[k]? = some (boxR b c)):H.get b = .cells c none:=h.get hk
theorem Has.box_lt (h:Has H0 Z H L) {k b:Nat} {c:List Value} (hk:L[k]? = some (boxR b c)):b<H.next:=AH.lt_cells (h.box hk)
theorem Has.newbox (h:Has H0 Z H L) (c:List Value):Has H0 Z (H.new (.cells c none)) (L++[boxR H.next c]) :=
 h.add _ ((Ext.refl H).new _) (AH.get_new_self _ _) (by simp [boxR]) (by simp [boxR])
theorem Has.put (h:Has H0 Z H L) {k b:Nat} {c:List Value} (hk:L[k]? = some (boxR b c)) (c':List Value):Has H0 Z (H.put b (.cells c' none)) (L.set k (boxR b c')) :=
 h.step hk ⟨(Only.refl _ _).put (.inl (by simp [boxR])) _,AH.get_put_self _ _ (h.box_lt hk),fun x hx=>⟨.inl hx,by simp [boxR] at hx; subst hx; exact h.box_lt hk⟩,by simp [boxR]⟩
theorem Has.nils (h:Has H0 Z H L) (sz:Nat):Has H0 Z H (L++[growR sz nilS []]) :=
 h.add _ (Ext.refl H) (Grow.nil _ _ _) (by simp [growR,blkL,blk]) (by simp [growR,blkL,blk])
theorem Has.slice (h:Has H0 Z H L) {k sz:Nat} {v:Value} {rows:List (List Value)} (hk:L[k]? = some (growR sz v rows)):Grow zH H sz v rows:=h.get hk
theorem Has.rows (h:Has H0 Z H L) {k sz:Nat} {v:Value} {rows:List (List Value)} (hk:L[k]? = some (growR sz v rows)):Rows H sz v rows:=(h.slice hk).toRows
theorem Grow.upd {sz:Nat} {v v':Value} {rows rows':List (List Value)} (g:Grew' H H' v v') (h':Grow zH H' sz v' rows'):Upd (growR sz v rows) (growR sz v' rows') H H' :=
 ⟨g.1,h',fun b hb=>⟨(g.2 b (mem_blkL.1 hb)).imp mem_blkL.2 id,h'.blk_lt (mem_blkL.1 hb)⟩,blkL_nodup v'⟩
theorem Has.app1 (h:Has H0 Z H L) {k sz:Nat} {v:Value} {rows:List (List Value)} (hk:L[k]? = some (growR sz v rows)) {bytes:Nat} (new:List Value) (hl:new.length=sz) (hp:new.all plain1=true) (hs:sz≠0) (hb:bytes≠0) (h1:(rows.length+1)*bytes<=2 ^ 46) :
  ∃ v' H',AM.app sz bytes v (slc H.next 0 1 1) (H.new (.cells new none))=some (v',H')/\plain1 v'=true/\Has H0 Z H' (L.set k (growR sz v' (rows++[new]))):=by
 obtain ⟨v',H',a1,a2,a3⟩:=(h.slice hk).app1 (Nat.zero_le _) new hl hp hs hb h1
 exact ⟨v',H',a1,a2.plain,h.step hk (Grow.upd a3 a2)⟩
theorem Has.app (h:Has H0 Z H L) {k sz:Nat} {v x:Value} {rows new:List (List Value)} (hk:L[k]? = some (growR sz v rows)) {bytes:Nat} (hx:Rows H sz x new) (hp:∀ r∈new,r.all plain1=true) (hs:sz≠0) (hb:bytes≠0) (h1:(rows.length+new.length)*bytes<=2 ^ 46) (h2:rows.length+new.length<2 ^ 62) :
  ∃ v' H',AM.app sz bytes v x H=some (v',H')/\plain1 v'=true/\Has H0 Z H' (L.set k (growR sz v' (rows++new))):=by
 obtain ⟨v',H',a1,a2,a3⟩:=(h.slice hk).app (Nat.zero_le _) hx hp hs hb h1 h2
 exact ⟨v',H',a1,a2.plain,h.step hk (Grow.upd a3 a2)⟩
theorem Has.newroom (h:Has H0 Z H L) (sz:Nat):Has H0 Z (H.new (.cells [] none)) (L++[growR sz (slc H.next 0 0 0) []]) :=
 h.add _ ((Ext.refl H).new _) (Grow.room (zH_get _) (AH.get_new_self _ _) (by simp)) (by simp [growR,blkL,blk]) (by simp [growR,blkL,blk])
theorem Has.mapAt {K V:Type} [DecidableEq K] {fk:K->Value} {fv:V->Value} (h:Has H0 Z H L) {k r:Nat} {l:List (K×V)} (hk:L[k]? = some (mapR fk fv r l)):MapAt fk fv H r l:=h.get hk
theorem Has.newmap {K V:Type} [DecidableEq K] (fk:K->Value) (fv:V->Value) (h:Has H0 Z H L):Has H0 Z (H.new (.map [] 0 true)) (L++[mapR fk fv H.next ([]:List (K×V))]) :=
 h.add _ ((Ext.refl H).new _) (MapAt.new H) (by simp [mapR]) (by simp [mapR])
theorem Has.mapset {K V:Type} [DecidableEq K] {fk:K->Value} {fv:V->Value} (h:Has H0 Z H L) {n r kd:Nat} {l:List (K×V)} (hn:L[n]? = some (mapR fk fv r l)) (hk:∀ a b,sameCell kd (fk a) (fk b)=some (decide (a=b))) (k:K) (v:V) :
  ∃ H',setMap kd (.map (some r)) (fk k) (fv v) H=some H'/\Has H0 Z H' (L.set n (mapR fk fv r (aset k v l))):=by
 have hm:=h.mapAt hn
 obtain ⟨o,h1,h2,h3⟩:=hm.set hk k v
 exact ⟨_,h2,h.step hn ⟨(Only.refl _ _).put (.inl (by simp [mapR])) _,h3,fun x hx=>⟨.inl hx,by simp [mapR] at hx; subst hx; exact hm.lt⟩,by simp [mapR]⟩⟩
end
end Go.AM
end
section
namespace Go.AM
abbrev alook {K V:Type} [DecidableEq K] (k:K) (l:List (K×V)):Option V:=@List.lookup K V instBEqOfDecidableEq k l
theorem alook_cons {K V:Type} [DecidableEq K] (k:K) (e:K×V) (l:List (K×V)):alook k (e :: l)=if k=e.1 then some e.2 else alook k l:=by
 by_cases h:k=e.1
 ·subst h; simp [alook,List.lookup]
 ·have:(k == e.1)=false:=by simpa using h
  simp [alook,List.lookup,this,h]
end Go.AM
end
section
namespace Go.AM
def FreshV (n:Nat) (v:Value):Prop:=∀ b,blk v=some b->n<=b
end Go.AM
end
section
namespace Go.AM
variable {E:Sy} {H:AH} {Q:Value->AH->Prop}
structure PlaceD where
 m:Int
 i:BitVec 16
 deriving DecidableEq
def PlaceD.cells (p:PlaceD):List Value:=[vi p.m,u16 p.i]
structure MntD where
 id:Int
 at_:PlaceD
 root:BitVec 16
 held:Int
 deriving DecidableEq
def MntD.cells (m:MntD):List Value:=[vi m.id,vi m.at_.m,u16 m.at_.i,u16 m.root,vi m.held]
@[simp] theorem nilp_some (a:Addr):binNil eqPtr .eql (.pointer (some a)) (.pointer none)=some (.bool false):=rfl
@[simp] theorem nilp_none:binNil eqPtr .eql (.pointer none) (.pointer none)=some (.bool true):=rfl
@[simp] theorem nilp_some' (a:Addr):binNil eqPtr .neq (.pointer (some a)) (.pointer none)=some (.bool true):=rfl
@[simp] theorem nilp_none':binNil eqPtr .neq (.pointer none) (.pointer none)=some (.bool false):=rfl
@[simp] theorem nilCk_ptr (a:Addr):nilCk (.pointer (some a))=some (.pointer (some a)):=rfl
end Go.AM
end
section
namespace Go.AM
variable {E:Sy} {H:AH} {Q:Value->AH->Prop}
def standsAt (p:PlaceD) (m:MntD):Bool:=decide (m.id≠0)&&decide (m.at_=p)
def seenN (T:List MntD):Nat->PlaceD->PlaceD
 | 0,p=>p
 | n+1,p=>match T.find? (standsAt p) with
  | none=>p
  | some m=>seenN T n ⟨m.id,m.root⟩
def seen (T:List MntD) (p:PlaceD):PlaceD:=seenN T T.length p
end Go.AM
end
section
namespace Go.AM
variable {E:Sy} {H:AH} {Q:Value->AH->Prop}
def NewRes (r:Res) (H H':AH):Prop:=Ext H H'/\r.P H'/\(∀ b∈r.fp,H.next<=b/\b<H'.next)/\r.fp.Nodup
end Go.AM
end
section
namespace Go.AM
variable {E:Sy} {H0 Z H:AH} {L:List Res} {Q:Value->AH->Prop}
@[simp] theorem PlaceD.cells_length (p:PlaceD):p.cells.length=2:=rfl
@[simp] theorem MntD.cells_length (m:MntD):m.cells.length=5:=rfl
@[simp] theorem place_plain (p:PlaceD):p.cells.all plain1=true:=rfl
@[simp] theorem place_splice (a b:Value) (p:PlaceD):splice [a,b] 0 p.cells=p.cells:=rfl
@[simp] theorem place_splice' (q p:PlaceD):splice q.cells 0 p.cells=p.cells:=rfl
@[simp] theorem place_take (p:PlaceD):p.cells.take 2=p.cells:=rfl
@[simp] theorem mnt_plain (p:MntD):p.cells.all plain1=true:=rfl
@[simp] theorem mnt_splice (a b c d e:Value) (p:MntD):splice [a,b,c,d,e] 0 p.cells=p.cells:=rfl
@[simp] theorem mnt_take (p:MntD):p.cells.take 5=p.cells:=rfl
end Go.AM
end
section
namespace Go.AM
variable {E:Sy} {H:AH} {Q:Value->AH->Prop}
theorem SliceOf.sub {α:Type} {R:AH->α->List Value->Prop} {sz:Nat} {v:Value} {l:List α} (h:SliceOf R H sz v l) (hm:∀ (H H':AH) (a:α) (c:List Value),R H a c->Sub H H'->R H' a c) {H':AH} (e:Sub H H'):SliceOf R H' sz v l:=by
 obtain ⟨rows,h1,h2,h3⟩:=h
 exact ⟨rows,h1.sub e,h2,fun i a b=>hm _ _ _ _ (h3 i a b) e⟩
end Go.AM
end
section
namespace Go.AM
variable {E:Sy} {H:AH} {Q:Value->AH->Prop}
structure InsnD where
 code:BitVec 16
 jt:BitVec 8
 jf:BitVec 8
 k:BitVec 32
def InsnD.cells (x:InsnD):List Value:=[u16 x.code,u8 x.jt,u8 x.jf,u32 x.k]
abbrev InsnD.v (x:InsnD):Value := .agg x.cells.toArray
theorem makeS_room (size bytes n:Nat) (z:List Value) (hz:z.length=size) (h1:n*bytes<=2 ^ 47) (h2:n<2 ^ 62):makeS size bytes z.toArray (vi 0) (vi n)=some (.cells (List.replicate n z).flatten none,fun b=>slc b 0 0 n):=by
 simp only [makeS]
 rw [if_pos ⟨by omega,by omega,by exact_mod_cast h1,by exact_mod_cast h2⟩]
 simp only [Int.toNat_natCast,Int.toNat_zero]
 rw [repl_eq n size _ (by simpa using hz)]
 rfl
end Go.AM
end
section
namespace Go.AM
theorem nrf {α:Type} {a b:α} (h:a=b):a=b:=Eq.trans h rfl
def tk {α:Type} (x:α):α:=x
@[simp] theorem tk_eq {α:Type} (x:α):tk x=x:=Eq.trans (Eq.refl x) (Eq.refl x)
@[congr] theorem ifB_lazy {v v':Value} {A B:Prop} (h:tk v=v'):ifB v A B=ifB v' A B:=by rw [<- h,tk_eq]
@[congr] theorem opt_lazy {α:Type} {o o':Option α} {K:α->Prop} (h:tk o=o'):opt o K=opt o' K:=by rw [<- h,tk_eq]
@[congr] theorem opt2_lazy {α β:Type} {o o':Option (α×β)} {K:α->β->Prop} (h:tk o=o'):opt2 o K=opt2 o' K:=by rw [<- h,tk_eq]
@[congr] theorem mk_lazy {o o':Option (AObj×(Nat->Value))} {H:AH} {K:Value->AH->Prop} (h:tk o=o'):AM.mk o H K=AM.mk o' H K:=by rw [<- h,tk_eq]
@[congr] theorem call_lazy {E:Sy} {f f':FuncId} {a a':List Value} {H H':AH} {K:Value->AH->Prop} (h1:tk f=f') (h2:tk a=a') (h3:tk H=H'):E.call f a H K=E.call f' a' H' K:=by rw [<- h1,<- h2,<- h3]; rfl
@[congr] theorem callV_lazy {c:CallT} {f f':Value} {a a':List Value} {H H':AH} {K:Value->AH->Prop} (h1:tk f=f') (h2:tk a=a') (h3:tk H=H'):callV c f a H K=callV c f' a' H' K:=by rw [<- h1,<- h2,<- h3]; rfl
@[congr] theorem gd_lazy {v v':Value} {b:Bool} {m:(Value->AH->Prop)->Prop} {H:AH} {K:Value->AH->Prop} (h:tk v=v'):gd v b m H K=gd v' b m H K:=by rw [<- h,tk_eq]
@[congr] theorem LoopL_lazy {B:List Value->AH->(List Value->AH->Prop)->Prop} {l l':List Value} {H H':AH} (h1:tk l=l') (h2:tk H=H'):LoopL B l H=LoopL B l' H':=by rw [<- h1,<- h2]; rfl
@[simp high] theorem mkPtr_eq_z (b:Nat):mkPtr b=ptr b 0:=nrf rfl
@[simp high] theorem cell_cells_z (c:List Value) (f:Option Nat) (i:Nat):(AObj.cells c f).cell i=c[i]? :=nrf rfl
@[simp high] theorem boxO_agg_z (a:Array Value):boxO (.agg a)=some (.cells a.toList none,mkPtr):=nrf rfl
@[simp high] theorem un_not_z (b:Bool):un .not (.bool b)=some (.bool !b):=nrf rfl
@[simp high] theorem pick_true_z (x y:Value):pick (.bool true) x y=some x:=nrf rfl
@[simp high] theorem pick_false_z (x y:Value):pick (.bool false) x y=some y:=nrf rfl
@[simp high] theorem u8_lit0_z:(.int .u8 0:Value)=u8 0#8:=nrf rfl
@[simp high] theorem plain1_u8_z (x:BitVec 8):plain1 (u8 x)=true:=nrf rfl
@[simp high] theorem u16_lit0_z:(.int .u16 0:Value)=u16 0#16:=nrf rfl
@[simp high] theorem plain1_u16_z (x:BitVec 16):plain1 (u16 x)=true:=nrf rfl
@[simp high] theorem u32_lit0_z:(.int .u32 0:Value)=u32 0#32:=nrf rfl
@[simp high] theorem plain1_u32_z (x:BitVec 32):plain1 (u32 x)=true:=nrf rfl
@[simp high] theorem plain1_u64_z (x:BitVec 64):plain1 (u64 x)=true:=nrf rfl
@[simp high] theorem vcells_int_z (k:IntKind) (n:Int):vcells (.int k n)=[.int k n]:=nrf rfl
@[simp high] theorem vcells_u32_z (x:BitVec 32):vcells (u32 x)=[u32 x]:=nrf rfl
@[simp high] theorem plain1_int_z (k:IntKind) (n:Int):plain1 (.int k n)=true:=nrf rfl
@[simp high] theorem plain1_bool_z (b:Bool):plain1 (.bool b)=true:=nrf rfl
@[simp high] theorem plain1_slice_z (o:Option Addr) (n c:Nat):plain1 (.slice o n c)=true:=nrf rfl
@[simp high] theorem fillL_nil_z (place:Nat->Option (Nat×Nat)) (cells:List Value):fillL place cells []=some cells:=nrf rfl
@[simp high] theorem AH.next_new_z (H:AH) (o:AObj):(H.new o).next=H.next+1:=nrf rfl
@[simp] theorem nilCk_p (a:Addr):nilCk (.pointer (some a))=some (.pointer (some a)):=nrf rfl
def stdZ:=And.intro @nth_0<|And.intro @nth_1<|And.intro @nth_2<|And.intro @nth_3<|And.intro @nth_4<|And.intro @nth_5<|And.intro @nth_6<|And.intro @nth_7<|And.intro @nth_8<|And.intro @nth_9<|And.intro @nth_10<|And.intro @nth_11<|And.intro @nth_12<|And.intro @nth_13<|And.intro @nth_14<|And.intro @nth_15<|And.intro @nilCk_p<|And.intro @addOff_ptr<|And.intro @load1_ptr<|And.intro @cell_cells_z<|And.intro @gd_tt<|And.intro @gd_tf<|And.intro @gd_ft<|And.intro @gd_ff<|And.intro @gd_skip<|And.intro @pick_true_z<|And.intro @pick_false_z<|And.intro @un_not_z<|And.intro @ext_tuple<|And.intro @boxO_agg_z<|And.intro @mkPtr_eq_z<|And.intro @AM.mk_some<|And.intro @mkSlc_eq<|And.intro @opt2_some<|And.intro @AH.next_new_z<|And.intro @tk_eq<|And.intro @opt_some<|And.intro @Nat.zero_add<|And.intro @Nat.add_zero<|And.intro @List.getElem?_cons_zero.{0}<|And.intro @List.getElem?_cons_succ.{0}<|And.intro Bool.not_true<|And.intro Bool.not_false<|And.intro @List.toList_toArray.{0}<|And.intro @ifB_true @ifB_false
end Go.AM
end
section
namespace Go.AM
theorem aset_fresh {K V:Type} [DecidableEq K] (k:K) (v:V):∀ (l:List (K×V)),k ∉ l.map Prod.fst->aset k v l=l++[(k,v)]
 | [],_=>rfl
 | p :: l,h=>by
  simp only [List.map_cons,List.mem_cons,not_or] at h
  have e:¬ p.1=k:=fun x=>h.1 x.symm
  simp [aset,e,aset_fresh k v l h.2]
end Go.AM
end
section
namespace Go.AM
theorem makeS_all (size bytes n:Nat) (z:List Value) (hz:z.length=size) (h1:n*bytes<=2 ^ 47) (h2:n<2 ^ 62):makeS size bytes z.toArray (vi n) (vi n)=some (.cells (List.replicate n z).flatten none,fun b=>slc b 0 n n):=by
 simp only [makeS]
 rw [if_pos ⟨by omega,by omega,by exact_mod_cast h1,by exact_mod_cast h2⟩]
 simp only [Int.toNat_natCast]
 rw [repl_eq n size _ (by simpa using hz)]
 rfl
theorem flatten_repl (n:Nat) (z:Value):(List.replicate n [z]).flatten=List.replicate n z:=by
 induction n with
 | zero=>rfl
 | succ n ih=>simp [List.replicate_succ,ih]
end Go.AM
end
section
namespace Go.AM
section
variable {E:Sy} {H H' H'':AH} {Q:Value->AH->Prop} {t:Nat} {nv nv' nv'' mv:Value} {nx:Int} {mr:List (List Value)}
theorem buildS0 (sz:Nat) (z:List Value) (hz:z.length=sz):buildS 0 sz z.toArray []=some (.cells [] none,mkSlc 0 0):=by
 rw [buildS_eq _ _ _ _ hz]; simp; rfl
end
end Go.AM
end
section
namespace Go.AM
section
variable {E:Sy} {X:List Res} {H H' H0 Z:AH} {Q:Value->AH->Prop} {w:Nat} {M M':List MntD} {nx nx':Int} {L:List Res}
theorem newbox (H:AH) (c:List Value):NewRes (boxR H.next c) H (H.new (.cells c none)):=⟨(Ext.refl H).new _,AH.get_new_self _ _,fun b hb=>by simp [boxR] at hb; subst hb; simp,by simp [boxR]⟩
end
end Go.AM
end
section
namespace Go.AM
section
variable {E:Sy} {X:List Res} {H H' H0 Z:AH} {Q:Value->AH->Prop} {t w:Nat} {M M':List MntD} {nx nx':Int} {L:List Res} {s:Nat}
theorem two_store {H:AH} {z c:List Value} (hz:z.length=2) (hc:c.length=2) (hp:c.all plain1=true):storeN 2 (ptr H.next 0) (.agg c.toArray) (H.new (.cells z none))=some (H.new (.cells c none)):=by
 rw [storeN_ptr,AH.get_new_self]
 have:AM.splice z 0 c=c:=by simp [splice,hz,hc]
 simp only [List.size_toArray,List.toList_toArray,hc,hz,hp,Nat.zero_add,Nat.le_refl,and_self,if_true,this,AH.new_put]
end
end Go.AM
end
section
namespace Go.AM
set_option maxRecDepth 20000
section
variable {X:List Res} {E:Sy} {H H' H0 Z:AH} {Q:Value->AH->Prop} {w t:Nat} {M:List MntD} {v v':Value} {nx:Int}
theorem half (a b:Nat) (h:a+b<2 ^ 62):∃ y:BitVec 64,convInt .u64 (vi ((a+b:Nat):Int))=some (u64 (BitVec.ofInt 64 ((a+b:Nat):Int)))/\binInt .shr (u64 (BitVec.ofInt 64 ((a+b:Nat):Int))) (.int .u64 1)=some (u64 y)/\convInt .i64 (u64 y)=some (vi (((a+b) / 2:Nat):Int)):=by
 refine ⟨BitVec.ofInt 64 ((a+b:Nat):Int) >>> 1,i64_to_u64 _,u64_shr _ .u64 1,?_⟩
 have hy:(BitVec.ofInt 64 ((a+b:Nat):Int) >>> 1).toNat=(a+b) / 2:=by
  rw [BitVec.toNat_ushiftRight,BitVec.ofInt_natCast,BitVec.toNat_ofNat,Nat.mod_eq_of_lt (by omega),Nat.shiftRight_eq_div_pow]
 generalize BitVec.ofInt 64 ((a+b:Nat):Int) >>> 1=y at *
 rw [<- hy]
 have hlt:y.toNat<2 ^ 62:=by omega
 rw [u64_def,convInt_int,wrap_i64 (by omega) (by omega)]
end
end Go.AM
end
section
namespace Go.AM
set_option maxRecDepth 20000
section
variable {E:Sy} {H H' H0 Z:AH} {Q:Value->AH->Prop} {L:List Res}
def cmp32 (a b:BitVec 32):Int:=if a.toNat<b.toNat then -1 else if b.toNat<a.toNat then 1 else 0
theorem S.f6 (hE:Fold E) (a b:BitVec 32) (hQ:Q (vi (cmp32 a b)) H):E.call (E.fid i.f6) [u32 a,u32 b] H Q:=by
 have nn:∀ (x:BitVec 32) (K:Value->AH->Prop),K (vb false) H->E.call (E.fid i.f7) [u32 x] H K:=by
  intro x K hK
  apply hE.f7
  simp only [F.f7,u32_neq,ne_eq,not_true,decide_false,stdZ]
  exact hK
 apply hE.f6
 simp only [F.f6]
 refine nn a _ (nn b _ ?_)
 unfold cmp32 at hQ
 simp only [u32_lss,stdZ]
 by_cases h1:a.toNat<b.toNat
 ·rw [if_pos h1] at hQ
  simp only [h1,decide_true,stdZ]
  exact hQ
 ·rw [if_neg h1] at hQ
  simp only [h1,decide_false,u32_gtr,stdZ]
  by_cases h2:b.toNat<a.toNat
  ·rw [if_pos h2] at hQ
   simp only [h2,decide_true,stdZ]
   exact hQ
  ·rw [if_neg h2] at hQ
   simp only [h2,decide_false,stdZ]
   exact hQ
def a32R (l:List (BitVec 32)):List (List Value):=l.map fun x=>[u32 x]
theorem cond_load {c:CondD} {b:Nat} {H:AH} (hb:H.get b = .cells c.cells none):loadN 4 (ptr b 0) H=some c.v:=by rw [loadN_ptr,hb]; rfl
theorem cond_new (c:CondD) (H:AH):storeN 4 (ptr H.next 0) c.v (H.new (.cells [(.int .i64 0),(.int .u8 0),(.int .u64 0),(.int .u64 0)] none))=some (H.new (.cells c.cells none)):=by
 rw [storeN_ptr,AH.get_new_self]
 have h3:AM.splice [(.int .i64 0),(.int .u8 0),(.int .u64 0),(.int .u64 0)] 0 c.cells=c.cells:=rfl
 have h4:c.cells.all plain1=true:=rfl
 have h5:c.cells.length=4:=rfl
 simp only [List.size_toArray,List.toList_toArray,h4,h5,List.length_cons,List.length_nil,Nat.zero_add,Nat.le_refl,and_self,if_true,h3,AH.new_put]
def condR (l:List CondD):List (List Value):=l.map CondD.cells
theorem condR_length (l:List CondD):(condR l).length=l.length:=by simp [condR]
theorem cond_ix {v:Value} {l:List CondD} (hv:Rows H 4 v (condR l)) {j:Nat} (hj:j<l.length):∃ b o,ixSlc 4 v (vi j)=some (ptr b o)/\(∀ H',Ext H H'->loadN 4 (ptr b o) H'=some (l[j]).v):=by
 obtain ⟨b,o,f1,f2⟩:=hv.ix (i:=j) (by rw [condR_length]; exact hj)
 have hrow:(condR l)[j]'(by rw [condR_length]; exact hj)=(l[j]).cells:=by simp [condR]
 rw [hrow] at f2
 exact ⟨b,o,f1,fun H' e=>by rw [loadN_ptr,e.get (AH.lt_of_get (row_notdead f2)),f2]; rfl⟩
end
end Go.AM
end
section
namespace Go.AM
set_option maxRecDepth 20000
section
variable {E:Sy} {H H' H0 Z:AH} {Q:Value->AH->Prop} {L:List Res}
def BranchAt (n:Nat) (H:AH) (b:BranchD) (cs:List Value):Prop:=b.conds.length<2 ^ 30/\∃ v,cs=[v,u32 b.action]/\Rows H 4 v (condR b.conds)/\FreshV n v
theorem BranchAt.sub {n:Nat} {H H':AH} {b:BranchD} {cs:List Value} (h:BranchAt n H b cs) (e:Sub H H'):BranchAt n H' b cs:=by
 obtain ⟨h0,v,h1,h2,h3⟩:=h
 exact ⟨h0,v,h1,h2.sub e,h3⟩
end
end Go.AM
end
section
namespace Go.AM
open Go.Sort (swp SWO PermIn SortedIn)
section
variable {α:Type} [Inhabited α] {sz:Nat} {enc:α->List Value} {H H' H'':AH} {b c n:Nat} {d d':Array α} {tail:List Value} {f:Option Nat}
structure EncOk (sz:Nat) (enc:α->List Value):Prop where
 len:∀ x,(enc x).length=sz
 plain:∀ x,(enc x).all plain1=true
end
end Go.AM
end
section
namespace Go.AM
open Go.Sort (SWO PermIn SortedIn insertionSort)
set_option maxRecDepth 20000
abbrev PlV:={v:Value // plain1 v=true}
structure CaseE where
 c:CaseD
 v:PlV
def CaseE.cells (x:CaseE):List Value:=[u32 x.c.number,x.v.1]
instance:Inhabited CaseE:=⟨⟨⟨0,[]⟩,⟨nilS,rfl⟩⟩⟩
theorem caseE_ok:EncOk 2 CaseE.cells:=⟨fun _=>rfl,fun x=>by simp [CaseE.cells,x.v.2]⟩
def CaseAt (n:Nat) (H:AH) (c:CaseD) (cs:List Value):Prop:=∃ v,cs=[u32 c.number,v]/\SliceOf (BranchAt n) H 2 v c.branches
def PlanAt (H:AH) (p:PlanD) (cs:List Value):Prop:=∃ v,cs=[v,u32 p.default]/\SliceOf (CaseAt 0) H 2 v p.cases
theorem FreshV.zero (v:Value):FreshV 0 v:=fun _ _=>Nat.zero_le _
theorem CaseAt.sub {n:Nat} {H H':AH} {c:CaseD} {cs:List Value} (h:CaseAt n H c cs) (e:Sub H H'):CaseAt n H' c cs:=by
 obtain ⟨v,h1,h2⟩:=h
 exact ⟨v,h1,h2.sub (fun _ _ _ _ h e=>BranchAt.sub h e) e⟩
theorem PlanAt.mono {H H':AH} {p:PlanD} {cs:List Value} (h:PlanAt H p cs) (e:Ext H H'):PlanAt H' p cs:=by
 obtain ⟨v,h1,h2⟩:=h
 exact ⟨v,h1,h2.sub (fun _ _ _ _ h e=>CaseAt.sub h e) e.sub⟩
end Go.AM
end
section
namespace Go.AM
open Go.Sort (SWO PermIn SortedIn insertionSort)
set_option maxRecDepth 20000
def pv (v:PlV):Value:=v.1
end Go.AM
end
section
namespace Go.AM
open Go.Sort (SWO PermIn SortedIn insertionSort)
set_option maxRecDepth 20000
theorem Has.perm {H0 Z H:AH} {L L':List Res} (h:Has H0 Z H L) (p:L.Perm L'):Has H0 Z H L' :=
 ⟨h.ext,h.sub,fun r hr=>h.all r (p.mem_iff.2 hr),(p.flatMap_right Res.fp).nodup_iff.1 h.nd⟩
section
variable {E:Sy} {H H' H0 Z:AH} {Q:Value->AH->Prop} {L:List Res}
noncomputable local instance:DecidableEq (BitVec 32×PlV):=fun a b=>Classical.propDecidable _
end
end Go.AM
end
section
namespace Go.AM
set_option maxRecDepth 20000
section
variable {E:Sy} {H H' H0 Z:AH} {Q:Value->AH->Prop} {L:List Res}
theorem decide_1 (hE:Fold E) (x:CaseD) (c:List Value) (hx:CaseAt 0 H x c) (n:BitVec 32) (hQ:∀ H',Ext H H'->Q (vi (cmp32 x.number n)) H'):E.call (E.fid i.f16) [.agg c.toArray,u32 n] H Q:=by
 apply hE.f16
 obtain ⟨v,rfl,_⟩:=hx
 have x1:Ext H (H.new (.cells [u32 x.number,v] none)):=(Ext.refl _).new _
 have hb1:=AH.get_new_self H (.cells [u32 x.number,v] none)
 simp only [F.f16,boxO_agg_z,AM.mk_some,mkPtr_eq_z,List.toList_toArray,hb1,stdZ]
 exact S.f6 hE _ _ (hQ _ x1)
theorem case_elem {v:Value} {l:List CaseD} (h:SliceOf (CaseAt 0) H 2 v l) {j:Nat} (hj:j<l.length):∃ b o c,ixSlc 2 v (vi j)=some (ptr b o)/\(H.get b).row o 2=some c/\loadN 2 (ptr b o) H=some (.agg c.toArray)/\CaseAt 0 H l[j] c:=by
 obtain ⟨b,o,c,h1,h2,h3⟩:=h.ix hj
 exact ⟨b,o,c,h1,h2,by rw [loadN_ptr,h2]; rfl,h3⟩
theorem S.f46 (hE:Fold E) {v:Value} {l:List CaseD} (hs:SliceOf (CaseAt 0) H 2 v l) (hr:l.Pairwise fun a b=>a.number.toNat<b.number.toNat) (hl:l.length<2 ^ 60) (n:BitVec 32)
  (hQ:∀ (a:Nat) H',Ext H H'->a<=l.length->(∀ b (h:b<l.length),b<a->(l[b]).number.toNat<n.toNat)->(∀ b (h:b<l.length),a<=b->n.toNat<=(l[b]).number.toNat)->Q (.tuple #[vi a,vb (decide (l[a]?.map CaseD.number=some n))]) H') :
  E.call (E.fid i.f46) [v,u32 n,.func (.func (E.fid i.f16)) #[] #[]] H Q:=by
 apply hE.f46
 have hlv:=SliceOf.lenSlc hs
 have i0:(.int .i64 0:Value)=vi ((0:Nat):Int):=rfl
 simp only [F.f46,hlv,i0,stdZ]
 refine LoopL.ind (fun m ls H'=>∃ (a b:Nat),m=b - a/\a<=b/\b<=l.length/\ls=[v,u32 n,.func (.func (E.fid i.f16)) #[] #[],vi l.length,vi a,vi b]/\Ext H H'/\(∀ c (h:c<l.length),c<a->(l[c]).number.toNat<n.toNat)/\(∀ c (h:c<l.length),b<=c->n.toNat<=(l[c]).number.toNat)) ?_ l.length
  ⟨0,l.length,rfl,Nat.zero_le _,Nat.le_refl _,rfl,Ext.refl _,fun c _ h=>by omega,fun c h1 h2=>by omega⟩
 rintro m _ H1 X ih ⟨a,b,rfl,hab,hbl,rfl,e1,hlo,hhi⟩
 have hs1:SliceOf (CaseAt 0) H1 2 v l:=hs.sub (fun _ _ _ _ h e=>CaseAt.sub h e) e1.sub
 rcases Nat.lt_or_ge a b with hlt | hge
 ·have hlt':(a:Int)<b:=by omega
  have hadd:binInt .add (vi a) (vi b)=some (vi ((a+b:Nat):Int)):=by
   rw [i64_add (by omega) (by omega)]; congr 2
  obtain ⟨y,y1,y2,y3⟩:=half a b (by omega)
  have hm:(a+b) / 2<l.length:=by omega
  obtain ⟨bb,o,c,q1,_,q2,q3⟩:=case_elem hs1 hm
  have hma:a<=(a+b) / 2/\(a+b) / 2<b:=by omega
  have hmono:∀ p q (hp:p<l.length) (hq:q<l.length),p<=q->(l[p]).number.toNat<=(l[q]).number.toNat:=fun p q hp hq hpq=>by
   rcases Nat.lt_or_ge p q with h | h
   ·exact Nat.le_of_lt (List.pairwise_iff_getElem.1 hr p q hp hq h)
   ·have:p=q:=by omega
    subst this; exact Nat.le_refl _
  have hhj:=i64_inc (i:=(a+b) / 2) (by omega)
  have hlow:∀ c (h:c<l.length),c<=(a+b) / 2->(l[c]).number.toNat<=(l[(a+b) / 2]).number.toNat:=fun c h hc=>hmono _ _ h hm hc
  have hupp:∀ c (h:c<l.length),(a+b) / 2<=c->(l[(a+b) / 2]).number.toNat<=(l[c]).number.toNat:=fun c h hc=>hmono _ _ hm h hc
  generalize l[(a+b) / 2]=x at *
  generalize (a+b) / 2=p at *
  simp only [F.f46_l1,i64_lss,hlt',decide_true,hadd,y1,y2,y3,q1,q2,callV_func,List.nil_append,List.append_nil,stdZ]
  refine decide_1 hE x c q3 n fun H2 e2 =>?_
  unfold cmp32
  by_cases h1:x.number.toNat<n.toNat
  ·have hneg:((-1:Int)<0):=by decide
   rw [if_pos h1]
   simp only [i64_lss,hneg,decide_true,hhj,stdZ]
   exact ih _ (by omega) _ _ ⟨p+1,b,rfl,by omega,hbl,rfl,e1.trans e2,fun c h hc=>Nat.lt_of_le_of_lt (hlow c h (by omega)) h1,hhi⟩
  ·have hz:¬ ((if n.toNat<x.number.toNat then (1:Int) else 0)<0):=by split <;> decide
   rw [if_neg h1]
   simp only [i64_lss,hz,decide_false,stdZ]
   exact ih _ (by omega) _ _ ⟨a,p,rfl,by omega,by omega,rfl,e1.trans e2,hlo,fun c h hc=>Nat.le_trans (by omega) (hupp c h hc)⟩
 ·have hae:a=b:=by omega
  subst hae
  have hlt':¬ (a:Int)<a:=by omega
  rcases Nat.lt_or_ge a l.length with hl1 | hl1
  ·have hl1':(a:Int)<l.length:=by omega
   obtain ⟨bb,o,c,q1,_,q2,q3⟩:=case_elem hs1 hl1
   have hle:=hhi a hl1 (Nat.le_refl _)
   have hget:l[a]?.map CaseD.number=some l[a].number:=by rw [List.getElem?_eq_getElem hl1]; rfl
   simp only [F.f46_l1,i64_lss,hlt',decide_false,hl1',decide_true,q1,q2,callV_func,List.nil_append,List.append_nil,stdZ]
   refine decide_1 hE _ c q3 n fun H2 e2 =>?_
   have hq:=hQ a H2 (e1.trans e2) hbl hlo hhi
   rw [hget] at hq
   unfold cmp32
   by_cases h1:l[a].number=n
   ·rw [if_neg (by rw [h1]; omega),if_neg (by rw [h1]; omega)]
    simp only [h1,decide_true] at hq
    simp only [i64_eql,decide_true,stdZ]
    exact hq
   ·have h2:n.toNat<l[a].number.toNat:=by
     rcases Nat.lt_or_ge n.toNat l[a].number.toNat with h | h
     ·exact h
     ·exact (h1 (BitVec.eq_of_toNat_eq (by omega))).elim
    rw [if_neg (by omega),if_pos h2]
    have hd:decide (some l[a].number=some n)=false:=by simpa using h1
    rw [hd] at hq
    simp only [i64_eql,show ((1:Int)=0)=False by simp,decide_false,stdZ]
    exact hq
  ·have hl1':¬ (a:Int)<l.length:=by omega
   have hq:=hQ a H1 e1 hbl hlo hhi
   rw [List.getElem?_eq_none hl1] at hq
   simp only [F.f46_l1,i64_lss,hlt',decide_false,hl1',stdZ]
   exact hq
theorem S.f15 (hE:Fold E) (p:PlanD) (cs:List Value) (hp:PlanAt H p cs) (hr:p.cases.Pairwise fun a b=>a.number.toNat<b.number.toNat) (hl:p.cases.length<2 ^ 60) (hb:∀ c∈p.cases,c.branches.length<2 ^ 30) (r:RecD) (hro:r.ok)
  (hQ:∀ H',Ext H H'->Q (u32 (decideF p r)) H'):E.call (E.fid i.f15) [.agg cs.toArray,r.v] H Q:=by
 apply hE.f15
 obtain ⟨v,rfl,hv⟩:=hp
 have x2:Ext H ((H.new (.cells [v,u32 p.default] none)).new (.cells r.cells none)):=((Ext.refl _).new _).new _
 have b1:((H.new (.cells [v,u32 p.default] none)).new (.cells r.cells none)).get H.next = .cells [v,u32 p.default] none:=by rw [AH.get_new_ne _ _ (by rw [AH.next_new]; omega),AH.get_new_self]
 have b2:((H.new (.cells [v,u32 p.default] none)).new (.cells r.cells none)).get (H.next+1) = .cells r.cells none:=AH.get_new_self (H.new _) _
 have c1:r.cells[1]? = some (u32 r.arch):=rfl
 have c0:r.cells[0]? = some (u32 r.number):=rfl
 have kA:(.int .u32 3221225534:Value)=u32 3221225534#32:=rfl
 simp only [F.f15,boxO_agg_z,AM.mk_some,mkPtr_eq_z,List.toList_toArray,AH.next_new_z,b1,b2,c1,kA,u32_neq,stdZ]
 generalize (H.new (.cells [v,u32 p.default] none)).new (.cells r.cells none)=H2 at *
 unfold decideF at hQ
 by_cases ha:r.arch=3221225534#32
 rotate_left
 ·rw [if_neg ha] at hQ
  have hd:decide (r.arch≠3221225534#32)=true:=by simpa using ha
  simp only [hd,stdZ]
  exact hQ _ x2
 rw [if_pos ha] at hQ
 have hd:decide (r.arch≠3221225534#32)=false:=by simpa using ha
 simp only [hd,b1,b2,c0,stdZ]
 have hv2:=hv.sub (fun _ _ _ _ h e=>CaseAt.sub h e) x2.sub
 refine S.f46 hE hv2 hr hl r.number fun a H3 e3 ha1 ha2 ha3 =>?_
 have b13:=e3.cells b1
 have b23:=e3.cells b2
 have x3:=x2.trans e3
 by_cases hf:p.cases[a]?.map CaseD.number=some r.number
 rotate_left
 ·have hnone:p.cases.find? (fun c=>decide (c.number=r.number))=none:=by
   rw [List.find?_eq_none]
   intro c hc
   obtain ⟨j,hj,rfl⟩:=List.getElem_of_mem hc
   simp only [decide_eq_true_eq]
   intro he
   rcases Nat.lt_trichotomy j a with h | h | h
   ·have:=ha2 j hj h; rw [he] at this; omega
   ·subst h; exact hf (by rw [List.getElem?_eq_getElem hj,Option.map_some,he])
   ·have hal:a<p.cases.length:=by omega
    have h1:=List.pairwise_iff_getElem.1 hr a j hal hj h
    have h2:=ha3 a hal (Nat.le_refl _)
    rw [he] at h1
    omega
  rw [hnone] at hQ
  have hd:decide (p.cases[a]?.map CaseD.number=some r.number)=false:=by simpa using hf
  simp only [hd,b13,stdZ]
  exact hQ _ x3
 have hal:a<p.cases.length:=by
  rcases Nat.lt_or_ge a p.cases.length with h | h
  ·exact h
  ·rw [List.getElem?_eq_none h] at hf; simp at hf
 rw [List.getElem?_eq_getElem hal,Option.map_some,Option.some.injEq] at hf
 have hd:decide (p.cases[a]?.map CaseD.number=some r.number)=true:=by rw [List.getElem?_eq_getElem hal]; simp [hf]
 have hsome:p.cases.find? (fun c=>decide (c.number=r.number))=some p.cases[a]:=by
  rw [List.find?_eq_some_iff_getElem]
  refine ⟨by simpa using hf,a,hal,rfl,fun j hj =>?_⟩
  have h1:=ha2 j (by omega) hj
  simp only [Bool.not_eq_true',decide_eq_false_iff_not]
  intro he
  rw [he] at h1
  omega
 rw [hsome] at hQ
 simp only at hQ
 have hv3:=hv.sub (fun _ _ _ _ h e=>CaseAt.sub h e) x3.sub
 obtain ⟨b,o,c,q1,q2,_,q3⟩:=case_elem hv3 hal
 have hbl:=hb _ (List.getElem_mem hal)
 generalize p.cases[a]=k at *
 obtain ⟨bv,rfl,hbv⟩:=q3
 have q4:(H3.get b).cell (o+1)=some bv:=by have:=row_at q2 (j:=1) (by omega); simpa using this
 have hlb:=hbv.lenSlc
 have i0:(.int .i64 0:Value)=vi ((0:Nat):Int):=rfl
 simp only [hd,b13,q1,q4,hlb,i0,stdZ]
 unfold decideB at hQ
 refine LoopL.count k.branches.length (fun j ls H'=>ls=[ptr H.next 0,ptr (H.next+1) 0,bv,vi (k.branches.length:Int),vi j]/\Ext H3 H'/\∀ i (hi:i<k.branches.length),i<j->holdAll k.branches[i].conds r=false) ?_ ⟨rfl,Ext.refl _,fun i _ h=>by omega⟩
 rintro j _ H4 X hj hX ⟨rfl,e4,hno⟩
 have b14:=e4.cells b13
 have b24:=e4.cells b23
 by_cases hjl:j<k.branches.length
 rotate_left
 ·have hjl':¬ (j:Int)<k.branches.length:=by omega
  have hnone:k.branches.find? (fun b=>holdAll b.conds r)=none:=by
   rw [List.find?_eq_none]
   intro x hx
   obtain ⟨i,hi,rfl⟩:=List.getElem_of_mem hx
   rw [hno i hi (by omega)]
   simp
  rw [hnone] at hQ
  simp only [F.f15_l1,i64_lss,hjl',decide_false,b14,stdZ]
  exact hQ _ (x3.trans e4)
 have hX:=hX hjl
 have hjl':(j:Int)<k.branches.length:=by omega
 have hjj:=i64_inc (i:=j) (by omega)
 obtain ⟨bb,oo,bc,w1,w2,w3⟩:=(hbv.sub (fun _ _ _ _ h e=>BranchAt.sub h e) e4.sub).ix hjl
 have hstep:holdAll k.branches[j].conds r=false->∀ i (hi:i<k.branches.length),i<j+1->holdAll k.branches[i].conds r=false:=by
  intro h i hi hij
  by_cases e:i=j
  ·subst e; exact h
  ·exact hno i hi (by omega)
 have hfound:holdAll k.branches[j].conds r=true->k.branches.find? (fun b=>holdAll b.conds r)=some k.branches[j]:=by
  intro h
  rw [List.find?_eq_some_iff_getElem]
  exact ⟨h,j,hjl,rfl,fun i hi=>by rw [hno i (by omega) hi]; rfl⟩
 generalize k.branches[j]=br at *
 obtain ⟨hcl,cv,rfl,hcv,_⟩:=w3
 have hpc:=hcv.plain
 have lo:loadN 2 (ptr bb oo) H4=some (.agg [cv,u32 br.action].toArray):=by rw [loadN_ptr,w2]; rfl
 have st:storeN 2 (ptr H4.next 0) (.agg [cv,u32 br.action].toArray) (H4.new (.cells [(.slice none 0 0),(.int .u32 0)] none))=some (H4.new (.cells [cv,u32 br.action] none)):=two_store rfl rfl (by simp [hpc])
 have x5:Ext H4 (H4.new (.cells [cv,u32 br.action] none)):=(Ext.refl _).new _
 have b5:=AH.get_new_self H4 (.cells [cv,u32 br.action] none)
 have hlc:=(hcv.mono x5).lenSlc
 rw [condR_length] at hlc
 have hcv5:=hcv.mono x5
 have b25:=x5.cells b24
 simp only [F.f15_l1,i64_lss,hjl',decide_true,w1,lo,allocW_eq,st,b5,hlc,i0,stdZ]
 generalize H4.new (.cells [cv,u32 br.action] none)=H5 at *
 generalize H4.next=bx at *
 refine LoopL.count br.conds.length (fun q ls H'=>ls=[ptr H.next 0,ptr (H.next+1) 0,ptr bx 0,bv,vi (k.branches.length:Int),vi j,cv,vi (br.conds.length:Int),vi q]/\Ext H5 H'/\∀ i (hi:i<br.conds.length),i<q->holds br.conds[i] r.args=true) ?_ ⟨rfl,Ext.refl _,fun i _ h=>by omega⟩
 rintro q _ H6 X1 hq hX1 ⟨rfl,e6,hyes⟩
 by_cases hql:q<br.conds.length
 rotate_left
 ·have hql':¬ (q:Int)<br.conds.length:=by omega
  have hall:holdAll br.conds r=true:=by
   unfold holdAll
   rw [List.all_eq_true]
   intro x hx
   obtain ⟨i,hi,rfl⟩:=List.getElem_of_mem hx
   exact hyes i hi (by omega)
  rw [hfound hall] at hQ
  simp only [F.f15_l2,i64_lss,hql',decide_false,e6.cells b5,stdZ]
  exact hQ _ ((x3.trans e4).trans (x5.trans e6))
 have hX1:=hX1 hql
 have hql':(q:Int)<br.conds.length:=by omega
 have hqq:=i64_inc (i:=q) (by omega)
 obtain ⟨d1,d2,m1,m2⟩:=cond_ix (hcv5.mono e6) hql
 have hy2:holds br.conds[q] r.args=true->∀ i (hi:i<br.conds.length),i<q+1->holds br.conds[i] r.args=true:=by
  intro h i hi hij
  by_cases e:i=q
  ·subst e; exact h
  ·exact hyes i hi (by omega)
 have hn2:holds br.conds[q] r.args=false->holdAll br.conds r=false:=by
  intro h
  unfold holdAll
  rw [List.all_eq_false]
  exact ⟨_,List.getElem_mem hql,by rw [h]; simp⟩
 generalize br.conds[q]=c at *
 have x7:Ext H6 (H6.new (.cells c.cells none)):=(Ext.refl _).new _
 have b7:=AH.get_new_self H6 (.cells c.cells none)
 have b27:=(e6.trans x7).cells b25
 have e9:=row_all r.cells none 9 (RecD.cells_len hro)
 have lor:loadN 9 (ptr (H.next+1) 0) (H6.new (.cells c.cells none))=some r.v:=by rw [loadN_ptr,b27,e9]; rfl
 simp only [F.f15_l2,i64_lss,hql',decide_true,m1,m2 _ (Ext.refl _),allocW_eq,cond_new,cond_load b7,lor,stdZ]
 refine S.f37 hE c r hro fun H8 e8 =>?_
 have x8:=x7.trans e8
 cases hh:holds c r.args with
 | true =>
  simp only [hqq,stdZ]
  exact hX1 _ _ ⟨rfl,e6.trans x8,hy2 hh⟩
 | false =>
  simp only [hjj,stdZ]
  exact hX _ _ ⟨rfl,e4.trans (x5.trans (e6.trans x8)),hstep (hn2 hh)⟩
end
end Go.AM
end
section
namespace Go.AM
deriving instance DecidableEq for InsnD
structure PartD where
 kind:BitVec 8
 to:Int
 els:Int
 insn:InsnD
 deriving DecidableEq
def PartD.cells (p:PartD):List Value:=[u8 p.kind,vi p.to,vi p.els,u16 p.insn.code,u8 p.insn.jt,u8 p.insn.jf,u32 p.insn.k]
abbrev PartD.v (p:PartD):Value := .agg p.cells.toArray
def partR (l:List PartD):List (List Value):=l.map PartD.cells
def InsnD.zero:InsnD:=⟨0#16,0#8,0#8,0#32⟩
def pHere (n:Nat):PartD:=⟨1#8,n,0,.zero⟩
def pPlain (i:InsnD):PartD:=⟨2#8,0,0,i⟩
def pIf (how:BitVec 16) (k:BitVec 32) (t e:Nat):PartD:=⟨3#8,t,e,⟨5#16|||how|||0#16,0#8,0#8,k⟩⟩
def pGoto (n:Nat):PartD:=⟨4#8,n,0,.zero⟩
def iLoad (k:BitVec 32):InsnD:=⟨32#16,0#8,0#8,k⟩
def iRet (k:BitVec 32):InsnD:=⟨6#16,0#8,0#8,k⟩
def iMask (k:BitVec 32):InsnD:=⟨84#16,0#8,0#8,k⟩
structure LwD where
 parts:List PartD
 last:Nat
 other:Nat
 acts:List (BitVec 32×Nat)
 order:List (BitVec 32)
def LwD.new (s:LwD):LwD:={ s with last:=s.last+1 }
def LwD.put (s:LwD) (p:PartD):LwD:={ s with parts:=s.parts++[p] }
def LwD.act (s:LwD) (a:BitVec 32):LwD×Nat:=match alook a s.acts with
 | some n=>(s,n)
 | none=>({ s with last:=s.last+1,acts:=aset a (s.last+1) s.acts,order:=s.order++[a] },s.last+1)
def halfOf (n:Int) (b:Bool):BitVec 32:=BitVec.ofNat 32 (16+8*clampArg n+(if b then 4 else 0))
def LwD.second (s:LwD) (c:CondD) (at_:Nat):LwD:=(s.put (pHere at_)).put (pPlain (iLoad (halfOf c.arg false)))
def LwD.order64 (s:LwD) (c:CondD) (how:BitVec 16) (yes no:Nat):LwD :=
 let same:=s.last+1
 let next:=s.last+2
 let s:=(((s.new.new.put (pIf 32#16 (hi32 c.value) yes same)).put (pHere same)).put (pIf 16#16 (hi32 c.value) next no))
 (s.second c next).put (pIf how (lo32 c.value) yes no)
def LwD.condOn (s:LwD) (c:CondD) (next yes no:Nat):LwD :=
 if c.op=1#8 then ((s.put (pIf 16#16 (hi32 c.value) next no)).second c next).put (pIf 16#16 (lo32 c.value) yes no)
 else if c.op=2#8 then ((s.put (pIf 16#16 (hi32 c.value) next yes)).second c next).put (pIf 16#16 (lo32 c.value) no yes)
 else if c.op=5#8 then s.order64 c 32#16 yes no
 else if c.op=6#8 then s.order64 c 48#16 yes no
 else if c.op=3#8 then s.order64 c 48#16 no yes
 else if c.op=4#8 then s.order64 c 32#16 no yes
 else if c.op=7#8 then ((((s.put (pPlain (iMask (hi32 c.mask)))).put (pIf 16#16 (hi32 c.value) next no)).second c next).put (pPlain (iMask (lo32 c.mask)))).put (pIf 16#16 (lo32 c.value) yes no)
 else s.put (pGoto no)
def LwD.cond (s:LwD) (c:CondD) (yes no:Nat):LwD:=(s.new.put (pPlain (iLoad (halfOf c.arg true)))).condOn c (s.last+1) yes no
def LwD.condStep (no:Nat) (s:LwD) (c:CondD):LwD:=(s.new.cond c (s.last+1) no).put (pHere (s.last+1))
def LwD.conds (no:Nat) (l:List CondD) (s:LwD):LwD:=l.foldl (LwD.condStep no) s
def LwD.branch (s:LwD) (b:BranchD):LwD :=
 let t:=LwD.conds (s.last+1) b.conds s.new
 ((t.act b.action).1.put (pGoto (t.act b.action).2)).put (pHere (s.last+1))
def LwD.branches (l:List BranchD) (s:LwD):LwD:=let t:=l.foldl LwD.branch s; t.put (pGoto t.other)
def getN (n:BitVec 32) (l:List (BitVec 32×Nat)):Nat:=(alook n l).getD 0
def numAt (l:List CaseD) (k:Nat):BitVec 32:=(l[k]?.map CaseD.number).getD 0#32
def LwD.choose (starts:List (BitVec 32×Nat)):Nat->List CaseD->LwD->LwD
 | 0,_,s=>s
 | f+1,l,s =>
  if l.length=0 then s.put (pGoto s.other)
  else if l.length=1 then s.put (pIf 16#16 (numAt l 0) (getN (numAt l 0) starts) s.other)
  else LwD.choose starts f (l.drop (l.length / 2)) ((LwD.choose starts f (l.take (l.length / 2)) ((s.new.new.put (pIf 48#16 (numAt l (l.length / 2)) (s.last+2) (s.last+1))).put (pHere (s.last+1)))).put (pHere (s.last+2)))
def LwD.end1 (acts:List (BitVec 32×Nat)) (s:LwD) (a:BitVec 32):LwD:=(s.put (pHere (getN a acts))).put (pPlain (iRet a))
def LwD.ends (s:LwD):LwD:=s.order.foldl (LwD.end1 s.acts) s
def LwD.start1 (x:LwD×List (BitVec 32×Nat)) (c:CaseD):LwD×List (BitVec 32×Nat):=(x.1.new,aset c.number (x.1.last+1) x.2)
def LwD.starts (l:List CaseD) (x:LwD×List (BitVec 32×Nat)):LwD×List (BitVec 32×Nat):=l.foldl LwD.start1 x
def LwD.case1 (starts:List (BitVec 32×Nat)) (s:LwD) (c:CaseD):LwD:=LwD.branches c.branches (s.put (pHere (getN c.number starts)))
def LwD.cases (starts:List (BitVec 32×Nat)) (l:List CaseD) (s:LwD):LwD:=l.foldl (LwD.case1 starts) s
def LwD.setO (s:LwD) (n:Nat):LwD:=⟨s.parts,s.last,n,s.acts,s.order⟩
def LwD.zero:LwD:=⟨[],0,0,[],[]⟩
def low1 (d:BitVec 32):LwD:=(LwD.zero.act d).1.setO (LwD.zero.act d).2
def low2 (d:BitVec 32):LwD×Nat:=(low1 d).act 2147483648#32
def lower0 (d:BitVec 32):LwD:=(((low2 d).1.new.put (pPlain (iLoad 4#32))).put (pIf 16#16 3221225534#32 ((low2 d).1.last+1) (low2 d).2)).put (pHere ((low2 d).1.last+1))
def low3 (p:PlanD):LwD×List (BitVec 32×Nat):=LwD.starts p.cases (lower0 p.default,[])
def low4 (p:PlanD):LwD:=LwD.choose (low3 p).2 (p.cases.length+1) p.cases ((low3 p).1.put (pPlain (iLoad 0#32)))
def lowerF (p:PlanD):LwD:=(LwD.cases (low3 p).2 p.cases (low4 p)).ends
end Go.AM
end
section
namespace Go.AM
set_option maxRecDepth 20000
def natV (n:Nat):Value:=vi n
def lwL (lw m:Nat) (lv ov:Value) (s:LwD):List Res:=[boxR lw [lv,vi s.last,vi s.other,.map (some m),ov],growR 7 lv (partR s.parts),mapR u32 natV m s.acts,growR 1 ov (a32R s.order)]
def Lw (H0 Z H:AH) (lw m:Nat) (s:LwD) (X:List Res):Prop:=∃ lv ov,Has H0 Z H (lwL lw m lv ov s++X)
def LwO (H0 Z H:AH) (lw m:Nat) (ov:Value) (s:LwD) (X:List Res):Prop:=∃ lv,Has H0 Z H (lwL lw m lv ov s++X)
def LwD.big (s:LwD):Nat:=s.parts.length+s.last+s.order.length
section
variable {E:Sy} {H H' H0 Z:AH} {Q:Value->AH->Prop} {X:List Res} {lw m:Nat} {s:LwD}
theorem ptr_eql_nil (b o:Nat):binNil eqPtr .eql (ptr b o) (.pointer none)=some (vb false):=rfl
theorem ptr_neq_nil (b o:Nat):binNil eqPtr .neq (ptr b o) (.pointer none)=some (vb true):=rfl
theorem Has.dropLast {L:List Res} {r:Res} (h:Has H0 Z H (L++[r])):Has H0 Z H L:=by
 have:=h.drop L.length
 rwa [List.eraseIdx_append_of_length_le (Nat.le_refl _),Nat.sub_self,List.eraseIdx_cons_zero,List.append_nil] at this
theorem Lw.grow (h:Lw H0 Z H lw m s X) (e:Ext H H'):Lw H0 Z H' lw m s X:=by
 obtain ⟨lv,ov,h⟩:=h
 exact ⟨lv,ov,h.grow e⟩
theorem LwO.grow {ov:Value} (h:LwO H0 Z H lw m ov s X) (e:Ext H H'):LwO H0 Z H' lw m ov s X:=by
 obtain ⟨lv,h⟩:=h
 exact ⟨lv,h.grow e⟩
theorem Lw.newbox (h:Lw H0 Z H lw m s X) (c:List Value):Lw H0 Z (H.new (.cells c none)) lw m s (X++[boxR H.next c]):=by
 obtain ⟨lv,ov,h⟩:=h
 have:=h.newbox c
 rw [List.append_assoc] at this
 exact ⟨lv,ov,this⟩
theorem Lw.box {t:Nat} {c:List Value} (h:Lw H0 Z H lw m s (X++[boxR t c])):H.get t = .cells c none:=by
 obtain ⟨lv,ov,h⟩:=h
 exact (h.all (boxR t c) (by simp)).1
theorem Lw.dropLast {r:Res} (h:Lw H0 Z H lw m s (X++[r])):Lw H0 Z H lw m s X:=by
 obtain ⟨lv,ov,h⟩:=h
 rw [<- List.append_assoc] at h
 exact ⟨lv,ov,h.dropLast⟩
theorem Lw.ext (h:Lw H0 Z H lw m s X):Ext H0 H:=by
 obtain ⟨lv,ov,h⟩:=h
 exact h.ext
theorem S.f20 (hE:Fold E) (h:Lw H0 Z H lw m s X) (hb:s.big<2 ^ 30) (hQ:∀ H',Lw H0 Z H' lw m s.new X->Q (vi ((s.last+1:Nat):Int)) H'):E.call (E.fid i.f20) [ptr lw 0] H Q:=by
 apply hE.f20
 obtain ⟨lv,ov,h⟩:=h
 have hbx:=h.box (k:=0) rfl
 have hlt:s.last<2 ^ 62:=by unfold LwD.big at hb; omega
 have hinc:=i64_inc (i:=s.last) (by omega)
 have g:=h.put (k:=0) rfl [lv,vi ((s.last+1:Nat):Int),vi s.other,.map (some m),ov]
 have hst:store1 (ptr lw 1) (vi ((s.last+1:Nat):Int)) H=some (H.put lw (.cells [lv,vi ((s.last+1:Nat):Int),vi s.other,.map (some m),ov] none)):=by
  rw [store1_ptr,if_pos (show plain1 (vi ((s.last+1:Nat):Int))=true from rfl),hbx]; rfl
 have hb2:=g.box (k:=0) rfl
 simp only [F.f20,ptr_neq_nil,ptr_eql_nil,hbx,hinc,hst,hb2,stdZ]
 exact hQ _ ⟨lv,ov,g⟩
theorem put_o (hE:Fold E) {ov:Value} (h:LwO H0 Z H lw m ov s X) (hb:s.big<2 ^ 30) (p:PartD) (hQ:∀ H',LwO H0 Z H' lw m ov (s.put p) X->Q (.tuple #[]) H'):E.call (E.fid i.f23) [ptr lw 0,p.v] H Q:=by
 apply hE.f23
 obtain ⟨lv,h⟩:=h
 have h1:=h.newbox p.cells
 have hbx:=h1.box (k:=0) (b:=lw) rfl
 have hb1:=AH.get_new_self H (.cells p.cells none)
 have hlen:(partR s.parts).length<2 ^ 30:=by unfold LwD.big at hb; simp only [partR,List.length_map]; omega
 have hbS:buildS 1 7 #[(.int .u8 0),(.int .i64 0),(.int .i64 0),(.int .u16 0),(.int .u8 0),(.int .u8 0),(.int .u32 0)] [(0,p.v)]=some (.cells p.cells none,mkSlc 1 1):=buildS_one 7 [u8 0#8,vi 0,vi 0,u16 0#16,u8 0#8,u8 0#8,u32 0#32] p.cells rfl rfl
 have hlo:loadN 7 (ptr H.next 0) (H.new (.cells p.cells none))=some p.v:=by
  rw [loadN_ptr,hb1,row_all _ _ 7 rfl]; rfl
 have h1:Has H0 Z (H.new (.cells p.cells none)) (lwL lw m lv ov s++X):=h1.dropLast
 obtain ⟨v',H3,a1,a2,g⟩:=h1.app1 (k:=1) (sz:=7) (v:=lv) (rows:=partR s.parts) (bytes:=32) rfl p.cells rfl (by simp [PartD.cells]) (by decide) (by decide) (by omega)
 have a1:app 7 32 lv (slc (H.next+1) 0 1 1) ((H.new (.cells p.cells none)).new (.cells p.cells none))=some (v',H3):=a1
 have hbx3:=g.box (k:=0) (b:=lw) (c:=[lv,vi s.last,vi s.other,.map (some m),ov]) rfl
 have hst:store1 (ptr lw 0) v' H3=some (H3.put lw (.cells [v',vi s.last,vi s.other,.map (some m),ov] none)):=by
  rw [store1_ptr,if_pos a2,hbx3]; rfl
 have g2:=g.put (k:=0) (b:=lw) (c:=[lv,vi s.last,vi s.other,.map (some m),ov]) rfl [v',vi s.last,vi s.other,.map (some m),ov]
 simp only [F.f23,boxO_agg_z,AM.mk_some,mkPtr_eq_z,List.toList_toArray,ptr_neq_nil,ptr_eql_nil,hbx,hlo,hbS,mkSlc_eq,a1,hst,stdZ]
 refine hQ _ ⟨v',?_⟩
 have hr:partR (s.put p).parts=partR s.parts++[p.cells]:=by simp [partR,LwD.put]
 show Has H0 Z _ (boxR lw [v',vi s.last,vi s.other,.map (some m),ov] :: growR 7 v' (partR (s.put p).parts) :: mapR u32 natV m s.acts :: growR 1 ov (a32R s.order) :: X)
 rw [hr]
 exact g2
theorem S.f23 (hE:Fold E) (h:Lw H0 Z H lw m s X) (hb:s.big<2 ^ 30) (p:PartD) (hQ:∀ H',Lw H0 Z H' lw m (s.put p) X->Q (.tuple #[]) H'):E.call (E.fid i.f23) [ptr lw 0,p.v] H Q:=by
 obtain ⟨lv,ov,h⟩:=h
 exact put_o hE ⟨lv,h⟩ hb p fun H' ⟨lv',h'⟩=>hQ H' ⟨lv',ov,h'⟩
theorem S.f18 (hE:Fold E) (h:Lw H0 Z H lw m s X) (hb:s.big<2 ^ 30) (n:Nat) (hQ:∀ H',Lw H0 Z H' lw m (s.put (pHere n)) X->Q (.tuple #[]) H'):E.call (E.fid i.f18) [ptr lw 0,vi n] H Q:=by
 apply hE.f18
 have hbv:buildV [(0,1),(1,1),(2,1),(3,4)] #[(.int .u8 0),(.int .i64 0),(.int .i64 0),(.int .u16 0),(.int .u8 0),(.int .u8 0),(.int .u32 0)] [(0,(.int .u8 1)),(1,vi n)]=some (pHere n).v:=rfl
 simp only [F.f18,hbv,stdZ]
 exact S.f23 hE h hb _ hQ
theorem here_o (hE:Fold E) {ov:Value} (h:LwO H0 Z H lw m ov s X) (hb:s.big<2 ^ 30) (n:Nat) (hQ:∀ H',LwO H0 Z H' lw m ov (s.put (pHere n)) X->Q (.tuple #[]) H'):E.call (E.fid i.f18) [ptr lw 0,vi n] H Q:=by
 apply hE.f18
 have hbv:buildV [(0,1),(1,1),(2,1),(3,4)] #[(.int .u8 0),(.int .i64 0),(.int .i64 0),(.int .u16 0),(.int .u8 0),(.int .u8 0),(.int .u32 0)] [(0,(.int .u8 1)),(1,vi n)]=some (pHere n).v:=rfl
 simp only [F.f18,hbv,stdZ]
 exact put_o hE h hb _ hQ
theorem S.f17 (hE:Fold E) (h:Lw H0 Z H lw m s X) (hb:s.big<2 ^ 30) (n:Nat) (hQ:∀ H',Lw H0 Z H' lw m (s.put (pGoto n)) X->Q (.tuple #[]) H'):E.call (E.fid i.f17) [ptr lw 0,vi n] H Q:=by
 apply hE.f17
 have hbv:buildV [(0,1),(1,1),(2,1),(3,4)] #[(.int .u8 0),(.int .i64 0),(.int .i64 0),(.int .u16 0),(.int .u8 0),(.int .u8 0),(.int .u32 0)] [(0,(.int .u8 4)),(1,vi n)]=some (pGoto n).v:=rfl
 simp only [F.f17,hbv,stdZ]
 exact S.f23 hE h hb _ hQ
theorem S.f22 (hE:Fold E) (h:Lw H0 Z H lw m s X) (hb:s.big<2 ^ 30) (n:InsnD) (hQ:∀ H',Lw H0 Z H' lw m (s.put (pPlain n)) X->Q (.tuple #[]) H'):E.call (E.fid i.f22) [ptr lw 0,n.v] H Q:=by
 apply hE.f22
 have hb1:=AH.get_new_self H (.cells n.cells none)
 have hlo:loadN 4 (ptr H.next 0) (H.new (.cells n.cells none))=some n.v:=by
  rw [loadN_ptr,hb1,row_all _ _ 4 rfl]; rfl
 have hbv:buildV [(0,1),(1,1),(2,1),(3,4)] #[(.int .u8 0),(.int .i64 0),(.int .i64 0),(.int .u16 0),(.int .u8 0),(.int .u8 0),(.int .u32 0)] [(0,(.int .u8 2)),(3,n.v)]=some (pPlain n).v:=rfl
 simp only [F.f22,boxO_agg_z,AM.mk_some,mkPtr_eq_z,List.toList_toArray,hlo,hbv,stdZ]
 exact S.f23 hE (h.grow ((Ext.refl H).new _)) hb _ hQ
theorem plain_o (hE:Fold E) {ov:Value} (h:LwO H0 Z H lw m ov s X) (hb:s.big<2 ^ 30) (n:InsnD) (hQ:∀ H',LwO H0 Z H' lw m ov (s.put (pPlain n)) X->Q (.tuple #[]) H'):E.call (E.fid i.f22) [ptr lw 0,n.v] H Q:=by
 apply hE.f22
 have hb1:=AH.get_new_self H (.cells n.cells none)
 have hlo:loadN 4 (ptr H.next 0) (H.new (.cells n.cells none))=some n.v:=by
  rw [loadN_ptr,hb1,row_all _ _ 4 rfl]; rfl
 have hbv:buildV [(0,1),(1,1),(2,1),(3,4)] #[(.int .u8 0),(.int .i64 0),(.int .i64 0),(.int .u16 0),(.int .u8 0),(.int .u8 0),(.int .u32 0)] [(0,(.int .u8 2)),(3,n.v)]=some (pPlain n).v:=rfl
 simp only [F.f22,boxO_agg_z,AM.mk_some,mkPtr_eq_z,List.toList_toArray,hlo,hbv,stdZ]
 exact put_o hE (h.grow ((Ext.refl H).new _)) hb _ hQ
theorem S.f19 (hE:Fold E) (h:Lw H0 Z H lw m s X) (hb:s.big<2 ^ 30) (how:BitVec 16) (k:BitVec 32) (t e:Nat) (hQ:∀ H',Lw H0 Z H' lw m (s.put (pIf how k t e)) X->Q (.tuple #[]) H'):E.call (E.fid i.f19) [ptr lw 0,u16 how,u32 k,vi t,vi e] H Q:=by
 apply hE.f19
 simp only [F.f19,stdZ]
 refine S.f9 hE how k 0#8 0#8 fun H1 e1 =>?_
 have hbv:∀ n:InsnD,buildV [(0,1),(1,1),(2,1),(3,4)] #[(.int .u8 0),(.int .i64 0),(.int .i64 0),(.int .u16 0),(.int .u8 0),(.int .u8 0),(.int .u32 0)] [(0,(.int .u8 3)),(1,vi t),(2,vi e),(3,n.v)]=some (PartD.v ⟨3#8,t,e,n⟩):=fun _=>by rw [buildV_eq]; rfl
 have hv:insnV (5#16|||how|||0#16) 0#8 0#8 k=InsnD.v ⟨5#16|||how|||0#16,0#8,0#8,k⟩:=rfl
 rw [hv]
 simp only [hbv,stdZ]
 exact S.f23 hE (h.grow e1) hb _ hQ
end
end Go.AM
end
section
namespace Go.AM
set_option maxRecDepth 20000
structure MkD where
 out:List InsnD
 places:List (Int×Nat)
def hopI (n:Int):InsnD:=⟨5#16,0#8,0#8,BitVec.ofInt 32 n⟩
def MkD.away (s:MkD) (n:Int):Int:=(s.out.length:Int) - ((alook n s.places).getD 0:Nat)
def MkD.hop (s:MkD) (n:Int):MkD:=⟨hopI n :: s.out,s.places⟩
def MkD.cmp2 (s:MkD) (i1:InsnD) (to els:Int):MkD:=⟨⟨i1.code,BitVec.ofInt 8 to,BitVec.ofInt 8 els,i1.k⟩ :: s.out,s.places⟩
def MkD.cmp1 (s:MkD) (i1:InsnD) (to els:Int):MkD:=if 253<to then (s.hop to).cmp2 i1 0 (els+1) else s.cmp2 i1 to els
def MkD.cmp0 (s:MkD) (i1:InsnD) (to els:Int):MkD:=if 253<els then (s.hop els).cmp1 i1 (to+1) 0 else s.cmp1 i1 to els
def MkD.part (s:MkD) (p:PartD):Int ⊕ MkD :=
 if p.kind=1#8 then (if (alook p.to s.places).isSome then .inl 206 else .inr ⟨s.out,aset p.to s.out.length s.places⟩)
 else if p.kind=2#8 then (if iclass p.insn.code=5#16 then .inl 210 else .inr ⟨p.insn :: s.out,s.places⟩)
 else if p.kind=4#8 then (if (alook p.to s.places).isSome then .inr (s.hop (s.away p.to)) else .inl 207)
 else if p.kind=3#8 then
  (if iclass p.insn.code≠5#16\/p.insn.code=5#16 then .inl 210
  else if (alook p.to s.places).isSome=false\/(alook p.els s.places).isSome=false then .inl 207
  else .inr (s.cmp0 p.insn (s.away p.to) (s.away p.els)))
 else .inl 210
def makeF:List PartD->Int ⊕ MkD
 | [] => .inr ⟨[],[]⟩
 | p :: l=>match makeF l with
  | .inl e => .inl e
  | .inr s=>match s.part p with
   | .inl e => .inl e
   | .inr t=>if 4096<t.out.length then .inl 205 else .inr t
def insnR (l:List InsnD):List (List Value):=l.map InsnD.cells
def mkL (mb pm:Nat) (ov:Value) (s:MkD):List Res:=[boxR mb [ov,.map (some pm)],growR 4 ov (insnR s.out.reverse),mapR vi natV pm s.places]
def Mk (H0 Z H:AH) (mb pm:Nat) (s:MkD) (X:List Res):Prop:=∃ ov,Has H0 Z H (mkL mb pm ov s++X)
section
variable {E:Sy} {H H' H0 Z:AH} {Q:Value->AH->Prop} {X:List Res} {mb pm:Nat} {s:MkD}
theorem same_vi (a b:Int):sameCell 0 (vi a) (vi b)=some (decide (a=b)):=by
 simp only [sameCell]
 rfl
theorem MapAt.look_int {r:Nat} {l:List (Int×Nat)} (h:MapAt vi natV H r l) (a:Int) (ok:Bool):AM.look 0 (.int .i64 0) ok (.map (some r)) (vi a) H=some (if ok then .tuple #[vi ((alook a l).getD 0:Nat),.bool (alook a l).isSome] else vi ((alook a l).getD 0:Nat)):=by
 have:=h.look (kd:=0) same_vi a (.int .i64 0) ok
 cases hk:alook a l with
 | none=>unfold alook at hk; rw [hk] at this; rw [this]; cases ok <;> rfl
 | some n=>unfold alook at hk; rw [hk] at this; rw [this]; cases ok <;> rfl
theorem Mk.grow (h:Mk H0 Z H mb pm s X) (e:Ext H H'):Mk H0 Z H' mb pm s X:=by
 obtain ⟨ov,h⟩:=h
 exact ⟨ov,h.grow e⟩
theorem Mk.ext (h:Mk H0 Z H mb pm s X):Ext H0 H:=by
 obtain ⟨ov,h⟩:=h
 exact h.ext
theorem Mk.newbox (h:Mk H0 Z H mb pm s X) (c:List Value):Mk H0 Z (H.new (.cells c none)) mb pm s (X++[boxR H.next c]):=by
 obtain ⟨ov,h⟩:=h
 have:=h.newbox c
 rw [List.append_assoc] at this
 exact ⟨ov,this⟩
theorem Mk.box {t:Nat} {c:List Value} (h:Mk H0 Z H mb pm s (X++[boxR t c])):H.get t = .cells c none:=by
 obtain ⟨ov,h⟩:=h
 exact (h.all (boxR t c) (by simp)).1
theorem Mk.dropLast {r:Res} (h:Mk H0 Z H mb pm s (X++[r])):Mk H0 Z H mb pm s X:=by
 obtain ⟨ov,h⟩:=h
 rw [<- List.append_assoc] at h
 exact ⟨ov,h.dropLast⟩
theorem Mk.cells (h:Mk H0 Z H mb pm s X):∃ ov,H.get mb = .cells [ov,.map (some pm)] none/\lenSlc ov=some (vi s.out.length):=by
 obtain ⟨ov,h⟩:=h
 have hl:=(h.rows (k:=1) (sz:=4) (v:=ov) (rows:=insnR s.out.reverse) rfl).lenSlc
 simp only [insnR,List.length_map,List.length_reverse] at hl
 exact ⟨ov,h.box (k:=0) rfl,hl⟩
theorem Mk.look (h:Mk H0 Z H mb pm s X) (a:Int):AM.look 0 (.int .i64 0) true (.map (some pm)) (vi a) H=some (.tuple #[vi ((alook a s.places).getD 0:Nat),.bool (alook a s.places).isSome]):=by
 obtain ⟨ov,h⟩:=h
 exact (h.mapAt (k:=2) (fk:=vi) (fv:=natV) (r:=pm) (l:=s.places) rfl).look_int a true
theorem Mk.push (h:Mk H0 Z H mb pm s X) (hl:s.out.length<2 ^ 30) (x:InsnD) {ov:Value} (ho:H.get mb = .cells [ov,.map (some pm)] none) :
  ∃ v' H1,app 4 8 ov (slc H.next 0 1 1) (H.new (.cells x.cells none))=some (v',H1)/\∃ H2,store1 (ptr mb 0) v' H1=some H2/\Mk H0 Z H2 mb pm ⟨x :: s.out,s.places⟩ X:=by
 obtain ⟨ov2,h⟩:=h
 have hb:=h.box (k:=0) (b:=mb) (c:=[ov2,.map (some pm)]) rfl
 rw [ho] at hb
 injection hb with hb _
 simp only [List.cons.injEq,and_true] at hb
 subst hb
 obtain ⟨v',H3,a1,a2,g⟩:=h.app1 (k:=1) (sz:=4) (v:=ov) (rows:=insnR s.out.reverse) (bytes:=8) rfl x.cells rfl rfl (by decide) (by decide) (by simp only [insnR,List.length_map,List.length_reverse]; omega)
 have hbx:=g.box (k:=0) (b:=mb) (c:=[ov,.map (some pm)]) rfl
 have hst:store1 (ptr mb 0) v' H3=some (H3.put mb (.cells [v',.map (some pm)] none)):=by
  rw [store1_ptr,if_pos a2,hbx]; rfl
 have g2:=g.put (k:=0) (b:=mb) (c:=[ov,.map (some pm)]) rfl [v',.map (some pm)]
 refine ⟨v',H3,a1,_,hst,v',?_⟩
 have hr:insnR (x :: s.out).reverse=insnR s.out.reverse++[x.cells]:=by simp [insnR]
 show Has H0 Z _ (boxR mb [v',.map (some pm)] :: growR 4 v' (insnR (x :: s.out).reverse) :: mapR vi natV pm s.places :: X)
 rw [hr]
 exact g2
theorem Mk.setPlace (h:Mk H0 Z H mb pm s X) (n:Int) (k:Nat):∃ H',setMap 0 (.map (some pm)) (vi n) (vi k) H=some H'/\Mk H0 Z H' mb pm ⟨s.out,aset n k s.places⟩ X:=by
 obtain ⟨ov,h⟩:=h
 obtain ⟨H2,m1,g2⟩:=h.mapset (n:=2) (r:=pm) (l:=s.places) (fk:=vi) (fv:=natV) rfl same_vi n k
 exact ⟨H2,m1,ov,g2⟩
theorem S.f25 (hE:Fold E) (h:Mk H0 Z H mb pm s X) (hl:s.out.length<2 ^ 30) (n:Int) (hk:(alook n s.places).getD 0<2 ^ 30) (hQ:Q (.tuple #[vi (s.away n),vb (alook n s.places).isSome]) H):E.call (E.fid i.f25) [ptr mb 0,vi n] H Q:=by
 apply hE.f25
 obtain ⟨ov,hbx,hlv⟩:=h.cells
 have hlk:=h.look n
 have hsub:binInt .sub (vi s.out.length) (vi ((alook n s.places).getD 0:Nat))=some (vi (s.away n)):=i64_sub (by omega) (by omega)
 simp only [F.f25,hbx,hlk,hlv,hsub,stdZ]
 exact hQ
theorem S.f27 (hE:Fold E) (h:Mk H0 Z H mb pm s X) (hl:s.out.length<2 ^ 30) (n:Int) (hQ:∀ H',Mk H0 Z H' mb pm (s.hop n) X->Q (.tuple #[]) H'):E.call (E.fid i.f27) [ptr mb 0,vi n] H Q:=by
 apply hE.f27
 obtain ⟨ov,hbx,hlv⟩:=h.cells
 simp only [F.f27,hbx,i64_to_u32,stdZ]
 refine S.f14 hE _ fun H1 e1 =>?_
 have hb1:=e1.cells hbx
 refine ⟨by rw [load1_ptr,load1_ptr,hb1,hbx],?_⟩
 have hv:insnV 5 0 0 (BitVec.ofInt 32 n)=(hopI n).v:=rfl
 have hbS:buildS 1 4 #[(.int .u16 0),(.int .u8 0),(.int .u8 0),(.int .u32 0)] [(0,(hopI n).v)]=some (.cells (hopI n).cells none,mkSlc 1 1):=buildS_one 4 [u16 0#16,u8 0#8,u8 0#8,u32 0#32] (hopI n).cells rfl rfl
 obtain ⟨v',H2,a1,H3,a2,g⟩:=(h.grow e1).push hl (hopI n) hb1
 rw [hv]
 simp only [hbS,AM.mk_some,mkSlc_eq,a1,a2,stdZ]
 exact hQ _ g
end
end Go.AM
end
section
namespace Go.AM
set_option maxRecDepth 20000
def MkD.okM (s:MkD):Prop:=s.out.length<2 ^ 27/\∀ n,(alook n s.places).getD 0<=s.out.length
section
variable {E:Sy} {H H' H0 Z:AH} {Q:Value->AH->Prop} {X:List Res} {mb pm:Nat} {s:MkD}
theorem insn_new (x:InsnD) (H:AH):storeN 4 (ptr H.next 0) x.v (H.new (.cells [(.int .u16 0),(.int .u8 0),(.int .u8 0),(.int .u32 0)] none))=some (H.new (.cells x.cells none)):=by
 rw [storeN_ptr,AH.get_new_self]
 have h3:AM.splice [(.int .u16 0),(.int .u8 0),(.int .u8 0),(.int .u32 0)] 0 x.cells=x.cells:=rfl
 have h4:x.cells.all plain1=true:=rfl
 have h5:x.cells.length=4:=rfl
 simp only [List.size_toArray,List.toList_toArray,h4,h5,List.length_cons,List.length_nil,Nat.zero_add,Nat.le_refl,and_self,if_true,h3,AH.new_put]
theorem new_store {c c':List Value} {k:Nat} {v:Value} (H:AH) (hp:plain1 v=true) (hk:k<c.length) (he:c.set k v=c'):store1 (ptr H.next k) v (H.new (.cells c none))=some (H.new (.cells c' none)):=by
 subst he
 rw [store1_ptr,if_pos hp,AH.get_new_self]
 simp only [hk,if_true,AH.new_put]
theorem compare_j2 (hE:Fold E) {p:PartD} {t:Nat} (h:Mk H0 Z H mb pm s (X++[boxR t p.cells])) (hl:s.out.length<2 ^ 29) (to els:Int) (hQ:∀ H',Mk H0 Z H' mb pm (s.cmp2 p.insn to els) X->Q (.int .i64 0) H'):F.f26_j2 E Q (ptr mb 0) (ptr t 0) (vi to) (vi els) H:=by
 have hb:=h.box
 have lo:loadN 4 (ptr t 3) H=some p.insn.v:=by rw [loadN_ptr,hb]; rfl
 have s1:=insn_new p.insn H
 have s2:=new_store (c:=p.insn.cells) (c':=[u16 p.insn.code,u8 (BitVec.ofInt 8 to),u8 p.insn.jf,u32 p.insn.k]) (k:=1) (v:=u8 (BitVec.ofInt 8 to)) H rfl (by simp [InsnD.cells]) rfl
 have s3:=new_store (c:=[u16 p.insn.code,u8 (BitVec.ofInt 8 to),u8 p.insn.jf,u32 p.insn.k]) (c':=InsnD.cells ⟨p.insn.code,BitVec.ofInt 8 to,BitVec.ofInt 8 els,p.insn.k⟩) (k:=2) (v:=u8 (BitVec.ofInt 8 els)) H rfl (by simp) rfl
 generalize hx:(⟨p.insn.code,BitVec.ofInt 8 to,BitVec.ofInt 8 els,p.insn.k⟩:InsnD)=x at *
 have b1:=AH.get_new_self H (.cells x.cells none)
 have g:=h.newbox x.cells
 obtain ⟨ov,hbx,hlv⟩:=g.cells
 have lo2:loadN 4 (ptr H.next 0) (H.new (.cells x.cells none))=some x.v:=by rw [loadN_ptr,b1,row_all _ _ 4 rfl]; rfl
 have hbS:buildS 1 4 #[(.int .u16 0),(.int .u8 0),(.int .u8 0),(.int .u32 0)] [(0,x.v)]=some (.cells x.cells none,mkSlc 1 1):=buildS_one 4 [u16 0#16,u8 0#8,u8 0#8,u32 0#32] x.cells rfl rfl
 obtain ⟨v',H2,a1,H3,a2,g2⟩:=g.push (by omega) x hbx
 simp only [F.f26_j2,lo,allocW_eq,s1,s2,s3,i64_to_u8,hbx,lo2,hbS,AM.mk_some,mkSlc_eq,stdZ]
 have a1:app 4 8 ov (slc (H.next+1) 0 1 1) ((H.new (.cells x.cells none)).new (.cells x.cells none))=some (v',H2):=a1
 simp only [a1,a2,stdZ]
 refine hQ _ ?_
 unfold MkD.cmp2
 rw [hx]
 exact g2.dropLast.dropLast
theorem compare_j1 (hE:Fold E) {p:PartD} {t:Nat} (h:Mk H0 Z H mb pm s (X++[boxR t p.cells])) (hl:s.out.length<2 ^ 28) (to els:Int) (h1:els<2 ^ 40) (h2 : -2 ^ 40<els) (hQ:∀ H',Mk H0 Z H' mb pm (s.cmp1 p.insn to els) X->Q (.int .i64 0) H'):F.f26_j1 E Q (ptr mb 0) (ptr t 0) (vi to) (vi els) H:=by
 have k253:(.int .i64 253:Value)=vi 253:=rfl
 have i0:(.int .i64 0:Value)=vi 0:=rfl
 have i1:(.int .i64 1:Value)=vi 1:=rfl
 simp only [F.f26_j1,k253,i64_gtr,stdZ]
 unfold MkD.cmp1 at hQ
 by_cases hg:253<to
 ·have hd:decide ((253:Int)<to)=true:=decide_eq_true hg
  rw [if_pos hg] at hQ
  simp only [hd,stdZ]
  refine S.f27 hE h (by omega) to fun H1 g =>?_
  have ha:binInt .add (vi els) (vi 1)=some (vi (els+1)):=i64_add (by omega) (by omega)
  simp only [i1,i0,ha,stdZ]
  refine compare_j2 hE g ?_ 0 (els+1) hQ
  show (hopI to :: s.out).length<_
  rw [List.length_cons]; omega
 ·have hd:decide ((253:Int)<to)=false:=decide_eq_false hg
  rw [if_neg hg] at hQ
  simp only [hd,stdZ]
  exact compare_j2 hE h (by omega) to els hQ
theorem S.f26 (hE:Fold E) (h:Mk H0 Z H mb pm s X) (ok:s.okM) (p:PartD)
  (hB:∀ e H',(iclass p.insn.code≠5#16\/p.insn.code=5#16)->e=210->Ext H0 H'->Q (vi e) H')
  (hJ:∀ e H',¬ (iclass p.insn.code≠5#16\/p.insn.code=5#16)->((alook p.to s.places).isSome=false\/(alook p.els s.places).isSome=false)->e=207->Ext H0 H'->Q (vi e) H')
  (hQ:∀ H',¬ (iclass p.insn.code≠5#16\/p.insn.code=5#16)->¬ ((alook p.to s.places).isSome=false\/(alook p.els s.places).isSome=false)->Mk H0 Z H' mb pm (s.cmp0 p.insn (s.away p.to) (s.away p.els)) X->Q (.int .i64 0) H') :
  E.call (E.fid i.f26) [ptr mb 0,p.v] H Q:=by
 apply hE.f26
 have g:=h.newbox p.cells
 have b1:=AH.get_new_self H (.cells p.cells none)
 have c1:p.cells[1]? = some (vi p.to):=rfl
 have c2:p.cells[2]? = some (vi p.els):=rfl
 have c3:p.cells[3]? = some (u16 p.insn.code):=rfl
 have k5:(.int .u16 5:Value)=u16 5#16:=rfl
 have i0:(.int .i64 0:Value)=vi 0:=rfl
 have i1:(.int .i64 1:Value)=vi 1:=rfl
 have k253:(.int .i64 253:Value)=vi 253:=rfl
 have p1:=ok.2 p.to
 have p2:=ok.2 p.els
 have p0:=ok.1
 have aw1:s.away p.to=(s.out.length:Int) - ((alook p.to s.places).getD 0:Nat):=rfl
 have aw2:s.away p.els=(s.out.length:Int) - ((alook p.els s.places).getD 0:Nat):=rfl
 simp only [F.f26,boxO_agg_z,AM.mk_some,mkPtr_eq_z,List.toList_toArray,b1,c1,stdZ]
 generalize H.new (.cells p.cells none)=H1 at *
 generalize H.next=t at *
 refine S.f25 hE g (by omega) p.to (by omega) ?_
 simp only [b1,c2,stdZ]
 refine S.f25 hE g (by omega) p.els (by omega) ?_
 simp only [b1,c3,stdZ]
 refine S.f8 hE _ ?_
 simp only [k5,u16_neq,stdZ]
 by_cases hc1:iclass p.insn.code=5#16
 rotate_left
 ·have hd:decide (iclass p.insn.code≠5#16)=true:=decide_eq_true hc1
  simp only [hd,stdZ]
  exact hB 210 _ (.inl hc1) rfl g.ext
 have hd:decide (iclass p.insn.code≠5#16)=false:=decide_eq_false (by simpa using hc1)
 simp only [hd,b1,c3,k5,u16_eql,stdZ]
 by_cases hc2:p.insn.code=5#16
 ·have hd2:decide (p.insn.code=5#16)=true:=decide_eq_true hc2
  simp only [hd,hd2,stdZ]
  exact hB 210 _ (.inr hc2) rfl g.ext
 have hd2:decide (p.insn.code=5#16)=false:=decide_eq_false hc2
 have hcc:¬ (iclass p.insn.code≠5#16\/p.insn.code=5#16):=by
  rintro (h | h)
  ·exact h hc1
  ·exact hc2 h
 simp only [hd,hd2,stdZ]
 cases ho1:(alook p.to s.places).isSome with
 | false =>
  simp only [stdZ]
  exact hJ 207 _ hcc (.inl ho1) rfl g.ext
 | true =>
  cases ho2:(alook p.els s.places).isSome with
  | false =>
   simp only [stdZ]
   exact hJ 207 _ hcc (.inr ho2) rfl g.ext
  | true =>
   have hoo:¬ ((alook p.to s.places).isSome=false\/(alook p.els s.places).isSome=false):=by rw [ho1,ho2]; simp
   have hQ:=fun H' h=>hQ H' hcc hoo h
   unfold MkD.cmp0 at hQ
   simp only [k253,i64_gtr,stdZ]
   by_cases hg:253<s.away p.els
   ·have hd:decide ((253:Int)<s.away p.els)=true:=decide_eq_true hg
    rw [if_pos hg] at hQ
    have ha:binInt .add (vi (s.away p.to)) (vi 1)=some (vi (s.away p.to+1)):=i64_add (by omega) (by omega)
    simp only [hd,stdZ]
    refine S.f27 hE g (by omega) _ fun H2 g2 =>?_
    simp only [i1,i0,ha,stdZ]
    refine compare_j1 hE g2 ?_ _ 0 (by omega) (by omega) hQ
    show (hopI _ :: s.out).length<_
    rw [List.length_cons]; omega
   ·have hd:decide ((253:Int)<s.away p.els)=false:=decide_eq_false hg
    rw [if_neg hg] at hQ
    simp only [hd,stdZ]
    exact compare_j1 hE g (by omega) _ _ (by omega) (by omega) hQ
end
end Go.AM
end
section
namespace Go.AM
set_option maxRecDepth 20000
section
variable {E:Sy} {H H' H0 Z:AH} {Q:Value->AH->Prop} {X:List Res} {mb pm:Nat} {s:MkD}
theorem S.f28 (hE:Fold E) (h:Mk H0 Z H mb pm s X) (ok:s.okM) (p:PartD)
  (hB:∀ e H',s.part p = .inl e->e≠0->Ext H0 H'->Q (vi e) H')
  (hQ:∀ t H',s.part p = .inr t->Mk H0 Z H' mb pm t X->Q (.int .i64 0) H') :
  E.call (E.fid i.f28) [ptr mb 0,p.v] H Q:=by
 apply hE.f28
 have g:=h.newbox p.cells
 have b1:=AH.get_new_self H (.cells p.cells none)
 have c0:p.cells[0]? = some (u8 p.kind):=rfl
 have c1:p.cells[1]? = some (vi p.to):=rfl
 have c3:p.cells[3]? = some (u16 p.insn.code):=rfl
 have q1:(.int .u8 1:Value)=u8 1#8:=rfl
 have q2:(.int .u8 2:Value)=u8 2#8:=rfl
 have q3:(.int .u8 3:Value)=u8 3#8:=rfl
 have q4:(.int .u8 4:Value)=u8 4#8:=rfl
 have k5:(.int .u16 5:Value)=u16 5#16:=rfl
 have p1:=ok.2 p.to
 have p0:=ok.1
 have lo:loadN 7 (ptr H.next 0) (H.new (.cells p.cells none))=some p.v:=by rw [loadN_ptr,b1,row_all _ _ 7 rfl]; rfl
 have lo3:loadN 4 (ptr H.next 3) (H.new (.cells p.cells none))=some p.insn.v:=by rw [loadN_ptr,b1]; rfl
 simp only [F.f28,boxO_agg_z,AM.mk_some,mkPtr_eq_z,List.toList_toArray,b1,c0,q1,u8_eql,stdZ]
 generalize H.new (.cells p.cells none)=H1 at *
 generalize H.next=t at *
 unfold MkD.part at hB hQ
 by_cases o1:p.kind=1#8
 ·have hd:decide (p.kind=1#8)=true:=decide_eq_true o1
  simp only [if_pos o1] at hB hQ
  obtain ⟨ov,hbx,hlv⟩:=g.cells
  have hlk:=g.look p.to
  simp only [hd,hbx,b1,c1,hlk,stdZ]
  cases hs:(alook p.to s.places).isSome with
  | true =>
   rw [hs] at hB hQ
   simp only [stdZ]
   exact hB 206 _ rfl (by decide) g.ext
  | false =>
   rw [hs] at hB hQ
   obtain ⟨H2,m1,g2⟩:=g.setPlace p.to s.out.length
   simp only [hbx,b1,c1,hlv,m1,stdZ]
   exact hQ _ _ rfl g2.dropLast
 have hd1:decide (p.kind=1#8)=false:=decide_eq_false o1
 simp only [if_neg o1] at hB hQ
 simp only [hd1,q2,u8_eql,stdZ]
 by_cases o2:p.kind=2#8
 ·have hd:decide (p.kind=2#8)=true:=decide_eq_true o2
  simp only [if_pos o2] at hB hQ
  simp only [hd,b1,c3,stdZ]
  refine S.f8 hE _ ?_
  simp only [k5,u16_eql,stdZ]
  by_cases hc:iclass p.insn.code=5#16
  ·have hd:decide (iclass p.insn.code=5#16)=true:=decide_eq_true hc
   simp only [if_pos hc] at hB
   simp only [hd,stdZ]
   exact hB 210 _ rfl (by decide) g.ext
  ·have hd:decide (iclass p.insn.code=5#16)=false:=decide_eq_false hc
   simp only [if_neg hc] at hQ
   obtain ⟨ov,hbx,hlv⟩:=g.cells
   have hbS:buildS 1 4 #[(.int .u16 0),(.int .u8 0),(.int .u8 0),(.int .u32 0)] [(0,p.insn.v)]=some (.cells p.insn.cells none,mkSlc 1 1):=buildS_one 4 [u16 0#16,u8 0#8,u8 0#8,u32 0#32] p.insn.cells rfl rfl
   obtain ⟨v',H2,a1,H3,a2,g2⟩:=g.push (by omega) p.insn hbx
   simp only [hd,hbx,lo3,hbS,AM.mk_some,mkSlc_eq,a1,a2,stdZ]
   exact hQ _ _ rfl g2.dropLast
 have hd2:decide (p.kind=2#8)=false:=decide_eq_false o2
 simp only [if_neg o2] at hB hQ
 simp only [hd2,q4,u8_eql,stdZ]
 by_cases o4:p.kind=4#8
 ·have hd:decide (p.kind=4#8)=true:=decide_eq_true o4
  simp only [if_pos o4] at hB hQ
  simp only [hd,b1,c1,stdZ]
  refine S.f25 hE g (by omega) p.to (by omega) ?_
  cases hs:(alook p.to s.places).isSome with
  | false =>
   rw [hs] at hB hQ
   simp only [stdZ]
   exact hB 207 _ rfl (by decide) g.ext
  | true =>
   rw [hs] at hB hQ
   simp only [stdZ]
   refine S.f27 hE g (by omega) _ fun H2 g2 =>?_
   exact hQ _ _ rfl g2.dropLast
 have hd4:decide (p.kind=4#8)=false:=decide_eq_false o4
 simp only [if_neg o4] at hB hQ
 simp only [hd4,q3,u8_eql,stdZ]
 by_cases o3:p.kind=3#8
 ·have hd:decide (p.kind=3#8)=true:=decide_eq_true o3
  simp only [if_pos o3] at hB hQ
  simp only [hd,lo,stdZ]
  refine S.f26 hE g ok p (fun e H' h1 he e1 =>?_) (fun e H' h1 h2 he e1 =>?_) fun H' h1 h2 g2 =>?_
  ·subst he
   exact hB 210 _ (if_pos h1) (by decide) e1
  ·subst he
   exact hB 207 _ (by rw [if_neg h1,if_pos h2]) (by decide) e1
  ·exact hQ _ _ (by rw [if_neg h1,if_neg h2]) g2.dropLast
 have hd3:decide (p.kind=3#8)=false:=decide_eq_false o3
 simp only [if_neg o3] at hB
 simp only [hd3,stdZ]
 exact hB 210 _ rfl (by decide) g.ext
end
end Go.AM
end
section
namespace Go.AM
set_option maxRecDepth 20000
theorem alook_asetG {K V:Type} [DecidableEq K] (k n:K) (v:V):∀ l:List (K×V),alook n (aset k v l)=if n=k then some v else alook n l
 | []=>by simp only [aset,alook_cons]
 | p :: l=>by
  simp only [aset]
  by_cases h:p.1=k
  ·rw [if_pos h,alook_cons,alook_cons]
   by_cases hn:n=k
   ·rw [if_pos hn,if_pos hn]
   ·rw [if_neg hn,if_neg hn,if_neg (by rw [h]; exact hn)]
  ·rw [if_neg h,alook_cons,alook_cons,alook_asetG k n v l]
   by_cases hn:n=p.1
   ·rw [if_pos hn,if_neg (by rw [hn]; exact h),if_pos hn]
   ·rw [if_neg hn,if_neg hn]
def MkD.okP (s:MkD):Prop:=∀ n k,alook n s.places=some k->k<=s.out.length
theorem MkD.okP.getD {s:MkD} (h:s.okP) (n:Int):(alook n s.places).getD 0<=s.out.length:=by
 cases hk:alook n s.places with
 | none=>exact Nat.zero_le _
 | some k=>exact h n k hk
theorem MkD.okP.push {s:MkD} (h:s.okP) (x:InsnD):MkD.okP ⟨x :: s.out,s.places⟩:=fun n k hk=>Nat.le_succ_of_le (h n k hk)
theorem cmp0_places (s:MkD) (x:InsnD) (a b:Int):(s.cmp0 x a b).places=s.places:=by
 unfold MkD.cmp0 MkD.cmp1 MkD.cmp2
 split <;> split <;> rfl
theorem cmp0_len (s:MkD) (x:InsnD) (a b:Int):s.out.length<(s.cmp0 x a b).out.length/\(s.cmp0 x a b).out.length<=s.out.length+3:=by
 unfold MkD.cmp0 MkD.cmp1 MkD.cmp2 MkD.hop
 split <;> split <;> simp <;> omega
theorem part_ok {s t:MkD} {p:PartD} (h:s.okP) (e:s.part p = .inr t):t.okP/\s.out.length<=t.out.length/\t.out.length<=s.out.length+3:=by
 unfold MkD.part at e
 split at e
 ·split at e
  ·cases e
  ·cases e
   refine ⟨fun n k hk =>?_,Nat.le_refl _,Nat.le_add_right _ _⟩
   simp only [alook_asetG] at hk
   split at hk
   ·cases hk; exact Nat.le_refl _
   ·exact h n k hk
 ·split at e
  ·split at e
   ·cases e
   ·cases e
    exact ⟨h.push _,by simp,by simp⟩
  ·split at e
   ·split at e
    ·cases e
     exact ⟨h.push _,by simp [MkD.hop],by simp [MkD.hop]⟩
    ·cases e
   ·split at e
    ·split at e
     ·cases e
     ·split at e
      ·cases e
      ·cases e
       have h2:=cmp0_len s p.insn (s.away p.to) (s.away p.els)
       refine ⟨fun n k hk =>?_,by omega,h2.2⟩
       rw [cmp0_places] at hk
       exact Nat.le_trans (h n k hk) (by omega)
    ·cases e
theorem makeF_ok:∀ {l:List PartD} {s:MkD},makeF l = .inr s->s.okP/\s.out.length<=4096
 | [],s,e=>by
  cases e
  exact ⟨fun n k hk=>by simp [alook] at hk,Nat.zero_le _⟩
 | p :: l,s,e=>by
  unfold makeF at e
  split at e
  ·cases e
  ·rename_i s1 h1
   have ih:=makeF_ok h1
   split at e
   ·cases e
   ·rename_i t h2
    split at e
    ·cases e
    ·cases e
     exact ⟨(part_ok ih.1 h2).1,by omega⟩
theorem makeF_app {e:Int} {b:List PartD} (h:makeF b = .inl e):∀ a:List PartD,makeF (a++b) = .inl e
 | []=>h
 | p :: a=>by
  show makeF (p :: (a++b))=_
  unfold makeF
  rw [makeF_app h a]
theorem makeF_err {e:Int} {l:List PartD} (k:Nat) (h:makeF (l.drop k) = .inl e):makeF l = .inl e:=by
 have:=makeF_app h (l.take k)
 rwa [List.take_append_drop] at this
section
variable {E:Sy} {H H' H0 Z:AH} {Q:Value->AH->Prop} {X:List Res} {mb pm:Nat} {s:MkD}
theorem Has.newroomc {L:List Res} (h:Has H0 Z H L) (sz n:Nat) (c:List Value) (hc:c.length=n*sz):Has H0 Z (H.new (.cells c none)) (L++[growR sz (slc H.next 0 0 n) []]) :=
 h.add _ ((Ext.refl H).new _) (Grow.room (zH_get _) (AH.get_new_self _ _) hc) (by simp [growR,blkL,blk]) (by simp [growR,blkL,blk])
theorem make_l2 (hE:Fold E) {ov rv:Value} (h:Has H0 Z H (mkL mb pm ov s++[growR 4 rv []])) (hl:s.out.length<=4096) (hQ:∀ v H',Ext H0 H'->Rows H' 4 v (insnR s.out)->Q (.tuple #[v,(.int .i64 0)]) H') :
  LoopL (fun l H X0=>F.f24_l2 E Q (nth l 0) (nth l 1) (nth l 2) H X0) [ptr mb 0,rv,vi ((s.out.length:Int) - 1)] H:=by
 refine LoopL.count s.out.length (fun k ls H'=>∃ rv,ls=[ptr mb 0,rv,vi ((s.out.length:Int) - 1 - k)]/\Has H0 Z H' (mkL mb pm ov s++[growR 4 rv (insnR (s.out.take k))])) ?_ ⟨rv,by simp,by simpa [insnR] using h⟩
 rintro k _ H1 X1 hk ih ⟨rv,rfl,g⟩
 have i0:(.int .i64 0:Value)=vi 0:=rfl
 have i1:(.int .i64 1:Value)=vi 1:=rfl
 rcases Nat.lt_or_ge k s.out.length with hlt | hge
 ·have hbx:=g.box (k:=0) (b:=mb) (c:=[ov,.map (some pm)]) rfl
  have hrw:=g.rows (k:=1) (sz:=4) (v:=ov) (rows:=insnR s.out.reverse) rfl
  have he:(s.out.length:Int) - 1 - k=((s.out.length - 1 - k:Nat):Int):=by omega
  have hd:decide ((0:Int)<=(s.out.length:Int) - 1 - k)=true:=decide_eq_true (by omega)
  have hs:binInt .sub (vi ((s.out.length:Int) - 1 - k)) (vi 1)=some (vi ((s.out.length:Int) - 1 - (k+1:Nat))):=by
   rw [i64_sub (by omega) (by omega)]; congr 2; omega
  have hjl:s.out.length - 1 - k<(insnR s.out.reverse).length:=by simp only [insnR,List.length_map,List.length_reverse]; omega
  obtain ⟨bb,o,f1,f2⟩:=hrw.ix (i:=s.out.length - 1 - k) hjl
  have hrow:(insnR s.out.reverse)[s.out.length - 1 - k]=s.out[k].cells:=by
   simp only [insnR,List.getElem_map,List.getElem_reverse]
   congr 2
   omega
  rw [hrow] at f2
  have lo:loadN 4 (ptr bb o) H1=some s.out[k].v:=by rw [loadN_ptr,f2]; rfl
  rw [<- he] at f1
  have hbS:buildS 1 4 #[(.int .u16 0),(.int .u8 0),(.int .u8 0),(.int .u32 0)] [(0,s.out[k].v)]=some (.cells s.out[k].cells none,mkSlc 1 1):=buildS_one 4 [u16 0#16,u8 0#8,u8 0#8,u32 0#32] s.out[k].cells rfl rfl
  obtain ⟨v',H2,a1,a2,g2⟩:=g.app1 (k:=3) (sz:=4) (v:=rv) (rows:=insnR (s.out.take k)) (bytes:=8) rfl s.out[k].cells rfl rfl (by decide) (by decide) (by simp only [insnR,List.length_map,List.length_take]; omega)
  have hst:s.out.take (k+1)=s.out.take k++[s.out[k]]:=by rw [List.take_succ,List.getElem?_eq_getElem hlt]; rfl
  simp only [F.f24_l2,i0,i1,i64_geq,hd,hbx,f1,lo,hbS,AM.mk_some,mkSlc_eq,a1,hs,stdZ]
  refine ih hlt _ _ ⟨v',rfl,?_⟩
  rw [hst]
  have:insnR (s.out.take k++[s.out[k]])=insnR (s.out.take k)++[s.out[k].cells]:=by unfold insnR; rw [List.map_append]; rfl
  rw [this]
  exact g2
 ·have hke:k=s.out.length:=by omega
  subst hke
  have hd:decide ((0:Int)<=(s.out.length:Int) - 1 - (s.out.length:Nat))=false:=decide_eq_false (by omega)
  rw [List.take_length] at g
  simp only [F.f24_l2,i0,i64_geq,hd,stdZ]
  exact hQ _ _ g.ext (g.rows (k:=3) (sz:=4) (v:=rv) (rows:=insnR s.out) rfl)
theorem S.f24 (hE:Fold E) {v:Value} {l:List PartD} (hv:Rows H 7 v (partR l)) (hl:l.length<2 ^ 26)
  (hQ:∀ H',Ext H H'->(∀ e,makeF l = .inl e->e≠0->Q (.tuple #[nilS,vi e]) H')/\(∀ s w,makeF l = .inr s->Rows H' 4 w (insnR s.out)->Q (.tuple #[w,(.int .i64 0)]) H')):E.call (E.fid i.f24) [v] H Q:=by
 apply hE.f24
 have hmw:∀ (H:AH) (K:Value->AH->Prop),mapW H K=K (.map (some H.next)) (H.new (.map [] 0 true)):=fun _ _=>rfl
 have hlv:=hv.lenSlc
 have hpl:(partR l).length=l.length:=by simp [partR]
 rw [hpl] at hlv
 have i0:(.int .i64 0:Value)=vi 0:=rfl
 have i1:(.int .i64 1:Value)=vi 1:=rfl
 have hbv:∀ n:Nat,buildV [(0,1),(1,1)] #[(.slice none 0 0),(.map none)] [(1,.map (some n))]=some (.agg [nilS,.map (some n)].toArray):=fun _=>rfl
 have hs:binInt .sub (vi (l.length:Int)) (vi 1)=some (vi ((l.length:Int) - 1)):=i64_sub (by omega) (by omega)
 simp only [F.f24,hmw,hbv,boxO_agg_z,AM.mk_some,mkPtr_eq_z,List.toList_toArray,hlv,i1,hs,stdZ]
 have g1:=(Has.begin (Ext.refl H) (Sub.refl H)).newmap vi natV
 have hn2:H.next+1=(H.new (.map [] 0 true)).next:=rfl
 rw [hn2]
 generalize H.new (.map [] 0 true)=H2 at *
 generalize H.next=pm at *
 clear hn2
 have g2:=(g1.newbox [nilS,.map (some pm)]).nils 4
 generalize H2.new (.cells [nilS,.map (some pm)] none)=H3 at *
 generalize H2.next=mb at *
 have g3:Mk H H H3 mb pm ⟨[],[]⟩ []:=⟨nilS,g2.perm ((List.Perm.swap _ _ _).trans ((List.Perm.swap _ _ _).cons _))⟩
 refine LoopL.ind (fun n ls H'=>∃ s,n<=l.length/\ls=[v,ptr mb 0,vi ((n:Int) - 1)]/\makeF (l.drop n) = .inr s/\Mk H H H' mb pm s []) ?_ l.length ⟨⟨[],[]⟩,Nat.le_refl _,rfl,by rw [List.drop_length]; rfl,g3⟩
 rintro n _ H4 X1 ih ⟨s,hn,rfl,hm,g⟩
 have hok:=makeF_ok hm
 have hmk:s.okM:=⟨by omega,hok.1.getD⟩
 have i4096:(.int .i64 4096:Value)=vi 4096:=rfl
 rcases Nat.eq_zero_or_pos n with h0 | h0
 ·subst h0
  rw [List.drop_zero] at hm
  have hd:decide ((0:Int)<=((0:Nat):Int) - 1)=false:=rfl
  obtain ⟨ov,g⟩:=g
  have hbx:=g.box (k:=0) (b:=mb) (c:=[ov,.map (some pm)]) rfl
  have hlo:=(g.rows (k:=1) (sz:=4) (v:=ov) (rows:=insnR s.out.reverse) rfl).lenSlc
  simp only [insnR,List.length_map,List.length_reverse] at hlo
  have hms:=makeS_room 4 8 s.out.length [(.int .u16 0),(.int .u8 0),(.int .u8 0),(.int .u32 0)] rfl (by omega) (by omega)
  have hms:makeS 4 8 #[(.int .u16 0),(.int .u8 0),(.int .u8 0),(.int .u32 0)] (vi 0) (vi s.out.length)=some (.cells (List.replicate s.out.length [(.int .u16 0),(.int .u8 0),(.int .u8 0),(.int .u32 0)]).flatten none,fun b=>slc b 0 0 s.out.length):=hms
  have g5:=g.newroomc 4 s.out.length (List.replicate s.out.length [(.int .u16 0),(.int .u8 0),(.int .u8 0),(.int .u32 0)]).flatten (by simp [List.length_flatten,List.map_replicate,List.sum_replicate_nat])
  have hb5:=g5.box (k:=0) (b:=mb) (c:=[ov,.map (some pm)]) rfl
  have hs2:binInt .sub (vi (s.out.length:Int)) (vi 1)=some (vi ((s.out.length:Int) - 1)):=i64_sub (by omega) (by omega)
  simp only [F.f24_l1,i0,i64_geq,hd,i1,hbx,hlo,hms,AM.mk_some,hb5,hs2,stdZ]
  exact make_l2 hE g5 hok.2 fun w H' e' r'=>(hQ H' e').2 s w hm r'
 ·have hd:decide ((0:Int)<=(n:Int) - 1)=true:=decide_eq_true (by omega)
  have hj:n - 1<l.length:=by omega
  have he:(n:Int) - 1=((n - 1:Nat):Int):=by omega
  have hv4:=hv.mono g.ext
  obtain ⟨bb,o,f1,f2⟩:=hv4.ix (i:=n - 1) (by omega)
  have hrow:(partR l)[n - 1]'(by omega)=l[n - 1].cells:=by simp [partR]
  rw [hrow] at f2
  have lo:loadN 7 (ptr bb o) H4=some l[n - 1].v:=by rw [loadN_ptr,f2]; rfl
  rw [<- he] at f1
  have hdr:l.drop (n - 1)=l[n - 1] :: l.drop n:=by
   rw [List.drop_eq_getElem_cons hj,show n - 1+1=n by omega]
  have hs1:binInt .sub (vi ((n:Int) - 1)) (vi 1)=some (vi (((n - 1:Nat):Int) - 1)):=by
   rw [i64_sub (by omega) (by omega)]; congr 2; omega
  generalize l[n - 1]=p at *
  simp only [F.f24_l1,i0,i64_geq,hd,f1,lo,stdZ]
  refine S.f28 hE g hmk p (fun e H5 h1 h2 e5 =>?_) fun t H5 h1 g5 =>?_
  ·have hd:decide (e≠0)=true:=decide_eq_true h2
   simp only [i0,i64_neq,hd,stdZ]
   refine (hQ H5 e5).1 e (makeF_err (n - 1) ?_) h2
   rw [hdr]
   unfold makeF
   simp only [hm,h1]
  ·have hd:decide ((0:Int)≠0)=false:=rfl
   obtain ⟨ov,hbx,hlo⟩:=g5.cells
   simp only [i0,i64_neq,hd,hbx,hlo,i4096,i64_gtr,stdZ]
   by_cases hbig:4096<t.out.length
   ·have hd:decide ((4096:Int)<t.out.length)=true:=decide_eq_true (by omega)
    simp only [hd,stdZ]
    refine (hQ H5 g5.ext).1 205 (makeF_err (n - 1) ?_) (by decide)
    rw [hdr]
    unfold makeF
    simp only [hm,h1,if_pos hbig]
   ·have hd:decide ((4096:Int)<t.out.length)=false:=decide_eq_false (by omega)
    simp only [hd,i1,hs1,stdZ]
    refine ih (n - 1) (by omega) _ _ ⟨t,by omega,rfl,?_,g5⟩
    rw [hdr]
    unfold makeF
    simp only [hm,h1,if_neg hbig]
end
end Go.AM
end
section
namespace Go.AM
set_option maxRecDepth 20000
def okI (x:InsnD) (left:Nat):Prop :=
 (x.code=32#16/\x.k.toNat % 4=0/\x.k.toNat<=60)\/x.code=84#16\/(x.code=5#16/\x.k.toNat<left) \/
 (x.code=21#16/\x.jt.toNat<left/\x.jf.toNat<left)\/(x.code=37#16/\x.jt.toNat<left/\x.jf.toNat<left)\/(x.code=53#16/\x.jt.toNat<left/\x.jf.toNat<left)\/x.code=6#16
def stepI (r:RecD) (x:InsnD) (a:BitVec 32):BitVec 32×Nat×Option (BitVec 32) :=
 if x.code=32#16 then ((rword r x.k).1,0,none)
 else if x.code=84#16 then (a&&&x.k,0,none)
 else if x.code=5#16 then (a,x.k.toNat,none)
 else if x.code=21#16 then (a,if a=x.k then x.jt.toNat else x.jf.toNat,none)
 else if x.code=37#16 then (a,if x.k.toNat<a.toNat then x.jt.toNat else x.jf.toNat,none)
 else if x.code=53#16 then (a,if x.k.toNat<=a.toNat then x.jt.toNat else x.jf.toNat,none)
 else (a,0,some x.k)
def runC (r:RecD):Nat->List InsnD->BitVec 32->BitVec 32
 | 0,_,_=>2147483648#32
 | _+1,[],_=>2147483648#32
 | f+1,x :: c,a=>match (stepI r x a).2.2 with
  | some o=>o
  | none=>runC r f (c.drop (stepI r x a).2.1) (stepI r x a).1
def mC (a:BitVec 32) (at_:Nat) (act:BitVec 32) (e:Bool) (rc:List Value):List Value :=
 u32 a :: u32 0#32 :: u32 0#32 :: u32 0#32 :: u32 0#32 :: u32 0#32 :: u32 0#32 :: u32 0#32 :: u32 0#32 :: u32 0#32 :: u32 0#32 :: u32 0#32 :: u32 0#32 :: u32 0#32 :: u32 0#32 :: u32 0#32 :: u32 0#32 :: u32 0#32 :: vi at_ :: (rc++[u32 act,vb e])
theorem rc_nine {rc:List Value} (h:rc.length=9):∃ c0 c1 c2 c3 c4 c5 c6 c7 c8,rc=[c0,c1,c2,c3,c4,c5,c6,c7,c8]:=by
 match rc,h with
 | [c0,c1,c2,c3,c4,c5,c6,c7,c8],_=>exact ⟨c0,c1,c2,c3,c4,c5,c6,c7,c8,rfl⟩
theorem rec_nine {r:RecD} (h:r.ok):r.cells.length=9:=by
 unfold RecD.ok at h
 simp [RecD.cells,h]
section
variable {E:Sy} {H H' H0 Z:AH} {Q:Value->AH->Prop} {X:List Res} {mb:Nat}
theorem S.f53 (hE:Fold E) (p:Value) (x:InsnD) (hx:x.code&&&8#16=0#16) (hQ:∀ H',Ext H H'->Q (u32 x.k) H'):E.call (E.fid i.f53) [p,x.v] H Q:=by
 apply hE.f53
 have b1:=AH.get_new_self H (.cells x.cells none)
 have c0:x.cells[0]? = some (u16 x.code):=rfl
 have c3:x.cells[3]? = some (u32 x.k):=rfl
 have k8:(.int .u16 8:Value)=u16 8#16:=rfl
 have k0:(.int .u16 0:Value)=u16 0#16:=rfl
 have hd:decide (x.code&&&8#16≠0#16)=false:=decide_eq_false (by simpa using hx)
 simp only [F.f53,boxO_agg_z,AM.mk_some,mkPtr_eq_z,List.toList_toArray,b1,c0,c3,k8,k0,u16_and,u16_neq,hd,stdZ]
 exact hQ _ ((Ext.refl H).new _)
theorem S.f52 (hE:Fold E) {r:RecD} (hr:r.ok) {a act:BitVec 32} {at_:Nat} (hb:H.get mb = .cells (mC a at_ act false r.cells) none) (x:InsnD) (hx:x.code=32#16) (hQ:∀ H',Ext H H'->Q (u32 (rword r x.k).1) H'):E.call (E.fid i.f52) [ptr mb 0,x.v] H Q:=by
 apply hE.f52
 have b1:=AH.get_new_self H (.cells x.cells none)
 have x1:Ext H (H.new (.cells x.cells none)):=(Ext.refl _).new _
 have bm:=x1.cells hb
 have c0:x.cells[0]? = some (u16 32#16):=by rw [<- hx]; rfl
 have c3:x.cells[3]? = some (u32 x.k):=rfl
 have k7:(.int .u16 7:Value)=u16 7#16:=rfl
 have k32:(.int .u16 32:Value)=u16 32#16:=rfl
 have hd:decide (32#16 &&& ~~~7#16=32#16)=true:=by decide
 have lo:loadN 9 (ptr mb 19) (H.new (.cells x.cells none))=some r.v:=by
  rw [loadN_ptr,bm]
  obtain ⟨c0,c1,c2,c3,c4,c5,c6,c7,c8,hc⟩:=rc_nine (rec_nine hr)
  unfold RecD.v
  rw [hc]; rfl
 simp only [F.f52,boxO_agg_z,AM.mk_some,mkPtr_eq_z,List.toList_toArray,b1,c0,c3,k7,k32,u16_andNot,u16_eql,hd,lo,stdZ]
 refine S.f43 hE r hr x.k fun H2 e2 =>?_
 simp only [stdZ]
 exact hQ _ (x1.trans e2)
end
end Go.AM
end
section
namespace Go.AM
set_option maxRecDepth 20000
section
variable {E:Sy} {H H' H0 Z:AH} {Q:Value->AH->Prop} {X:List Res} {mb:Nat}
theorem mC_at (a:BitVec 32) (at_:Nat) (act:BitVec 32) (e:Bool) (rc:List Value) (n:Nat):(mC a at_ act e rc).set 18 (vi n)=mC a n act e rc:=rfl
theorem mC_a (a b:BitVec 32) (at_:Nat) (act:BitVec 32) (e:Bool) (rc:List Value):(mC a at_ act e rc).set 0 (u32 b)=mC b at_ act e rc:=rfl
theorem mC_cells {a:BitVec 32} {at_:Nat} {act:BitVec 32} {e:Bool} {rc:List Value} (h:rc.length=9):(mC a at_ act e rc)[0]? = some (u32 a)/\(mC a at_ act e rc)[18]? = some (vi at_)/\(mC a at_ act e rc)[28]? = some (u32 act)/\(mC a at_ act e rc)[29]? = some (vb e) /\
  (mC a at_ act e rc).set 29 (vb true)=mC a at_ act true rc/\(∀ b,(mC a at_ act e rc).set 28 (u32 b)=mC a at_ b e rc)/\(mC a at_ act e rc).length=30:=by
 obtain ⟨c0,c1,c2,c3,c4,c5,c6,c7,c8,rfl⟩:=rc_nine h
 exact ⟨rfl,rfl,rfl,rfl,rfl,fun _=>rfl,rfl⟩
abbrev mR (mb:Nat) (a:BitVec 32) (at_:Nat) (act:BitVec 32) (e:Bool) (r:RecD):Res:=boxR mb (mC a at_ act e r.cells)
theorem Has.mset {a act:BitVec 32} {at_:Nat} {e:Bool} {r:RecD} (hr:r.ok) (h:Has H0 Z H (mR mb a at_ act e r :: X)) {k:Nat} {v:Value} (hv:plain1 v=true) {a' act':BitVec 32} {at':Nat} {e':Bool} (hk:k<30) (hs:(mC a at_ act e r.cells).set k v=mC a' at' act' e' r.cells) :
  ∃ H',store1 (ptr mb k) v H=some H'/\Has H0 Z H' (mR mb a' at' act' e' r :: X):=by
 have hb:=h.box (k:=0) (b:=mb) (c:=mC a at_ act e r.cells) rfl
 have g:=h.put (k:=0) (b:=mb) (c:=mC a at_ act e r.cells) rfl (mC a' at' act' e' r.cells)
 refine ⟨_,?_,g⟩
 rw [store1_ptr,if_pos hv,hb]
 have hl:=(mC_cells (a:=a) (at_:=at_) (act:=act) (e:=e) (rec_nine hr)).2.2.2.2.2.2
 simp only [hl,hk,if_true,hs]
theorem S.f54 (hE:Fold E) {r:RecD} (hr:r.ok) {a act:BitVec 32} {at_:Nat} (h:Has H0 Z H (mR mb a at_ act false r :: X)) (x:InsnD) (hx:x.code=84#16) (hQ:∀ H',Has H0 Z H' (mR mb (a&&&x.k) at_ act false r :: X)->Q (.tuple #[]) H'):E.call (E.fid i.f54) [ptr mb 0,x.v] H Q:=by
 apply hE.f54
 have b1:=AH.get_new_self H (.cells x.cells none)
 have c0:x.cells[0]? = some (u16 84#16):=by rw [<- hx]; rfl
 have lo:loadN 4 (ptr H.next 0) (H.new (.cells x.cells none))=some x.v:=by rw [loadN_ptr,b1,row_all _ _ 4 rfl]; rfl
 have k15:(.int .u16 15:Value)=u16 15#16:=rfl
 have k0:(.int .u16 0:Value)=u16 0#16:=rfl
 have k16:(.int .u16 16:Value)=u16 16#16:=rfl
 have k32:(.int .u16 32:Value)=u16 32#16:=rfl
 have k48:(.int .u16 48:Value)=u16 48#16:=rfl
 have k64:(.int .u16 64:Value)=u16 64#16:=rfl
 have k80:(.int .u16 80:Value)=u16 80#16:=rfl
 have d0:decide (84#16 &&& ~~~15#16=0#16)=false:=by decide
 have d16:decide (84#16 &&& ~~~15#16=16#16)=false:=by decide
 have d32:decide (84#16 &&& ~~~15#16=32#16)=false:=by decide
 have d48:decide (84#16 &&& ~~~15#16=48#16)=false:=by decide
 have d64:decide (84#16 &&& ~~~15#16=64#16)=false:=by decide
 have d80:decide (84#16 &&& ~~~15#16=80#16)=true:=by decide
 have g:=h.new (.cells x.cells none)
 simp only [F.f54,boxO_agg_z,AM.mk_some,mkPtr_eq_z,List.toList_toArray,lo,stdZ]
 generalize H.new (.cells x.cells none)=H1 at *
 generalize H.next=t at *
 refine S.f53 hE _ x (by rw [hx]; decide) fun H2 e2 =>?_
 have b2:=e2.cells b1
 have g2:=g.grow e2
 have bm:=g2.box (k:=0) (b:=mb) (c:=mC a at_ act false r.cells) rfl
 have hc:=mC_cells (a:=a) (at_:=at_) (act:=act) (e:=false) (rec_nine hr)
 have cm:=hc.1
 obtain ⟨H3,s3,g3⟩:=g2.mset hr (k:=0) (v:=u32 (a&&&x.k)) rfl (by decide) (mC_a a (a&&&x.k) at_ act false r.cells)
 simp only [b2,c0,k15,u16_andNot,k0,k16,k32,k48,k64,k80,u16_eql,d0,d16,d32,d48,d64,d80,bm,cm,u32_and,s3,stdZ]
 exact hQ _ g3
theorem jump_j1 (hE:Fold E) {r:RecD} (hr:r.ok) {a act:BitVec 32} {at_ t:Nat} (hat:at_<2 ^ 40) {x:InsnD} (h:Has H0 Z H (mR mb a at_ act false r :: X)) (hb:H.get t = .cells x.cells none) (b:Bool) (hQ:∀ H',Has H0 Z H' (mR mb a (at_+if b=true then x.jt.toNat else x.jf.toNat) act false r :: X)->Q (.tuple #[]) H'):F.f51_j1 E Q (ptr mb 0) (ptr t 0) (vb b) H:=by
 have bm:=h.box (k:=0) (b:=mb) (c:=mC a at_ act false r.cells) rfl
 have hc:=mC_cells (a:=a) (at_:=at_) (act:=act) (e:=false) (rec_nine hr)
 have cm:=hc.2.1
 have c1:x.cells[1]? = some (u8 x.jt):=rfl
 have c2:x.cells[2]? = some (u8 x.jf):=rfl
 have l1:=x.jt.isLt
 have l2:=x.jf.isLt
 cases b with
 | true =>
  have ha:binInt .add (vi at_) (vi x.jt.toNat)=some (vi ((at_+x.jt.toNat:Nat):Int)):=by rw [i64_add (by omega) (by omega)]; congr 2
  obtain ⟨H3,s3,g3⟩:=h.mset hr (k:=18) (v:=vi ((at_+x.jt.toNat:Nat):Int)) rfl (by decide) (mC_at a at_ act false r.cells _)
  simp only [F.f51_j1,bm,cm,hb,c1,u8_to_i64,ha,s3,stdZ]
  exact hQ _ g3
 | false =>
  have ha:binInt .add (vi at_) (vi x.jf.toNat)=some (vi ((at_+x.jf.toNat:Nat):Int)):=by rw [i64_add (by omega) (by omega)]; congr 2
  obtain ⟨H3,s3,g3⟩:=h.mset hr (k:=18) (v:=vi ((at_+x.jf.toNat:Nat):Int)) rfl (by decide) (mC_at a at_ act false r.cells _)
  simp only [F.f51_j1,bm,cm,hb,c2,u8_to_i64,ha,s3,stdZ]
  exact hQ _ g3
theorem S.f51 (hE:Fold E) {r:RecD} (hr:r.ok) {a act:BitVec 32} {at_:Nat} (hat:at_<2 ^ 40) (h:Has H0 Z H (mR mb a at_ act false r :: X)) (x:InsnD) (hx:x.code=5#16\/x.code=21#16\/x.code=37#16\/x.code=53#16) (hQ:∀ H',Has H0 Z H' (mR mb a (at_+(stepI r x a).2.1) act false r :: X)->Q (.tuple #[]) H'):E.call (E.fid i.f51) [ptr mb 0,x.v] H Q:=by
 apply hE.f51
 have b1:=AH.get_new_self H (.cells x.cells none)
 have c0:x.cells[0]? = some (u16 x.code):=rfl
 have c3:x.cells[3]? = some (u32 x.k):=rfl
 have lo:loadN 4 (ptr H.next 0) (H.new (.cells x.cells none))=some x.v:=by rw [loadN_ptr,b1,row_all _ _ 4 rfl]; rfl
 have k15:(.int .u16 15:Value)=u16 15#16:=rfl
 have k0:(.int .u16 0:Value)=u16 0#16:=rfl
 have k16:(.int .u16 16:Value)=u16 16#16:=rfl
 have k32:(.int .u16 32:Value)=u16 32#16:=rfl
 have k48:(.int .u16 48:Value)=u16 48#16:=rfl
 have g:=h.new (.cells x.cells none)
 have l3:=x.k.isLt
 simp only [F.f51,boxO_agg_z,AM.mk_some,mkPtr_eq_z,List.toList_toArray,lo,stdZ]
 generalize H.new (.cells x.cells none)=H1 at *
 generalize H.next=t at *
 refine S.f53 hE _ x (by rcases hx with h | h | h | h <;> rw [h] <;> decide) fun H2 e2 =>?_
 have b2:=e2.cells b1
 have g2:=g.grow e2
 have bm:=g2.box (k:=0) (b:=mb) (c:=mC a at_ act false r.cells) rfl
 have hc:=mC_cells (a:=a) (at_:=at_) (act:=act) (e:=false) (rec_nine hr)
 have cm:=hc.1
 have cm2:=hc.2.1
 rcases hx with hx | hx | hx | hx
 ·have hs:(stepI r x a).2.1=x.k.toNat:=by unfold stepI; rw [if_neg (by rw [hx]; decide),if_neg (by rw [hx]; decide),if_pos hx]
  rw [hs] at hQ
  have d0:decide (5#16 &&& ~~~15#16=0#16)=true:=by decide
  have ha:binInt .add (vi at_) (vi x.k.toNat)=some (vi ((at_+x.k.toNat:Nat):Int)):=by rw [i64_add (by omega) (by omega)]; congr 2
  obtain ⟨H3,s3,g3⟩:=g2.mset hr (k:=18) (v:=vi ((at_+x.k.toNat:Nat):Int)) rfl (by decide) (mC_at a at_ act false r.cells _)
  simp only [b2,c0,hx,k15,u16_andNot,k0,u16_eql,d0,bm,cm2,c3,u32_to_i64,ha,s3,stdZ]
  exact hQ _ g3
 ·have hs:(stepI r x a).2.1=if decide (a=x.k)=true then x.jt.toNat else x.jf.toNat:=by unfold stepI; rw [if_neg (by rw [hx]; decide),if_neg (by rw [hx]; decide),if_neg (by rw [hx]; decide),if_pos hx]; simp only [decide_eq_true_eq]
  rw [hs] at hQ
  have d0:decide (21#16 &&& ~~~15#16=0#16)=false:=by decide
  have d16:decide (21#16 &&& ~~~15#16=16#16)=true:=by decide
  simp only [b2,c0,hx,k15,u16_andNot,k0,k16,u16_eql,d0,d16,bm,cm,u32_eql,stdZ]
  exact jump_j1 hE hr hat g2 b2 _ hQ
 ·have hs:(stepI r x a).2.1=if decide (x.k.toNat<a.toNat)=true then x.jt.toNat else x.jf.toNat:=by unfold stepI; rw [if_neg (by rw [hx]; decide),if_neg (by rw [hx]; decide),if_neg (by rw [hx]; decide),if_neg (by rw [hx]; decide),if_pos hx]; simp only [decide_eq_true_eq]
  rw [hs] at hQ
  have d0:decide (37#16 &&& ~~~15#16=0#16)=false:=by decide
  have d16:decide (37#16 &&& ~~~15#16=16#16)=false:=by decide
  have d32:decide (37#16 &&& ~~~15#16=32#16)=true:=by decide
  simp only [b2,c0,hx,k15,u16_andNot,k0,k16,k32,u16_eql,d0,d16,d32,bm,cm,u32_gtr,stdZ]
  exact jump_j1 hE hr hat g2 b2 _ hQ
 ·have hs:(stepI r x a).2.1=if decide (x.k.toNat<=a.toNat)=true then x.jt.toNat else x.jf.toNat:=by unfold stepI; rw [if_neg (by rw [hx]; decide),if_neg (by rw [hx]; decide),if_neg (by rw [hx]; decide),if_neg (by rw [hx]; decide),if_neg (by rw [hx]; decide),if_pos hx]; simp only [decide_eq_true_eq]
  rw [hs] at hQ
  have d0:decide (53#16 &&& ~~~15#16=0#16)=false:=by decide
  have d16:decide (53#16 &&& ~~~15#16=16#16)=false:=by decide
  have d32:decide (53#16 &&& ~~~15#16=32#16)=false:=by decide
  have d48:decide (53#16 &&& ~~~15#16=48#16)=true:=by decide
  simp only [b2,c0,hx,k15,u16_andNot,k0,k16,k32,k48,u16_eql,d0,d16,d32,d48,bm,cm,u32_geq,stdZ]
  exact jump_j1 hE hr hat g2 b2 _ hQ
end
end Go.AM
end
section
namespace Go.AM
set_option maxRecDepth 20000
section
variable {E:Sy} {H H' H0 Z:AH} {Q:Value->AH->Prop} {X:List Res} {mb:Nat}
theorem Has.lastBox {L:List Res} {t:Nat} {c:List Value} (h:Has H0 Z H (L++[boxR t c])):H.get t = .cells c none:=(h.all (boxR t c) (by simp)).1
theorem insn_load {x:InsnD} {t:Nat} (hb:H.get t = .cells x.cells none):loadN 4 (ptr t 0) H=some x.v:=by rw [loadN_ptr,hb,row_all _ _ 4 rfl]; rfl
theorem S.f55 (hE:Fold E) {r:RecD} (hr:r.ok) {a act:BitVec 32} {at_:Nat} (hat:at_<2 ^ 39) (h:Has H0 Z H (mR mb a at_ act false r :: X)) (x:InsnD) {left:Nat} (hx:okI x left)
  (hQ:∀ H',Has H0 Z H' (mR mb (stepI r x a).1 (at_+1+(stepI r x a).2.1) (((stepI r x a).2.2).getD act) ((stepI r x a).2.2).isSome r :: X)->Q (.tuple #[]) H'):E.call (E.fid i.f55) [ptr mb 0,x.v] H Q:=by
 apply hE.f55
 have g:=h.newbox x.cells
 have bm:=g.box (k:=0) (b:=mb) (c:=mC a at_ act false r.cells) rfl
 have hc:=mC_cells (a:=a) (at_:=at_) (act:=act) (e:=false) (rec_nine hr)
 have cm2:=hc.2.1
 have hinc:=i64_inc (i:=at_) (by omega)
 obtain ⟨H2,s2,g2⟩:=Has.mset (X:=X++[boxR H.next x.cells]) hr g (k:=18) (v:=vi ((at_+1:Nat):Int)) rfl (by decide) (mC_at a at_ act false r.cells _)
 have b2:=Has.lastBox (L:=mR mb a (at_+1) act false r :: X) g2
 have c0:x.cells[0]? = some (u16 x.code):=rfl
 have c3:x.cells[3]? = some (u32 x.k):=rfl
 have k0:(.int .u16 0:Value)=u16 0#16:=rfl
 have k1:(.int .u16 1:Value)=u16 1#16:=rfl
 have k2:(.int .u16 2:Value)=u16 2#16:=rfl
 have k3:(.int .u16 3:Value)=u16 3#16:=rfl
 have k4:(.int .u16 4:Value)=u16 4#16:=rfl
 have k5:(.int .u16 5:Value)=u16 5#16:=rfl
 have k6:(.int .u16 6:Value)=u16 6#16:=rfl
 have k22:(.int .u16 22:Value)=u16 22#16:=rfl
 have l2:=insn_load b2
 have g2':Has H0 Z H2 (mR mb a (at_+1) act false r :: (X++[boxR H.next x.cells])):=g2
 simp only [F.f55,boxO_agg_z,AM.mk_some,mkPtr_eq_z,List.toList_toArray,bm,cm2,hinc,s2,b2,c0,stdZ]
 generalize H.next=t at *
 refine S.f8 hE _ ?_
 have hcc:=mC_cells (a:=a) (at_:=at_+1) (act:=act) (e:=false) (rec_nine hr)
 rcases hx with ⟨hx,_,_⟩ | hx | ⟨hx,_⟩ | ⟨hx,_⟩ | ⟨hx,_⟩ | ⟨hx,_⟩ | hx
 ·have hs:stepI r x a=((rword r x.k).1,0,none):=by unfold stepI; rw [if_pos hx]
  rw [hs] at hQ
  have d0:decide (iclass x.code=0#16)=true:=by rw [hx]; decide
  simp only [k0,u16_eql,d0,l2,stdZ]
  have bm2:=g2'.box (k:=0) (b:=mb) (c:=mC a (at_+1) act false r.cells) rfl
  refine S.f52 hE hr bm2 x hx fun H3 e3 =>?_
  obtain ⟨H4,s4,g4⟩:=Has.mset hr (g2'.grow e3) (k:=0) (v:=u32 (rword r x.k).1) rfl (by decide) (mC_a a _ (at_+1) act false r.cells)
  simp only [s4,stdZ]
  exact hQ _ (Has.dropLast (L:=_ :: X) g4)
 ·have hs:stepI r x a=(a&&&x.k,0,none):=by unfold stepI; rw [if_neg (by rw [hx]; decide),if_pos hx]
  rw [hs] at hQ
  have d0:decide (iclass x.code=0#16)=false:=by rw [hx]; decide
  have d1:decide (iclass x.code=1#16)=false:=by rw [hx]; decide
  have d2:decide (iclass x.code=2#16)=false:=by rw [hx]; decide
  have d3:decide (iclass x.code=3#16)=false:=by rw [hx]; decide
  have d4:decide (iclass x.code=4#16)=true:=by rw [hx]; decide
  simp only [k0,k1,k2,k3,k4,u16_eql,d0,d1,d2,d3,d4,l2,stdZ]
  refine S.f54 hE hr g2' x hx fun H4 g4 =>?_
  exact hQ _ (Has.dropLast (L:=_ :: X) g4)
 all_goals try
  have d0:decide (iclass x.code=0#16)=false:=by rw [hx]; decide
  have d1:decide (iclass x.code=1#16)=false:=by rw [hx]; decide
  have d2:decide (iclass x.code=2#16)=false:=by rw [hx]; decide
  have d3:decide (iclass x.code=3#16)=false:=by rw [hx]; decide
  have d4:decide (iclass x.code=4#16)=false:=by rw [hx]; decide
  have d5:decide (iclass x.code=5#16)=true:=by rw [hx]; decide
  have hs:(stepI r x a).1=a/\(stepI r x a).2.2=none:=by unfold stepI; rw [hx]; exact ⟨rfl,rfl⟩
  rw [hs.1,hs.2] at hQ
  simp only [k0,k1,k2,k3,k4,k5,u16_eql,d0,d1,d2,d3,d4,d5,l2,stdZ]
  refine S.f51 hE hr (by omega) g2' x (by rw [hx]; decide) fun H4 g4 =>?_
  exact hQ _ (Has.dropLast (L:=_ :: X) g4)
 have d0:decide (iclass x.code=0#16)=false:=by rw [hx]; decide
 have d1:decide (iclass x.code=1#16)=false:=by rw [hx]; decide
 have d2:decide (iclass x.code=2#16)=false:=by rw [hx]; decide
 have d3:decide (iclass x.code=3#16)=false:=by rw [hx]; decide
 have d4:decide (iclass x.code=4#16)=false:=by rw [hx]; decide
 have d5:decide (iclass x.code=5#16)=false:=by rw [hx]; decide
 have d6:decide (iclass x.code=6#16)=true:=by rw [hx]; decide
 have hs:stepI r x a=(a,0,some x.k):=by unfold stepI; rw [hx]; rfl
 rw [hs] at hQ
 obtain ⟨H3,s3,g3⟩:=Has.mset hr g2' (k:=29) (v:=vb true) rfl (by decide) hcc.2.2.2.2.1
 have b3:=Has.lastBox (L:=mR mb a (at_+1) act true r :: X) g3
 obtain ⟨H4,s4,g4⟩:=Has.mset hr g3 (k:=28) (v:=u32 x.k) rfl (by decide) ((mC_cells (a:=a) (at_:=at_+1) (act:=act) (e:=true) (rec_nine hr)).2.2.2.2.2.1 x.k)
 have b4:=Has.lastBox (L:=mR mb a (at_+1) x.k true r :: X) g4
 have s3:store1 (ptr mb 29) (.bool true) H2=some H3:=s3
 have d22:decide (x.code=22#16)=false:=by rw [hx]; decide
 simp only [k0,k1,k2,k3,k4,k5,k6,u16_eql,d0,d1,d2,d3,d4,d5,d6,b2,c3,s3,stdZ]
 refine ⟨by rw [b3]; rfl,?_⟩
 simp only [s4,b4,c0,k22,u16_eql,d22,stdZ]
 exact hQ _ (Has.dropLast (L:=_ :: X) g4)
end
end Go.AM
end
section
namespace Go.AM
set_option maxRecDepth 20000
def insnsOk (c:List InsnD):Prop:=∀ k (h:k<c.length),okI c[k] (c.length - k - 1)
def Fil (H0 Z H:AH) (fb:Nat) (c:List InsnD) (X:List Res):Prop:=∃ lv n1 n2,Has H0 Z H (boxR fb [lv,vi n1,vi n2] :: growR 4 lv (insnR c) :: X)
section
variable {E:Sy} {H H' H0 Z:AH} {Q:Value->AH->Prop} {X:List Res} {fb:Nat}
theorem Fil.grow {c:List InsnD} (h:Fil H0 Z H fb c X) (e:Ext H H'):Fil H0 Z H' fb c X:=by
 obtain ⟨lv,n1,n2,h⟩:=h
 exact ⟨lv,n1,n2,h.grow e⟩
theorem Fil.ext {c:List InsnD} (h:Fil H0 Z H fb c X):Ext H0 H:=by
 obtain ⟨lv,n1,n2,h⟩:=h
 exact h.ext
theorem S.sync_atomic_Int64_Add_at (hE:Fold E) {b o:Nat} {c:List Value} {n d:Int} (hb:H.get b = .cells c none) (hc:c[o]? = some (vi n)) (hQ:∀ v,Q v (H.put b (.cells (c.set o (vi (IntKind.i64.wrap (n+d)))) none))):E.call (E.fid i.f48) [ptr b o,vi d] H Q:=by
 apply hE.f48
 simp only [F.f48,nilCk_p,tk_eq,opt_some]
 rw [addOff_ptr,opt_some]
 apply hE.f47
 have hc:c[o+0]? = some (.int .i64 n):=hc
 simp only [atomicAdd,ptr,vi,hb,hc]
 exact hQ _
theorem runC_over (r:RecD):∀ (f:Nat) (a:BitVec 32),runC r f [] a=2147483648#32
 | 0,_=>rfl
 | _+1,_=>rfl
theorem S.f49 (hE:Fold E) {r:RecD} (hr:r.ok) {c:List InsnD} (hok:insnsOk c) (hlen:c.length<=4096) (h:Fil H0 Z H fb c X) (hQ:∀ n H',n<=c.length->Fil H0 Z H' fb c X->Q (.tuple #[u32 (runC r c.length c 0#32),vi (n:Nat)]) H'):E.call (E.fid i.f49) [ptr fb 0,r.v] H Q:=by
 apply hE.f49
 obtain ⟨lv,n1,n2,h⟩:=h
 have g:=h.new (.cells r.cells none)
 have b1:=AH.get_new_self H (.cells r.cells none)
 have lo:loadN 9 (ptr H.next 0) (H.new (.cells r.cells none))=some r.v:=by rw [loadN_ptr,b1,row_all _ _ 9 (rec_nine hr)]; rfl
 obtain ⟨c0,c1,c2,c3,c4,c5,c6,c7,c8,hrc⟩:=rc_nine (rec_nine hr)
 have hp:r.cells.all plain1=true:=by simp [RecD.cells]
 have hbv:buildV [(0,1),(1,1),(2,16),(18,1),(19,9),(28,1),(29,1)] #[(.int .u32 0),(.int .u32 0),(.int .u32 0),(.int .u32 0),(.int .u32 0),(.int .u32 0),(.int .u32 0),(.int .u32 0),(.int .u32 0),(.int .u32 0),(.int .u32 0),(.int .u32 0),(.int .u32 0),(.int .u32 0),(.int .u32 0),(.int .u32 0),(.int .u32 0),(.int .u32 0),(.int .i64 0),(.int .u32 0),(.int .u32 0),(.int .u64 0),(.int .u64 0),(.int .u64 0),(.int .u64 0),(.int .u64 0),(.int .u64 0),(.int .u64 0),(.int .u32 0),(.bool false)] [(4,r.v)]=some (.agg (mC 0#32 0 0#32 false r.cells).toArray):=by
  unfold RecD.v
  rw [buildV_eq,hrc]; rfl
 simp only [F.f49,boxO_agg_z,AM.mk_some,mkPtr_eq_z,List.toList_toArray,ptr_eql_nil,lo,hbv,allocW_eq,stdZ]
 have hn1:H.next+1=(H.new (.cells r.cells none)).next:=rfl
 rw [hn1]
 clear hn1
 generalize H.new (.cells r.cells none)=H1 at *
 have hst:storeN 30 (ptr H1.next 0) (.agg (mC 0#32 0 0#32 false r.cells).toArray) (H1.new (.cells [(.int .u32 0),(.int .u32 0),(.int .u32 0),(.int .u32 0),(.int .u32 0),(.int .u32 0),(.int .u32 0),(.int .u32 0),(.int .u32 0),(.int .u32 0),(.int .u32 0),(.int .u32 0),(.int .u32 0),(.int .u32 0),(.int .u32 0),(.int .u32 0),(.int .u32 0),(.int .u32 0),(.int .i64 0),(.int .u32 0),(.int .u32 0),(.int .u64 0),(.int .u64 0),(.int .u64 0),(.int .u64 0),(.int .u64 0),(.int .u64 0),(.int .u64 0),(.int .u32 0),(.bool false)] none))=some (H1.new (.cells (mC 0#32 0 0#32 false r.cells) none)):=by
  rw [storeN_ptr,AH.get_new_self]
  have hl:=(mC_cells (a:=0#32) (at_:=0) (act:=0#32) (e:=false) (rec_nine hr)).2.2.2.2.2.2
  have hpl:(mC 0#32 0 0#32 false r.cells).all plain1=true:=by simp [mC,hp]
  have hsp:∀ z:List Value,z.length=30->AM.splice z 0 (mC 0#32 0 0#32 false r.cells)=mC 0#32 0 0#32 false r.cells:=fun z hz=>by simp [splice,hz,hl]
  simp only [List.size_toArray,List.toList_toArray,hl,hpl,List.length_cons,List.length_nil,Nat.zero_add,Nat.le_refl,and_self,if_true]
  rw [hsp _ rfl,AH.new_put]
 have g2:Has H0 Z (H1.new (.cells (mC 0#32 0 0#32 false r.cells) none)) (mR H1.next 0#32 0 0#32 false r :: boxR fb [lv,vi n1,vi n2] :: growR 4 lv (insnR c) :: X):=(g.newbox (mC 0#32 0 0#32 false r.cells)).perm (List.perm_append_singleton _ _)
 simp only [hst,stdZ]
 generalize H1.new (.cells (mC 0#32 0 0#32 false r.cells) none)=H2 at *
 generalize H1.next=mb at *
 have i0:(.int .i64 0:Value)=vi ((0:Nat):Int):=rfl
 have i1:(.int .i64 1:Value)=vi 1:=rfl
 have kK:(.int .u32 2147483648:Value)=u32 2147483648#32:=rfl
 rw [i0]
 refine LoopL.ind (fun m ls H'=>∃ (a:BitVec 32) (at_:Nat) (act:BitVec 32) (e:Bool) (n:Nat),ls=[ptr fb 0,ptr mb 0,vi n]/\Has H0 Z H' (mR mb a at_ act e r :: boxR fb [lv,vi n1,vi n2] :: growR 4 lv (insnR c) :: X)/\at_<=c.length/\n<=at_ /\
   (e=true->m=0/\act=runC r c.length c 0#32)/\(e=false->m=c.length - at_+1/\∃ f,c.length - at_<=f/\runC r f (c.drop at_) a=runC r c.length c 0#32)) ?_ (c.length+1)
  ⟨0#32,0,0#32,false,0,rfl,g2,Nat.zero_le _,Nat.le_refl _,by simp,fun _=>⟨by omega,c.length,by omega,by rw [List.drop_zero]⟩⟩
 rintro m _ H3 X1 ih ⟨a,at_,act,e,n,rfl,g3,hat,hn,he1,he2⟩
 have bm:=g3.box (k:=0) (b:=mb) (c:=mC a at_ act e r.cells) rfl
 have bf:=g3.box (k:=1) (b:=fb) (c:=[lv,vi n1,vi n2]) rfl
 have hc:=mC_cells (a:=a) (at_:=at_) (act:=act) (e:=e) (rec_nine hr)
 have hlv:=(g3.rows (k:=2) (sz:=4) (v:=lv) (rows:=insnR c) rfl).lenSlc
 have hil:(insnR c).length=c.length:=by simp [insnR]
 rw [hil] at hlv
 have fin:∀ res:BitVec 32,res=runC r c.length c 0#32->(e=true->act=res)->(e=false->res=2147483648#32) ->
   E.call (E.fid i.f48) [ptr fb 1,vi 1] H3 fun v24 H10 =>
    opt (nilCk (ptr fb 0)) fun v25=>opt (addOff v25 2) fun v26 =>
    E.call (E.fid i.f48) [v26,vi n] H10 fun v27 H11 =>
    opt (addOff (ptr mb 0) 29) fun v28=>opt (load1 v28 H11) fun v29=>opt (un .not v29) fun v30 =>
    ifB v30 (Q (.tuple #[(.int .u32 2147483648),vi n]) H11) (opt (addOff (ptr mb 0) 28) fun v31=>opt (load1 v31 H11) fun v32=>Q (.tuple #[v32,vi n]) H11):=by
  intro res hres ha hb
  refine S.sync_atomic_Int64_Add_at hE bf (n:=n1) rfl fun _ =>?_
  have g4:=g3.put (k:=1) (b:=fb) (c:=[lv,vi n1,vi n2]) rfl [lv,vi (IntKind.i64.wrap (n1+1)),vi n2]
  have bf4:=g4.box (k:=1) (b:=fb) (c:=[lv,vi (IntKind.i64.wrap (n1+1)),vi n2]) rfl
  simp only [stdZ]
  refine S.sync_atomic_Int64_Add_at hE bf4 (n:=n2) rfl fun _ =>?_
  have g5:=g4.put (k:=1) (b:=fb) (c:=[lv,vi (IntKind.i64.wrap (n1+1)),vi n2]) rfl [lv,vi (IntKind.i64.wrap (n1+1)),vi (IntKind.i64.wrap (n2+n))]
  have bm5:=g5.box (k:=0) (b:=mb) (c:=mC a at_ act e r.cells) rfl
  have g6:=g5.drop 0
  have hq:=hQ n _ (Nat.le_trans hn hat) ⟨lv,_,_,g6⟩
  rw [<- hres] at hq
  have bm5':=bm5
  simp only [List.set_cons_succ,List.set_cons_zero] at bm5' hq ⊢
  simp only [bm5',hc.2.2.2.1,stdZ]
  cases e with
  | true =>
   rw [ha rfl] at hc bm5'
   simp only [bm5',hc.2.2.1,stdZ]
   exact hq
  | false =>
   rw [hb rfl] at hq
   simp only [kK,stdZ]
   exact hq
 cases e with
 | true =>
  obtain ⟨_,hact⟩:=he1 rfl
  simp only [F.f49_l1,bm,hc.2.2.2.1,i1,stdZ]
  exact fin _ rfl (fun _=>hact) (fun h=>by cases h)
 | false =>
  obtain ⟨hm,f,hf,hrun⟩:=he2 rfl
  rcases Nat.lt_or_ge at_ c.length with hlt | hge
  ·have hlt':decide ((at_:Int)<c.length)=true:=decide_eq_true (by omega)
   obtain ⟨bb,o,f1,f2⟩:=(g3.rows (k:=2) (sz:=4) (v:=lv) (rows:=insnR c) rfl).ix (i:=at_) (by omega)
   have hrow:(insnR c)[at_]'(by omega)=c[at_].cells:=by simp [insnR]
   rw [hrow] at f2
   have lo3:loadN 4 (ptr bb o) H3=some c[at_].v:=by rw [loadN_ptr,f2]; rfl
   have hokx:=hok at_ hlt
   have hinc:=i64_inc (i:=n) (by omega)
   have hdr:c.drop at_=c[at_] :: c.drop (at_+1):=List.drop_eq_getElem_cons hlt
   have hskip:at_+1+(stepI r c[at_] a).2.1<=c.length:=by
    unfold stepI
    rcases hokx with ⟨hx,_,_⟩ | hx | ⟨hx,h1⟩ | ⟨hx,h1,h2⟩ | ⟨hx,h1,h2⟩ | ⟨hx,h1,h2⟩ | hx <;> rw [hx] <;> simp only [BitVec.reduceEq,if_true,if_false,Nat.add_zero] <;> try omega
    all_goals split <;> omega
   rw [hdr] at hrun
   generalize c[at_]=x at *
   simp only [F.f49_l1,bm,bf,hc.2.1,hc.2.2.2.1,hlv,i64_lss,hlt',f1,lo3,stdZ]
   refine S.f55 hE hr (by omega) g3 x hokx fun H4 g4 =>?_
   simp only [hinc,stdZ]
   obtain ⟨f,rfl⟩:∃ f',f=f'+1:=⟨f - 1,by omega⟩
   have hrun:(match (stepI r x a).2.2 with | some o=>o | none=>runC r f ((c.drop (at_+1)).drop (stepI r x a).2.1) (stepI r x a).1)=runC r c.length c 0#32:=hrun
   cases ho:(stepI r x a).2.2 with
   | some res =>
    rw [ho] at hrun g4
    have hrun:res=_:=hrun
    exact ih 0 (by omega) _ _ ⟨_,_,_,true,n+1,rfl,g4,hskip,by omega,fun _=>⟨rfl,hrun⟩,fun h=>by cases h⟩
   | none =>
    rw [ho] at hrun g4
    have hrun:runC r f ((c.drop (at_+1)).drop (stepI r x a).2.1) (stepI r x a).1=_:=hrun
    rw [List.drop_drop] at hrun
    exact ih (c.length - (at_+1+(stepI r x a).2.1)+1) (by omega) _ _ ⟨_,_,_,false,n+1,rfl,g4,hskip,by omega,(fun h=>by cases h),fun _=>⟨rfl,f,by omega,hrun⟩⟩
  ·have hlt':decide ((at_:Int)<c.length)=false:=decide_eq_false (by omega)
   rw [List.drop_eq_nil_of_le hge,runC_over] at hrun
   simp only [F.f49_l1,bm,bf,hc.2.1,hc.2.2.2.1,hlv,i64_lss,hlt',i1,stdZ]
   exact fin _ hrun.symm.symm (fun h=>by cases h) (fun _=>rfl)
end
end Go.AM
end
section
namespace Go.AM
set_option maxRecDepth 20000
def max8 (a b:BitVec 8):BitVec 8:=if a.toNat<b.toNat then b else a
section
variable {E:Sy} {H H' H0 Z:AH} {Q:Value->AH->Prop} {X:List Res}
theorem u8_max (a b:BitVec 8):fold2 max2 [u8 a,u8 b]=some (u8 (max8 a b)):=by
 unfold max8
 have h0:fold2 max2 [u8 a,u8 b]=some (.int .u8 (if (b.toNat:Int) > (a.toNat:Int) then (b.toNat:Int) else (a.toNat:Int))):=by simp only [u8_def]; rfl
 rw [h0]
 by_cases h:a.toNat<b.toNat
 ·rw [if_pos h,if_pos (by omega),u8_def]
 ·rw [if_neg h,if_neg (by omega),u8_def]
theorem S.f4 (hE:Fold E) (c:BitVec 16) (h1:c≠96#16) (h2:c≠97#16) (h3:c≠2#16) (h4:c≠3#16) (hQ:Q (vb false) H):E.call (E.fid i.f4) [u16 c] H Q:=by
 apply hE.f4
 have k1:(.int .u16 96:Value)=u16 96#16:=rfl
 have k2:(.int .u16 97:Value)=u16 97#16:=rfl
 have k3:(.int .u16 2:Value)=u16 2#16:=rfl
 have k4:(.int .u16 3:Value)=u16 3#16:=rfl
 simp only [F.f4,F.f4_j1,k1,k2,k3,k4,u16_eql,decide_eq_false h1,decide_eq_false h2,decide_eq_false h3,decide_eq_false h4,stdZ]
 exact hQ
theorem S.f3 (hE:Fold E) (x:InsnD) {at_ n:Nat} (hx:okI x (n - at_ - 1)) (hat:at_<n) (hn:n<=4096) (hQ:∀ H',Ext H H'->Q (.int .i64 0) H'):E.call (E.fid i.f3) [x.v,vi at_,vi n] H Q:=by
 apply hE.f3
 have b1:=AH.get_new_self H (.cells x.cells none)
 have x1:Ext H (H.new (.cells x.cells none)):=(Ext.refl _).new _
 have c0:x.cells[0]? = some (u16 x.code):=rfl
 have c1:x.cells[1]? = some (u8 x.jt):=rfl
 have c2:x.cells[2]? = some (u8 x.jf):=rfl
 have c3:x.cells[3]? = some (u32 x.k):=rfl
 have k1:(.int .i64 1:Value)=vi 1:=rfl
 have k5:(.int .u16 5:Value)=u16 5#16:=rfl
 have k32:(.int .u16 32:Value)=u16 32#16:=rfl
 have k52:(.int .u16 52:Value)=u16 52#16:=rfl
 have k100:(.int .u16 100:Value)=u16 100#16:=rfl
 have k116:(.int .u16 116:Value)=u16 116#16:=rfl
 have q4:(.int .u32 4:Value)=u32 4#32:=rfl
 have q0:(.int .u32 0:Value)=u32 0#32:=rfl
 have q60:(.int .u32 60:Value)=u32 60#32:=rfl
 have s1:binInt .sub (vi (n:Int)) (vi (at_:Int))=some (vi ((n:Int) - at_)):=i64_sub (by omega) (by omega)
 have s2:binInt .sub (vi ((n:Int) - at_)) (vi 1)=some (vi ((n - at_ - 1:Nat):Int)):=by rw [i64_sub (by omega) (by omega)]; congr 2; omega
 have hrem:binInt .rem (u32 x.k) (u32 4#32)=some (u32 (x.k % 4#32)):=u32_rem _ _ (by decide)
 have hln:n - at_ - 1<4096:=by omega
 have known:inames.contains x.code||iknown1 x.code:=by
  rcases hx with ⟨h,_⟩ | h | ⟨h,_⟩ | ⟨h,_⟩ | ⟨h,_⟩ | ⟨h,_⟩ | h <;> rw [h] <;> decide +kernel
 have e52:decide (x.code=52#16)=false:=by rcases hx with ⟨h,_⟩ | h | ⟨h,_⟩ | ⟨h,_⟩ | ⟨h,_⟩ | ⟨h,_⟩ | h <;> rw [h] <;> decide
 have e100:decide (x.code=100#16)=false:=by rcases hx with ⟨h,_⟩ | h | ⟨h,_⟩ | ⟨h,_⟩ | ⟨h,_⟩ | ⟨h,_⟩ | h <;> rw [h] <;> decide
 have e116:decide (x.code=116#16)=false:=by rcases hx with ⟨h,_⟩ | h | ⟨h,_⟩ | ⟨h,_⟩ | ⟨h,_⟩ | ⟨h,_⟩ | h <;> rw [h] <;> decide
 have e96:x.code≠96#16:=by rcases hx with ⟨h,_⟩ | h | ⟨h,_⟩ | ⟨h,_⟩ | ⟨h,_⟩ | ⟨h,_⟩ | h <;> rw [h] <;> decide
 have e97:x.code≠97#16:=by rcases hx with ⟨h,_⟩ | h | ⟨h,_⟩ | ⟨h,_⟩ | ⟨h,_⟩ | ⟨h,_⟩ | h <;> rw [h] <;> decide
 have e2:x.code≠2#16:=by rcases hx with ⟨h,_⟩ | h | ⟨h,_⟩ | ⟨h,_⟩ | ⟨h,_⟩ | ⟨h,_⟩ | h <;> rw [h] <;> decide
 have e3:x.code≠3#16:=by rcases hx with ⟨h,_⟩ | h | ⟨h,_⟩ | ⟨h,_⟩ | ⟨h,_⟩ | ⟨h,_⟩ | h <;> rw [h] <;> decide
 simp only [F.f3,boxO_agg_z,AM.mk_some,mkPtr_eq_z,List.toList_toArray,k1,s1,s2,b1,c0,stdZ]
 generalize H.new (.cells x.cells none)=H1 at *
 generalize H.next=t at *
 refine S.f10 hE _ ?_
 rw [known]
 have tail:∀ (Q':Prop),(Q (.int .i64 0) H1->Q')->Q':=fun Q' f=>f (hQ _ x1)
 have ec32:∀ b:Bool,decide (x.code=32#16)=b->(b=true->decide (x.k % 4#32≠0#32)=false/\decide ((60#32).toNat<x.k.toNat)=false):=by
  intro b hb ht
  subst ht
  have h32:x.code=32#16:=of_decide_eq_true hb
  rcases hx with ⟨_,h1,h2⟩ | h | ⟨h,_⟩ | ⟨h,_⟩ | ⟨h,_⟩ | ⟨h,_⟩ | h
  rotate_left
  all_goals first
   | (rw [h32] at h; exact absurd h (by decide))
   | skip
  refine ⟨decide_eq_false ?_,decide_eq_false ?_⟩
  ·intro hne
   apply hne
   apply BitVec.eq_of_toNat_eq
   rw [BitVec.toNat_umod]
   exact h1
  ·show ¬ 60<_
   omega
 have fin:∀ b:Bool,decide (x.code=32#16)=b->Q (.int .i64 0) H1:=fun _ _=>hQ _ x1
 rcases hx with ⟨hc,h1,h2⟩ | hc | ⟨hc,h1⟩ | ⟨hc,h1,h2⟩ | ⟨hc,h1,h2⟩ | ⟨hc,h1,h2⟩ | hc
 ·
  have a5:decide (x.code=5#16)=false:=by rw [hc]; decide
  have cl:decide (iclass x.code=5#16)=false:=by rw [hc]; decide
  have c32:decide (x.code=32#16)=true:=by rw [hc]; decide
  obtain ⟨m1,m2⟩:=ec32 _ c32 rfl
  simp only [b1,c0,k5,u16_eql,a5,stdZ]
  refine S.f8 hE _ ?_
  simp only [k5,u16_eql,cl,b1,c0,c3,k32,c32,q4,q0,q60,hrem,u32_neq,u32_gtr,m1,m2,stdZ]
  refine S.f4 hE _ e96 e97 e2 e3 ?_
  simp only [b1,c0,k52,k100,k116,u16_eql,e52,e100,e116,stdZ]
  exact hQ _ x1
 all_goals try
  have a5:decide (x.code=5#16)=false:=by rw [hc]; decide
  have n5:decide (x.code≠5#16)=true:=by rw [hc]; decide
  have cl:decide (iclass x.code=5#16)=true:=by rw [hc]; decide
  have c32:decide (x.code=32#16)=false:=by rw [hc]; decide
  have hmx:decide (((n - at_ - 1:Nat):Int)<=((max8 x.jt x.jf).toNat:Int))=false:=decide_eq_false (by
   unfold max8
   split <;> omega)
  simp only [b1,c0,k5,u16_eql,a5,stdZ]
  refine S.f8 hE _ ?_
  simp only [k5,u16_eql,u16_neq,cl,n5,b1,c0,c1,c2,u8_max,u8_to_i64,i64_geq,hmx,k32,c32,stdZ]
  refine S.f4 hE _ e96 e97 e2 e3 ?_
  simp only [b1,c0,k52,k100,k116,u16_eql,e52,e100,e116,stdZ]
  exact hQ _ x1
 ·have a5:decide (x.code=5#16)=false:=by rw [hc]; decide
  have cl:decide (iclass x.code=5#16)=false:=by rw [hc]; decide
  have c32:decide (x.code=32#16)=false:=by rw [hc]; decide
  simp only [b1,c0,k5,u16_eql,a5,stdZ]
  refine S.f8 hE _ ?_
  simp only [k5,u16_eql,cl,b1,c0,k32,c32,stdZ]
  refine S.f4 hE _ e96 e97 e2 e3 ?_
  simp only [b1,c0,k52,k100,k116,u16_eql,e52,e100,e116,stdZ]
  exact hQ _ x1
 ·have a5:decide (x.code=5#16)=true:=by rw [hc]; decide
  have n5:decide (x.code≠5#16)=false:=by rw [hc]; decide
  have cl:decide (iclass x.code=5#16)=true:=by rw [hc]; decide
  have c32:decide (x.code=32#16)=false:=by rw [hc]; decide
  have hlt:decide ((BitVec.ofInt 64 ((n - at_ - 1:Nat):Int)).toNat<=(x.k.setWidth 64).toNat)=false:=decide_eq_false (by
   have:=x.k.isLt
   rw [BitVec.toNat_setWidth,BitVec.ofInt_natCast,BitVec.toNat_ofNat,Nat.mod_eq_of_lt (by omega),Nat.mod_eq_of_lt (by omega)]
   omega)
  simp only [b1,c0,c3,k5,u16_eql,a5,u32_to_u64,i64_to_u64,u64_geq,hlt,stdZ]
  refine S.f8 hE _ ?_
  simp only [k5,u16_eql,u16_neq,cl,n5,b1,c0,k32,c32,stdZ]
  refine S.f4 hE _ e96 e97 e2 e3 ?_
  simp only [b1,c0,k52,k100,k116,u16_eql,e52,e100,e116,stdZ]
  exact hQ _ x1
 ·have a5:decide (x.code=5#16)=false:=by rw [hc]; decide
  have cl:decide (iclass x.code=5#16)=false:=by rw [hc]; decide
  have c32:decide (x.code=32#16)=false:=by rw [hc]; decide
  simp only [b1,c0,k5,u16_eql,a5,stdZ]
  refine S.f8 hE _ ?_
  simp only [k5,u16_eql,cl,b1,c0,k32,c32,stdZ]
  refine S.f4 hE _ e96 e97 e2 e3 ?_
  simp only [b1,c0,k52,k100,k116,u16_eql,e52,e100,e116,stdZ]
  exact hQ _ x1
end
end Go.AM
end
section
namespace Go.AM
set_option maxRecDepth 20000
section
variable {E:Sy} {H H' H0 Z:AH} {Q:Value->AH->Prop} {X:List Res}
theorem ix_slc1 (b n c k:Nat) (hk:k<n):ixSlc 1 (slc b 0 n c) (vi k)=some (ptr b k):=by
 simp only [ixSlc,slc,vi,ptr]
 have h1:(0:Int)<=(k:Int)/\(k:Int).toNat<n:=⟨by omega,by omega⟩
 simp [Addr.add,hk]
 exact fun h=>h.symm
def natR (l:List Nat):List (List Value):=l.map fun k=>[vi (k:Nat)]
theorem Has.newnats {L:List Res} (h:Has H0 Z H L) {n:Nat} (l:List Nat) (hn:l.length=n) {cs:List Value} (hc:(natR l).flatten=cs):Has H0 Z (H.new (.cells cs none)) (L++[growR 1 (slc H.next 0 n n) (natR l)]) :=
 h.add _ ((Ext.refl H).new _) (Grow.made (f:=none) (zH_get _) (by rw [AH.get_new_self,hc]) (.inl rfl) (by simp [natR,hn]) (by intro r hr; obtain ⟨x,_,rfl⟩:=List.mem_map.1 hr; exact ⟨rfl,rfl⟩)) (by simp [growR,blkL,blk]) (by simp [growR,blkL,blk])
theorem S.f1 (hE:Fold E) (x:InsnD) (hQ:∀ H',Ext H H'->Q (vb (decide (iclass x.code=6#16))) H'):E.call (E.fid i.f1) [x.v] H Q:=by
 apply hE.f1
 have b1:=AH.get_new_self H (.cells x.cells none)
 have x1:Ext H (H.new (.cells x.cells none)):=(Ext.refl _).new _
 have c0:x.cells[0]? = some (u16 x.code):=rfl
 have k6:(.int .u16 6:Value)=u16 6#16:=rfl
 simp only [F.f1,boxO_agg_z,AM.mk_some,mkPtr_eq_z,List.toList_toArray,b1,c0,stdZ]
 refine S.f8 hE _ ?_
 simp only [k6,u16_eql,stdZ]
 exact hQ _ x1
theorem S.f5 (hE:Fold E) (x:InsnD) {at_ n:Nat} (hx:okI x (n - at_ - 1)) (hat:at_<n) (hn:n<=4096) (hl:x.code=6#16\/at_+1<n) {L:List Res} (h:Has H0 Z H L) (hQ:∀ v (l:List Nat) H',Has H0 Z H' (L++[growR 1 v (natR l)])->(∀ k∈l,k<n)->l.length<=2->Q v H'):E.call (E.fid i.f5) [x.v,vi at_] H Q:=by
 apply hE.f5
 have b1:=AH.get_new_self H (.cells x.cells none)
 have x1:Ext H (H.new (.cells x.cells none)):=(Ext.refl _).new _
 have lo:=insn_load b1
 have c0:x.cells[0]? = some (u16 x.code):=rfl
 have c1:x.cells[1]? = some (u8 x.jt):=rfl
 have c2:x.cells[2]? = some (u8 x.jf):=rfl
 have c3:x.cells[3]? = some (u32 x.k):=rfl
 have k5:(.int .u16 5:Value)=u16 5#16:=rfl
 have hinc:=i64_inc (i:=at_) (by omega)
 simp only [F.f5,boxO_agg_z,AM.mk_some,mkPtr_eq_z,List.toList_toArray,lo,stdZ]
 generalize H.new (.cells x.cells none)=H1 at *
 generalize H.next=t at *
 refine S.f1 hE x fun H2 e2 =>?_
 have b2:=e2.cells b1
 have x2:=x1.trans e2
 have lone:∀ m:Nat,buildS 1 1 #[(.int .i64 0)] [(0,vi m)]=some (.cells [vi m] none,mkSlc 1 1):=fun m=>buildS_one 1 [vi 0] [vi m] rfl rfl
 have ltwo:∀ m k:Nat,buildS 2 1 #[(.int .i64 0)] [(0,vi m),(1,vi k)]=some (.cells [vi m,vi k] none,mkSlc 2 2):=fun m k=>buildS_full 2 1 [vi 0] [(0,vi m),(1,vi k)] [vi m,vi k] rfl rfl rfl rfl (by simp)
 have g2:=h.grow x2
 have one:∀ m:Nat,m<n->Q (slc H2.next 0 1 1) (H2.new (.cells [vi m] none)):=fun m hm =>
  hQ _ [m] _ (g2.newnats [m] rfl rfl) (by simpa using hm) (by simp)
 have two:∀ m k:Nat,m<n->k<n->Q (slc H2.next 0 2 2) (H2.new (.cells [vi m,vi k] none)):=fun m k hm hk =>
  hQ _ [m,k] _ (g2.newnats [m,k] rfl rfl) (by simp [hm,hk]) (by simp)
 rcases hx with ⟨hc,_⟩ | hc | ⟨hc,h1⟩ | ⟨hc,h1,h2⟩ | ⟨hc,h1,h2⟩ | ⟨hc,h1,h2⟩ | hc
 rotate_left 6
 ·have a6:decide (iclass x.code=6#16)=true:=by rw [hc]; decide
  simp only [a6,stdZ]
  exact hQ nilS [] _ (g2.nils 1) (by simp) (by simp)
 ·have a6:decide (iclass x.code=6#16)=false:=by rw [hc]; decide
  have a5:decide (x.code=5#16)=false:=by rw [hc]; decide
  have cl:decide (iclass x.code=5#16)=false:=by rw [hc]; decide
  have hl:at_+1<n:=hl.resolve_left (by rw [hc]; decide)
  simp only [a6,b2,c0,k5,u16_eql,a5,stdZ]
  refine S.f8 hE _ ?_
  simp only [k5,u16_eql,cl,hinc,lone,AM.mk_some,mkSlc_eq,stdZ]
  exact one _ hl
 ·have a6:decide (iclass x.code=6#16)=false:=by rw [hc]; decide
  have a5:decide (x.code=5#16)=false:=by rw [hc]; decide
  have cl:decide (iclass x.code=5#16)=false:=by rw [hc]; decide
  have hl:at_+1<n:=hl.resolve_left (by rw [hc]; decide)
  simp only [a6,b2,c0,k5,u16_eql,a5,stdZ]
  refine S.f8 hE _ ?_
  simp only [k5,u16_eql,cl,hinc,lone,AM.mk_some,mkSlc_eq,stdZ]
  exact one _ hl
 ·have a6:decide (iclass x.code=6#16)=false:=by rw [hc]; decide
  have a5:decide (x.code=5#16)=true:=by rw [hc]; decide
  have ha:binInt .add (vi ((at_+1:Nat):Int)) (vi x.k.toNat)=some (vi ((at_+1+x.k.toNat:Nat):Int)):=by rw [i64_add (by omega) (by omega)]; congr 2
  simp only [a6,b2,c0,c3,k5,u16_eql,a5,hinc,u32_to_i64,ha,lone,AM.mk_some,mkSlc_eq,stdZ]
  exact one _ (by omega)
 all_goals
  have a6:decide (iclass x.code=6#16)=false:=by rw [hc]; decide
  have a5:decide (x.code=5#16)=false:=by rw [hc]; decide
  have cl:decide (iclass x.code=5#16)=true:=by rw [hc]; decide
  have ha1:binInt .add (vi ((at_+1:Nat):Int)) (vi x.jt.toNat)=some (vi ((at_+1+x.jt.toNat:Nat):Int)):=by rw [i64_add (by omega) (by omega)]; congr 2
  have ha2:binInt .add (vi ((at_+1:Nat):Int)) (vi x.jf.toNat)=some (vi ((at_+1+x.jf.toNat:Nat):Int)):=by rw [i64_add (by omega) (by omega)]; congr 2
  simp only [a6,b2,c0,k5,u16_eql,a5,stdZ]
  refine S.f8 hE _ ?_
  simp only [k5,u16_eql,cl,b2,c1,c2,hinc,u8_to_i64,ha1,ha2,ltwo,AM.mk_some,mkSlc_eq,stdZ]
  exact two _ _ (by omega) (by omega)
end
end Go.AM
end
section
namespace Go.AM
set_option maxRecDepth 20000
def endOk (c:List InsnD):Prop:=∃ h:0<c.length,(c[c.length - 1]'(by omega)).code=6#16
section
variable {E:Sy} {H H' H0 Z:AH} {Q:Value->AH->Prop} {X:List Res}
abbrev u16L (ws:List (BitVec 16)):List Value:=ws.map u16
theorem Has.setW {sb k:Nat} {ws:List (BitVec 16)} {wb:Nat} {wc:List Value} (h:Has H0 Z H (boxR wb wc :: boxR sb (u16L ws) :: X)) (hk:k<ws.length) (w:BitVec 16):∃ H',store1 (ptr sb k) (u16 w) H=some H'/\Has H0 Z H' (boxR wb wc :: boxR sb (u16L (ws.set k w)) :: X):=by
 have hb:=h.box (k:=1) (b:=sb) (c:=u16L ws) rfl
 refine ⟨H.put sb (.cells (u16L (ws.set k w)) none),?_,h.put (k:=1) (b:=sb) (c:=u16L ws) rfl _⟩
 rw [store1_ptr,if_pos (show plain1 (u16 w)=true from rfl),hb]
 simp only [u16L,List.length_map,hk,if_true,List.map_set]
theorem S.f2 (hE:Fold E) {v:Value} {c:List InsnD} (hv:Rows H 4 v (insnR c)) (hok:insnsOk c) (hend:endOk c) (hlen:c.length<=4096) (hQ:∀ H',Ext H H'->Q (.agg #[vi 0,vi 0]) H'):E.call (E.fid i.f2) [v] H Q:=by
 apply hE.f2
 obtain ⟨h0,hend⟩:=hend
 have hlv:=hv.lenSlc
 have hil:(insnR c).length=c.length:=by simp [insnR]
 rw [hil] at hlv
 have hms:=makeS_all 1 2 c.length [u16 0#16] rfl (by omega) (by omega)
 rw [flatten_repl] at hms
 have hms:makeS 1 2 #[(.int .u16 0)] (vi c.length) (vi c.length)=some (.cells (u16L (List.replicate c.length 0#16)) none,fun b=>slc b 0 c.length c.length):=by rw [u16L,List.map_replicate]; exact hms
 have i0:(.int .i64 0:Value)=vi ((0:Nat):Int):=rfl
 have q0:(.int .u16 0:Value)=u16 0#16:=rfl
 have qf:(.int .u16 65535:Value)=u16 65535#16:=rfl
 have g:=((Has.begin (Ext.refl H) (Sub.refl H)).newbox [(.int .i64 0),(.int .i64 0)]).newbox (u16L (List.replicate c.length 0#16))
 have hls:∀ b n m,lenSlc (slc b 0 n m)=some (vi n):=fun _ _ _=>rfl
 simp only [F.f2,allocW_eq,hlv,hms,AM.mk_some,hls,stdZ]
 have hn1:H.next+1=(H.new (.cells [(.int .i64 0),(.int .i64 0)] none)).next:=rfl
 rw [hn1]
 clear hn1
 generalize (H.new (.cells [(.int .i64 0),(.int .i64 0)] none)).new (.cells (u16L (List.replicate c.length 0#16)) none)=H2 at *
 generalize (H.new (.cells [(.int .i64 0),(.int .i64 0)] none)).next=sb at *
 generalize H.next=wb at *
 rw [i0]
 refine LoopL.count c.length (fun k ls H'=>ls=[v,ptr wb 0,slc sb 0 c.length c.length,vi c.length,vi k]/\∃ ws:List (BitVec 16),ws.length=c.length/\Has H H H' [boxR wb [vi 0,vi 0],boxR sb (u16L ws)]) ?_ ⟨rfl,_,by simp,g⟩
 rintro k _ H3 X1 hk ih ⟨rfl,ws,hws,g3⟩
 rcases Nat.lt_or_ge k c.length with hlt | hge
 ·have hlt':decide ((k:Int)<c.length)=true:=decide_eq_true (by omega)
  have hix:=ix_slc1 sb c.length c.length k hlt
  have hinc:=i64_inc (i:=k) (by omega)
  obtain ⟨H4,s4,g4⟩:=g3.setW (k:=k) (by omega) 65535#16
  simp only [F.f2_l1,i64_lss,hlt',hix,qf,s4,hinc,stdZ]
  exact ih hlt _ _ ⟨rfl,_,by simp [hws],g4⟩
 have hke:k=c.length:=by omega
 subst hke
 have hlt':decide ((c.length:Int)<c.length)=false:=decide_eq_false (by omega)
 have hix0:ixSlc 1 (slc sb 0 c.length c.length) (.int .i64 0)=some (ptr sb 0):=ix_slc1 sb c.length c.length 0 h0
 obtain ⟨H4,s4,g4⟩:=g3.setW (k:=0) (by omega) 0#16
 simp only [F.f2_l1,i64_lss,hlt',hix0,q0,s4,hlv,stdZ]
 have hw4:(ws.set 0 0#16).length=c.length:=by simp [hws]
 generalize ws.set 0 0#16=ws at *
 rw [i0]
 refine LoopL.count c.length (fun k ls H'=>ls=[ptr wb 0,slc sb 0 c.length c.length,v,vi c.length,vi k]/\∃ ws:List (BitVec 16),ws.length=c.length/\Has H H H' [boxR wb [vi 0,vi 0],boxR sb (u16L ws)]) ?_ ⟨rfl,ws,hw4,g4⟩
 clear g4 g3 ih s4 hw4 hws ws
 rintro k _ H5 X2 hk ih ⟨rfl,ws,hws,g5⟩
 rcases Nat.lt_or_ge k c.length with hlt | hge
 rotate_left
 ·have hke:k=c.length:=by omega
  subst hke
  have hb:=g5.box (k:=0) (b:=wb) (c:=[vi 0,vi 0]) rfl
  have hbv:buildV [(0,1),(1,1)] #[(.int .i64 0),(.int .i64 0)] []=some (.agg #[vi 0,vi 0]):=rfl
  have hst:storeN 2 (ptr wb 0) (.agg #[vi 0,vi 0]) H5=some (H5.put wb (.cells [vi 0,vi 0] none)):=by
   rw [storeN_ptr,hb]; rfl
  have g6:=g5.put (k:=0) (b:=wb) (c:=[vi 0,vi 0]) rfl [vi 0,vi 0]
  have hb6:=g6.box (k:=0) (b:=wb) (c:=[vi 0,vi 0]) rfl
  have lo6:loadN 2 (ptr wb 0) (H5.put wb (.cells [vi 0,vi 0] none))=some (.agg #[vi 0,vi 0]):=by rw [loadN_ptr,hb6]; rfl
  simp only [F.f2_l2,i64_lss,hlt',hbv,hst,lo6,stdZ]
  exact hQ _ g6.ext
 have hlt':decide ((k:Int)<c.length)=true:=decide_eq_true (by omega)
 obtain ⟨bb,o,f1,f2⟩:=hv.ix (i:=k) (by omega)
 have hrow:(insnR c)[k]'(by omega)=c[k].cells:=by simp [insnR]
 rw [hrow] at f2
 have f2:(H5.get bb).row o 4=some c[k].cells:=by
  have:H5.get bb=H.get bb:=g5.ext.obj (o:=H.get bb) (fun hd=>by rw [hd] at f2; cases f2) rfl
  rw [this]; exact f2
 have lo:loadN 4 (ptr bb o) H5=some c[k].v:=by rw [loadN_ptr,f2]; rfl
 have hokx:=hok k hlt
 have hl6:c[k].code=6#16\/k+1<c.length:=by
  rcases Nat.lt_or_ge (k+1) c.length with h | h
  ·exact .inr h
  ·have:k=c.length - 1:=by omega
   subst this
   exact .inl hend
 have hix:=ix_slc1 sb c.length c.length k hlt
 have hinc:=i64_inc (i:=k) (by omega)
 generalize c[k]=x at *
 have hst:=insn_new x H5
 have g6:=g5.new (.cells x.cells none)
 have bx:=AH.get_new_self H5 (.cells x.cells none)
 have bs:=g6.box (k:=1) (b:=sb) (c:=u16L ws) rfl
 have cx:x.cells[0]? = some (u16 x.code):=rfl
 have cs:(u16L ws)[k]? = some (u16 (ws[k]'(by omega))):=by simp [u16L,List.getElem?_eq_getElem (show k<ws.length by omega)]
 have k96:(.int .u16 96:Value)=u16 96#16:=rfl
 have k97:(.int .u16 97:Value)=u16 97#16:=rfl
 have k2:(.int .u16 2:Value)=u16 2#16:=rfl
 have k3:(.int .u16 3:Value)=u16 3#16:=rfl
 have e96:decide (x.code=96#16)=false:=by rcases hokx with ⟨h,_⟩ | h | ⟨h,_⟩ | ⟨h,_⟩ | ⟨h,_⟩ | ⟨h,_⟩ | h <;> rw [h] <;> decide
 have e97:decide (x.code=97#16)=false:=by rcases hokx with ⟨h,_⟩ | h | ⟨h,_⟩ | ⟨h,_⟩ | ⟨h,_⟩ | ⟨h,_⟩ | h <;> rw [h] <;> decide
 have e2:decide (x.code=2#16)=false:=by rcases hokx with ⟨h,_⟩ | h | ⟨h,_⟩ | ⟨h,_⟩ | ⟨h,_⟩ | ⟨h,_⟩ | h <;> rw [h] <;> decide
 have e3:decide (x.code=3#16)=false:=by rcases hokx with ⟨h,_⟩ | h | ⟨h,_⟩ | ⟨h,_⟩ | ⟨h,_⟩ | ⟨h,_⟩ | h <;> rw [h] <;> decide
 have lox:=insn_load bx
 generalize ws[k]'(by omega)=w at *
 simp only [F.f2_l2,i64_lss,hlt',f1,lo,allocW_eq,hst,hix,bs,cs,bx,cx,k96,k97,u16_eql,e96,e97,F.f2_j2,F.f2_j3,F.f2_j1,k2,k3,e2,e3,lox,stdZ]
 generalize H5.new (.cells x.cells none)=H6 at *
 refine S.f5 hE x hokx hlt hlen hl6 g6 fun wv l H7 g7 hl hl2 =>?_
 have hwl:=(g7.rows (k:=2) (sz:=1) (v:=wv) (rows:=natR l) rfl).lenSlc
 have hnl:(natR l).length=l.length:=by simp [natR]
 rw [hnl] at hwl
 simp only [hwl,i0,stdZ]
 refine LoopL.count l.length (fun q ls H'=>ls=[ptr wb 0,slc sb 0 c.length c.length,u16 w,v,vi c.length,vi k,wv,vi l.length,vi q]/\∃ ws:List (BitVec 16),ws.length=c.length/\Has H H H' (boxR wb [vi 0,vi 0] :: boxR sb (u16L ws) :: [growR 1 wv (natR l)])) ?_ ⟨rfl,ws,hws,g7⟩
 rintro q _ H8 X3 hq ih2 ⟨rfl,ws,hws,g8⟩
 rcases Nat.lt_or_ge q l.length with hql | hqg
 ·have hql':decide ((q:Int)<l.length)=true:=decide_eq_true (by omega)
  obtain ⟨b3,o3,n1,n2⟩:=(g8.rows (k:=2) (sz:=1) (v:=wv) (rows:=natR l) rfl).ix (i:=q) (by omega)
  have hnr:(natR l)[q]'(by omega)=[vi (l[q]:Nat)]:=by simp [natR]
  rw [hnr] at n2
  have hce:((H8.get b3).cell o3)=some (vi (l[q]:Nat)):=by have:=row_at n2 (j:=0) (by omega); simpa using this
  have hlq:=hl l[q] (List.getElem_mem hql)
  have hqi:=i64_inc (i:=q) (by omega)
  generalize l[q]=y at *
  have hiy:=ix_slc1 sb c.length c.length y hlq
  have bs:=g8.box (k:=1) (b:=sb) (c:=u16L ws) rfl
  have cs:(u16L ws)[y]? = some (u16 (ws[y]'(by omega))):=by simp [u16L,List.getElem?_eq_getElem (show y<ws.length by omega)]
  obtain ⟨H9,s9,g9⟩:=Has.setW (X:=[growR 1 wv (natR l)]) g8 (k:=y) (by omega) ((ws[y]'(by omega))&&&w)
  simp only [F.f2_l3,i64_lss,hql',n1,hce,hiy,bs,cs,u16_and,s9,hqi,stdZ]
  exact ih2 hql _ _ ⟨rfl,_,by simp [hws],g9⟩
 ·have hql':decide ((q:Int)<l.length)=false:=decide_eq_false (by omega)
  simp only [F.f2_l3,i64_lss,hql',hinc,stdZ]
  exact ih hlt _ _ ⟨rfl,ws,hws,Has.dropLast (L:=[_,_]) g8⟩
theorem S.f0 (hE:Fold E) {v:Value} {c:List InsnD} (hv:Rows H 4 v (insnR c)) (hok:insnsOk c) (hend:endOk c) (hlen:c.length<=4096) (hQ:∀ H',Ext H H'->Q (.agg #[vi 0,vi 0]) H'):E.call (E.fid i.f0) [v] H Q:=by
 apply hE.f0
 have hend':=hend
 obtain ⟨h0,hend⟩:=hend
 have hlv:=hv.lenSlc
 have hil:(insnR c).length=c.length:=by simp [insnR]
 rw [hil] at hlv
 have i0:(.int .i64 0:Value)=vi ((0:Nat):Int):=rfl
 have i1:(.int .i64 1:Value)=vi 1:=rfl
 have i4096:(.int .i64 4096:Value)=vi 4096:=rfl
 have d0:decide ((c.length:Int)=((0:Nat):Int))=false:=decide_eq_false (by omega)
 have d1:decide ((4096:Int)<c.length)=false:=decide_eq_false (by omega)
 have g:=(Has.begin (Ext.refl H) (Sub.refl H)).newbox [(.int .i64 0),(.int .i64 0)]
 simp only [F.f0,allocW_eq,hlv,i0,i4096,i64_eql,i64_gtr,d0,d1,stdZ]
 have g:Has H H (H.new (.cells [vi ((0:Nat):Int),vi ((0:Nat):Int)] none)) [boxR H.next [vi 0,vi 0]]:=g
 generalize H.new (.cells [vi ((0:Nat):Int),vi ((0:Nat):Int)] none)=H1 at *
 generalize H.next=wb at *
 refine LoopL.count c.length (fun k ls H'=>ls=[v,ptr wb 0,v,vi c.length,vi k]/\Has H H H' [boxR wb [vi 0,vi 0]]) ?_ ⟨rfl,g⟩
 clear g
 rintro k _ H5 X2 hk ih ⟨rfl,g5⟩
 have hv5:=hv.mono g5.ext
 have row:∀ j (hj:j<c.length),∃ bb o,ixSlc 4 v (vi j)=some (ptr bb o)/\loadN 4 (ptr bb o) H5=some c[j].v:=by
  intro j hj
  obtain ⟨bb,o,f1,f2⟩:=hv5.ix (i:=j) (by omega)
  have hrow:(insnR c)[j]'(by omega)=c[j].cells:=by simp [insnR]
  rw [hrow] at f2
  exact ⟨bb,o,f1,by rw [loadN_ptr,f2]; rfl⟩
 have hw:∀ {H':AH},Has H H H' [boxR wb [vi 0,vi 0]]->∃ H'',storeN 2 (ptr wb 0) (.agg #[vi 0,vi 0]) H'=some H''/\loadN 2 (ptr wb 0) H''=some (.agg #[vi 0,vi 0])/\Ext H H'':=by
  intro H' g'
  have hb:=g'.box (k:=0) (b:=wb) (c:=[vi 0,vi 0]) rfl
  have g6:=g'.put (k:=0) (b:=wb) (c:=[vi 0,vi 0]) rfl [vi 0,vi 0]
  have hb6:=g6.box (k:=0) (b:=wb) (c:=[vi 0,vi 0]) rfl
  exact ⟨_,by rw [storeN_ptr,hb]; rfl,by rw [loadN_ptr,hb6]; rfl,g6.ext⟩
 rcases Nat.lt_or_ge k c.length with hlt | hge
 ·have hlt':decide ((k:Int)<c.length)=true:=decide_eq_true (by omega)
  obtain ⟨bb,o,f1,lo⟩:=row k hlt
  have hokx:=hok k hlt
  have hinc:=i64_inc (i:=k) (by omega)
  generalize c[k]=x at *
  have hst:=insn_new x H5
  have g6:=g5.new (.cells x.cells none)
  have lox:=insn_load (AH.get_new_self H5 (.cells x.cells none))
  simp only [F.f0_l1,i64_lss,hlt',f1,lo,allocW_eq,hst,lox,hlv,stdZ]
  generalize H5.new (.cells x.cells none)=H6 at *
  refine S.f3 hE x hokx hlt hlen fun H7 e7 =>?_
  have d7:decide (((0:Nat):Int)≠((0:Nat):Int))=false:=rfl
  simp only [i0,i64_neq,d7,hinc,stdZ]
  exact ih hlt _ _ ⟨rfl,g6.grow e7⟩
 ·have hke:k=c.length:=by omega
  subst hke
  have hlt':decide ((c.length:Int)<c.length)=false:=decide_eq_false (by omega)
  obtain ⟨bb,o,f1,lo⟩:=row (c.length - 1) (by omega)
  have hs:binInt .sub (vi (c.length:Int)) (vi 1)=some (vi ((c.length - 1:Nat):Int)):=by rw [i64_sub (by omega) (by omega)]; congr 2; omega
  have he6:decide (iclass (c[c.length - 1]'(by omega)).code=6#16)=true:=by rw [hend]; decide
  simp only [F.f0_l1,i64_lss,hlt',hlv,i1,hs,f1,lo,stdZ]
  refine S.f1 hE _ fun H6 e6 =>?_
  rw [he6]
  simp only [stdZ]
  have g6:=g5.grow e6
  refine S.f2 hE (hv.mono g6.ext) hok hend' hlen fun H7 e7 =>?_
  obtain ⟨H8,s8,l8,e8⟩:=hw (g6.grow e7)
  simp only [s8,l8,stdZ]
  exact hQ _ e8
theorem S.f50 (hE:Fold E) {v:Value} {c:List InsnD} (hv:Rows H 4 v (insnR c)) (hok:insnsOk c) (hend:endOk c) (hlen:c.length<=4096) (hQ:∀ fb H',Fil H H H' fb c []->Q (.tuple #[ptr fb 0,.agg #[vi 0,vi 0]]) H'):E.call (E.fid i.f50) [v] H Q:=by
 apply hE.f50
 have g1:=(Has.begin (Ext.refl H) (Sub.refl H)).newbox [(.int .i64 0),(.int .i64 0)]
 have x1:Ext H (H.new (.cells [(.int .i64 0),(.int .i64 0)] none)):=(Ext.refl H).new _
 simp only [F.f50,allocW_eq,stdZ]
 generalize H.new (.cells [(.int .i64 0),(.int .i64 0)] none)=H1 at *
 generalize H.next=wb at *
 refine S.f0 hE (hv.mono x1) hok hend hlen fun H2 e2 =>?_
 have g2:=g1.grow e2
 have s2:storeN 2 (ptr H2.next 0) (.agg #[vi 0,vi 0]) (H2.new (.cells [(.int .i64 0),(.int .i64 0)] none))=some (H2.new (.cells [vi 0,vi 0] none)):=two_store (z:=[(.int .i64 0),(.int .i64 0)]) (c:=[vi 0,vi 0]) rfl rfl rfl
 have l2:loadN 2 (ptr H2.next 0) (H2.new (.cells [vi 0,vi 0] none))=some (.agg #[vi 0,vi 0]):=by rw [loadN_ptr,AH.get_new_self]; rfl
 have hbv:buildV [(0,1),(1,1)] #[(.int .i64 0),(.int .i64 0)] []=some (.agg #[vi 0,vi 0]):=rfl
 have hne:binAgg [0,0] .neq (.agg #[vi 0,vi 0]) (.agg #[vi 0,vi 0])=some (vb false):=rfl
 have g3:=g2.new (.cells [vi 0,vi 0] none)
 simp only [allocW_eq,s2,l2,hbv,hne,stdZ]
 generalize H2.new (.cells [vi 0,vi 0] none)=H3 at *
 have g4:=g3.newroom 4
 have hbS:buildS 0 4 #[(.int .u16 0),(.int .u8 0),(.int .u8 0),(.int .u32 0)] []=some (.cells [] none,mkSlc 0 0):=buildS0 4 [u16 0#16,u8 0#8,u8 0#8,u32 0#32] rfl
 obtain ⟨lv,H5,a1,a2,g5⟩:=g4.app (k:=1) (sz:=4) (v:=slc H3.next 0 0 0) (rows:=[]) (new:=insnR c) (x:=v) (bytes:=8) rfl (hv.mono g4.ext) (by intro r hr; obtain ⟨y,_,rfl⟩:=List.mem_map.1 hr; rfl) (by decide) (by decide) (by simp [insnR]; omega) (by simp [insnR]; omega)
 have hbv2:buildV [(0,1),(1,1),(2,1)] #[(.slice none 0 0),(.int .i64 0),(.int .i64 0)] [(0,lv)]=some (.agg #[lv,vi 0,vi 0]):=by
  have:=(g5.rows (k:=1) (sz:=4) (v:=lv) (rows:=[]++insnR c) rfl).at_
  rcases this with ⟨_,c',rfl⟩ | ⟨b,o,c',rfl,_⟩ <;> rfl
 have g6:=g5.newbox [lv,vi 0,vi 0]
 simp only [hbS,AM.mk_some,mkSlc_eq,a1,hbv2,boxO_agg_z,mkPtr_eq_z,List.toList_toArray,stdZ]
 generalize H5.new (.cells [lv,vi 0,vi 0] none)=H6 at *
 generalize H5.next=fb at *
 have hb6:=g6.box (k:=0) (b:=wb) (c:=[(.int .i64 0),(.int .i64 0)]) rfl
 have g7:=g6.put (k:=0) (b:=wb) (c:=[(.int .i64 0),(.int .i64 0)]) rfl [vi 0,vi 0]
 have s7:storeN 2 (ptr wb 0) (.agg #[vi 0,vi 0]) H6=some (H6.put wb (.cells [vi 0,vi 0] none)):=by rw [storeN_ptr,hb6]; rfl
 have b7:=g7.box (k:=0) (b:=wb) (c:=[vi 0,vi 0]) rfl
 have l7:loadN 2 (ptr wb 0) (H6.put wb (.cells [vi 0,vi 0] none))=some (.agg #[vi 0,vi 0]):=by rw [loadN_ptr,b7]; rfl
 simp only [hbv,s7,l7,stdZ]
 exact hQ _ _ ⟨lv,0,0,(g7.drop 0).perm (List.Perm.swap _ _ _)⟩
end
end Go.AM
end
section
namespace Go.AM
set_option maxRecDepth 20000
abbrev Beh:=BitVec 32->BitVec 32
def kill0:Beh:=fun _=>2147483648#32
def goTo (env:List (Int×Beh)) (n:Int):Beh:=(alook n env).getD kill0
def testI (x:InsnD) (a:BitVec 32):Bool:=if x.code=21#16 then decide (a=x.k) else if x.code=37#16 then decide (x.k.toNat<a.toNat) else decide (x.k.toNat<=a.toNat)
def denStep (r:RecD) (p:PartD) (d:List (Int×Beh)×Beh):List (Int×Beh)×Beh :=
 if p.kind=1#8 then ((p.to,d.2) :: d.1,d.2)
 else if p.kind=4#8 then (d.1,goTo d.1 p.to)
 else if p.kind=3#8 then (d.1,fun a=>if testI p.insn a=true then goTo d.1 p.to a else goTo d.1 p.els a)
 else (d.1,fun a=>match (stepI r p.insn a).2.2 with
  | some o=>o
  | none=>d.2 (stepI r p.insn a).1)
def den (r:RecD) (l:List PartD):List (Int×Beh)×Beh:=l.foldr (denStep r) ([],kill0)
def partOk (p:PartD):Prop :=
 p.kind=1#8\/p.kind=4#8\/(p.kind=2#8/\((p.insn.code=32#16/\p.insn.k.toNat % 4=0/\p.insn.k.toNat<=60)\/p.insn.code=84#16\/p.insn.code=6#16)) \/
 (p.kind=3#8/\(p.insn.code=21#16\/p.insn.code=37#16\/p.insn.code=53#16))
theorem runC_cons (r:RecD) (f:Nat) (x:InsnD) (c:List InsnD) (a:BitVec 32):runC r (f+1) (x :: c) a=match (stepI r x a).2.2 with
  | some o=>o
  | none=>runC r f (c.drop (stepI r x a).2.1) (stepI r x a).1:=rfl
theorem step_hop (r:RecD) (n:Nat) (hn:n<2 ^ 32) (a:BitVec 32):stepI r (hopI n) a=(a,n,none):=by
 have h:(hopI (n:Int)).k.toNat=n:=by
  show (BitVec.ofInt 32 (n:Int)).toNat=n
  rw [BitVec.ofInt_natCast,BitVec.toNat_ofNat,Nat.mod_eq_of_lt hn]
 unfold stepI
 rw [h]; rfl
theorem step_cmp (r:RecD) {x:InsnD} (hx:x.code=21#16\/x.code=37#16\/x.code=53#16) (a:BitVec 32):stepI r x a=(a,if testI x a=true then x.jt.toNat else x.jf.toNat,none):=by
 unfold stepI testI
 rcases hx with h | h | h <;> rw [h] <;> simp
theorem run_hop (r:RecD) (f n:Nat) (hn:n<2 ^ 32) (c:List InsnD) (a:BitVec 32):runC r (f+1) (hopI n :: c) a=runC r f (c.drop n) a:=by
 rw [runC_cons,step_hop r n hn a]
theorem ok_cons {x:InsnD} {c:List InsnD} (h:okI x c.length) (hc:insnsOk c):insnsOk (x :: c):=by
 intro k hk
 cases k with
 | zero=>simpa using h
 | succ k =>
  have:=hc k (by simpa using hk)
  simp only [List.getElem_cons_succ,List.length_cons]
  have e:c.length+1 - (k+1) - 1=c.length - k - 1:=by omega
  rw [e]; exact this
theorem end_cons {x:InsnD} {c:List InsnD} (h:endOk c):endOk (x :: c):=by
 obtain ⟨h0,h1⟩:=h
 refine ⟨by simp,?_⟩
 have:(x :: c)[(x :: c).length - 1]'(by simp)=c[c.length - 1]'(by omega):=by
  simp only [List.length_cons,Nat.add_sub_cancel]
  rw [List.getElem_cons,dif_neg (by omega)]
 rw [this]; exact h1
theorem hop_ok {n m:Nat} (h:n<m) (hm:m<2 ^ 32):okI (hopI n) m:=by
 refine .inr (.inr (.inl ⟨rfl,?_⟩))
 show (BitVec.ofInt 32 (n:Int)).toNat<m
 rw [BitVec.ofInt_natCast,BitVec.toNat_ofNat,Nat.mod_eq_of_lt (by omega)]
 exact h
structure Says (r:RecD) (s:MkD) (d:List (Int×Beh)×Beh):Prop where
 pos:0<s.out.length
 run:∀ f a,s.out.length<=f->runC r f s.out a=d.2 a
 places:∀ n k,alook n s.places=some k->0<k/\k<=s.out.length/\∀ f a,k<=f->runC r f (s.out.drop (s.out.length - k)) a=goTo d.1 n a
 names:∀ n,(alook n s.places).isSome=(alook n d.1).isSome
 ok:insnsOk s.out
 end_ : endOk s.out
theorem Says.push {r:RecD} {s:MkD} {d:List (Int×Beh)×Beh} (h:Says r s d) (x:InsnD) (k:Beh) (hr:∀ f a,s.out.length<=f->runC r (f+1) (x :: s.out) a=k a) (hx:okI x s.out.length):Says r ⟨x :: s.out,s.places⟩ (d.1,k):=by
 refine ⟨by simp,fun f a hf =>?_,fun n j hj =>?_,h.names,ok_cons hx h.ok,end_cons h.end_⟩
 ·simp only [List.length_cons] at hf
  obtain ⟨f,rfl⟩:∃ g,f=g+1:=⟨f - 1,by omega⟩
  exact hr f a (by omega)
 ·obtain ⟨h1,h2,h3⟩:=h.places n j hj
  refine ⟨h1,by simp; omega,fun f a hf =>?_⟩
  have:(x :: s.out).drop ((x :: s.out).length - j)=s.out.drop (s.out.length - j):=by
   simp only [List.length_cons]
   rw [show s.out.length+1 - j=(s.out.length - j)+1 by omega,List.drop_succ_cons]
  simp only [this]
  exact h3 f a hf
theorem Says.away {r:RecD} {s:MkD} {d:List (Int×Beh)×Beh} (h:Says r s d) {n:Int} (hs:(alook n s.places).isSome=true):∃ t:Nat,s.away n=t/\t<s.out.length/\∀ f a,s.out.length<=f+t->runC r f (s.out.drop t) a=goTo d.1 n a:=by
 obtain ⟨k,hk⟩:=Option.isSome_iff_exists.1 hs
 obtain ⟨h1,h2,h3⟩:=h.places n k hk
 refine ⟨s.out.length - k,?_,by omega,fun f a hf=>h3 f a (by omega)⟩
 unfold MkD.away
 rw [hk]
 show (s.out.length:Int) - (k:Int)=_
 omega
theorem Says.cmp {r:RecD} {s:MkD} {d:List (Int×Beh)×Beh} (h:Says r s d) (hl:s.out.length<=4096) {x:InsnD} (hx:x.code=21#16\/x.code=37#16\/x.code=53#16) {t e:Nat} (ht:t<s.out.length) (he:e<s.out.length) {kt ke:Beh}
  (rt:∀ f a,s.out.length<=f+t->runC r f (s.out.drop t) a=kt a) (re:∀ f a,s.out.length<=f+e->runC r f (s.out.drop e) a=ke a) :
  Says r (s.cmp0 x t e) (d.1,fun a=>if testI x a=true then kt a else ke a):=by
 have hop:∀ (s:MkD) (d:List (Int×Beh)×Beh) (n:Nat),Says r s d->n<s.out.length->s.out.length<=5000->Says r (s.hop n) (d.1,fun a=>runC r s.out.length (s.out.drop n) a):=by
  intro s d n h hn h5
  refine h.push (hopI n) _ (fun f a hf =>?_) (hop_ok hn (by omega))
  rw [run_hop r f n (by omega)]
  have fuel:∀ (f g:Nat) (c:List InsnD) (a:BitVec 32),c.length<=f->c.length<=g->runC r f c a=runC r g c a:=by
   intro f
   induction f with
   | zero=>intro g c a h1 h2; have:c=[]:=List.eq_nil_of_length_eq_zero (by omega); subst this; rw [runC_over,runC_over]
   | succ f ih =>
    intro g c a h1 h2
    cases c with
    | nil=>rw [runC_over,runC_over]
    | cons y c =>
     obtain ⟨g,rfl⟩:∃ g',g=g'+1:=⟨g - 1,by simp at h2; omega⟩
     rw [runC_cons,runC_cons]
     cases (stepI r y a).2.2 with
     | some o=>rfl
     | none=>exact ih g _ _ (by simp at h1 ⊢; omega) (by simp at h2 ⊢; omega)
  exact fuel _ _ _ _ (by rw [List.length_drop]; omega) (by rw [List.length_drop]; omega)
 have c8:∀ n:Nat,n<256->(BitVec.ofInt 8 (n:Int)).toNat=n:=fun n hn=>by rw [BitVec.ofInt_natCast,BitVec.toNat_ofNat,Nat.mod_eq_of_lt hn]
 have near:∀ (s:MkD) (d:List (Int×Beh)×Beh) (t e:Nat) (kt ke:Beh),Says r s d->t<256->e<256->t<s.out.length->e<s.out.length ->
   (∀ f a,s.out.length<=f->runC r f (s.out.drop t) a=kt a)->(∀ f a,s.out.length<=f->runC r f (s.out.drop e) a=ke a) ->
   Says r (s.cmp2 x t e) (d.1,fun a=>if testI x a=true then kt a else ke a):=by
  intro s d t e kt ke h t8 e8 ht he rt re
  refine h.push ⟨x.code,BitVec.ofInt 8 (t:Int),BitVec.ofInt 8 (e:Int),x.k⟩ _ (fun f a hf =>?_) ?_
  ·rw [runC_cons,step_cmp r (x:=⟨x.code,BitVec.ofInt 8 (t:Int),BitVec.ofInt 8 (e:Int),x.k⟩) hx a]
   show runC r f (s.out.drop (if testI x a=true then (BitVec.ofInt 8 (t:Int)).toNat else (BitVec.ofInt 8 (e:Int)).toNat)) a=_
   rw [c8 t t8,c8 e e8]
   by_cases hb:testI x a=true
   ·rw [if_pos hb,if_pos hb]; exact rt f a hf
   ·rw [if_neg hb,if_neg hb]; exact re f a hf
  ·have j1:(BitVec.ofInt 8 (t:Int)).toNat<s.out.length:=by rw [c8 t t8]; exact ht
   have j2:(BitVec.ofInt 8 (e:Int)).toNat<s.out.length:=by rw [c8 e e8]; exact he
   rcases hx with h | h | h
   ·exact .inr (.inr (.inr (.inl ⟨h,j1,j2⟩)))
   ·exact .inr (.inr (.inr (.inr (.inl ⟨h,j1,j2⟩))))
   ·exact .inr (.inr (.inr (.inr (.inr (.inl ⟨h,j1,j2⟩)))))
 unfold MkD.cmp0
 by_cases h1:253<(e:Int)
 ·rw [if_pos h1]
  have s1:=hop s d e h he (by omega)
  have hlen:(s.hop e).out.length=s.out.length+1:=by simp [MkD.hop]
  unfold MkD.cmp1
  by_cases h2:253<(t:Int)+1
  ·rw [if_pos h2]
   have s2:=hop (s.hop e) _ (t+1) s1 (by omega) (by omega)
   have hlen2:((s.hop e).hop (t+1:Nat)).out.length=s.out.length+2:=by simp [MkD.hop]
   have:=near _ _ 0 1 kt ke s2 (by omega) (by omega) (by omega) (by omega)
    (fun f a hf=>by
     obtain ⟨f,rfl⟩:∃ g,f=g+1:=⟨f - 1,by omega⟩
     rw [List.drop_zero]
     show runC r (f+1) (hopI ((t+1:Nat):Int) :: (hopI (e:Int) :: s.out)) a=_
     rw [run_hop r f (t+1) (by omega),List.drop_succ_cons]
     exact rt f a (by omega))
    (fun f a hf=>by
     obtain ⟨f,rfl⟩:∃ g,f=g+1:=⟨f - 1,by omega⟩
     show runC r (f+1) (hopI (e:Int) :: s.out) a=_
     rw [run_hop r f e (by omega)]
     exact re f a (by omega))
   exact this
  ·rw [if_neg h2]
   have:=near _ _ (t+1) 0 kt ke s1 (by omega) (by omega) (by omega) (by omega)
    (fun f a hf=>by
     show runC r f ((hopI (e:Int) :: s.out).drop (t+1)) a=_
     rw [List.drop_succ_cons]
     exact rt f a (by omega))
    (fun f a hf=>by
     obtain ⟨f,rfl⟩:∃ g,f=g+1:=⟨f - 1,by omega⟩
     rw [List.drop_zero]
     show runC r (f+1) (hopI (e:Int) :: s.out) a=_
     rw [run_hop r f e (by omega)]
     exact re f a (by omega))
   exact this
 ·rw [if_neg h1]
  unfold MkD.cmp1
  by_cases h2:253<(t:Int)
  ·rw [if_pos h2]
   have s2:=hop s d t h ht (by omega)
   have hlen2:(s.hop (t:Nat)).out.length=s.out.length+1:=by simp [MkD.hop]
   have:=near _ _ 0 (e+1) kt ke s2 (by omega) (by omega) (by omega) (by omega)
    (fun f a hf=>by
     obtain ⟨f,rfl⟩:∃ g,f=g+1:=⟨f - 1,by omega⟩
     rw [List.drop_zero]
     show runC r (f+1) (hopI (t:Int) :: s.out) a=_
     rw [run_hop r f t (by omega)]
     exact rt f a (by omega))
    (fun f a hf=>by
     show runC r f ((hopI (t:Int) :: s.out).drop (e+1)) a=_
     rw [List.drop_succ_cons]
     exact re f a (by omega))
   exact this
  ·rw [if_neg h2]
   exact near s d t e kt ke h (by omega) (by omega) ht he (fun f a hf=>rt f a (by omega)) (fun f a hf=>re f a (by omega))
end Go.AM
end
section
namespace Go.AM
set_option maxRecDepth 20000
def heres (l:List PartD):List Int:=l.filterMap fun p=>if p.kind=1#8 then some p.to else none
theorem heres_cons (p:PartD) (l:List PartD):heres (p :: l)=if p.kind=1#8 then p.to :: heres l else heres l:=by
 unfold heres
 rw [List.filterMap_cons]
 split <;> rename_i h
 ·split at h
  ·cases h
  ·rename_i h1; rw [if_neg h1]
 ·split at h
  ·rename_i h1; cases h; rw [if_pos h1]
  ·cases h
theorem heres_app (a b:List PartD):heres (a++b)=heres a++heres b:=List.filterMap_append
theorem den_cons (r:RecD) (p:PartD) (l:List PartD):den r (p :: l)=denStep r p (den r l):=rfl
theorem den_names (r:RecD):∀ (l:List PartD) (n:Int),(alook n (den r l).1).isSome=decide (n∈heres l)
 | [],n=>by simp [den,alook,heres]
 | p :: l,n=>by
  rw [den_cons,heres_cons]
  unfold denStep
  by_cases h1:p.kind=1#8
  ·rw [if_pos h1,if_pos h1]
   simp only [alook_cons]
   by_cases hn:n=p.to
   ·rw [if_pos hn]; simp [hn]
   ·rw [if_neg hn,den_names r l n]; simp [hn]
  ·rw [if_neg h1,if_neg h1]
   by_cases h4:p.kind=4#8
   ·rw [if_pos h4]; exact den_names r l n
   ·rw [if_neg h4]
    by_cases h3:p.kind=3#8
    ·rw [if_pos h3]; exact den_names r l n
    ·rw [if_neg h3]; exact den_names r l n
theorem part_says {r:RecD} {s t:MkD} {d:List (Int×Beh)×Beh} (h:Says r s d) (hl:s.out.length<=4096) {p:PartD} (hp:partOk p) (e:s.part p = .inr t):Says r t (denStep r p d):=by
 unfold MkD.part at e
 unfold denStep
 by_cases h1:p.kind=1#8
 ·rw [if_pos h1] at e ⊢
  split at e
  ·cases e
  ·rename_i hs
   cases e
   refine ⟨h.pos,h.run,fun n k hk =>?_,fun n =>?_,h.ok,h.end_⟩
   ·simp only [alook_asetG] at hk
    unfold goTo
    simp only [alook_cons]
    by_cases hn:n=p.to
    ·rw [if_pos hn] at hk ⊢
     cases hk
     refine ⟨h.pos,Nat.le_refl _,fun f a hf =>?_⟩
     rw [Nat.sub_self,List.drop_zero]
     exact h.run f a hf
    ·rw [if_neg hn] at hk ⊢
     exact h.places n k hk
   ·simp only [alook_asetG,alook_cons]
    by_cases hn:n=p.to
    ·rw [if_pos hn,if_pos hn]; rfl
    ·rw [if_neg hn,if_neg hn]; exact h.names n
 rw [if_neg h1] at e ⊢
 by_cases h2:p.kind=2#8
 ·have h4:p.kind≠4#8:=by rw [h2]; decide
  have h3:p.kind≠3#8:=by rw [h2]; decide
  rw [if_pos h2] at e
  rw [if_neg h4,if_neg h3]
  have hx:(p.insn.code=32#16/\p.insn.k.toNat % 4=0/\p.insn.k.toNat<=60)\/p.insn.code=84#16\/p.insn.code=6#16:=by
   rcases hp with h | h | ⟨_,h⟩ | ⟨h,_⟩
   ·exact absurd h h1
   ·exact absurd h h4
   ·exact h
   ·exact absurd h h3
  split at e
  ·cases e
  ·cases e
   have hs:∀ a,(stepI r p.insn a).2.1=0:=fun a=>by
    unfold stepI
    rcases hx with ⟨h,_⟩ | h | h <;> rw [h] <;> rfl
   refine h.push p.insn _ (fun f a hf =>?_) ?_
   ·rw [runC_cons,hs a,List.drop_zero]
    cases (stepI r p.insn a).2.2 with
    | some o=>rfl
    | none=>exact h.run f _ hf
   ·rcases hx with h | h | h
    ·exact .inl h
    ·exact .inr (.inl h)
    ·exact .inr (.inr (.inr (.inr (.inr (.inr h)))))
 rw [if_neg h2] at e
 by_cases h4:p.kind=4#8
 ·rw [if_pos h4] at e ⊢
  split at e
  ·rename_i hs
   cases e
   obtain ⟨t,e1,e2,e3⟩:=h.away hs
   rw [e1]
   refine h.push (hopI t) _ (fun f a hf =>?_) (hop_ok e2 (by omega))
   rw [run_hop r f t (by omega)]
   exact e3 f a (by omega)
  ·cases e
 rw [if_neg h4] at e ⊢
 by_cases h3:p.kind=3#8
 ·rw [if_pos h3] at e ⊢
  have hx:p.insn.code=21#16\/p.insn.code=37#16\/p.insn.code=53#16:=by
   rcases hp with h | h | ⟨h,_⟩ | ⟨_,h⟩
   ·exact absurd h h1
   ·exact absurd h h4
   ·exact absurd h h2
   ·exact h
  split at e
  ·cases e
  ·split at e
   ·cases e
   ·rename_i hs
    cases e
    simp only [not_or,Bool.not_eq_false] at hs
    obtain ⟨t,a1,a2,a3⟩:=h.away hs.1
    obtain ⟨u,b1,b2,b3⟩:=h.away hs.2
    rw [a1,b1]
    exact h.cmp hl hx a2 b2 a3 b3
 ·rw [if_neg h3] at e
  cases e
def retP (k:BitVec 32):PartD:=pPlain (iRet k)
theorem makeF_ret (k:BitVec 32):makeF [retP k] = .inr ⟨[iRet k],[]⟩:=by simp [makeF,MkD.part,retP,pPlain,iRet,iclass]
theorem makeF_says {r:RecD} {k:BitVec 32}:∀ {l:List PartD} {s:MkD},(∀ p∈l,partOk p)->makeF (l++[retP k]) = .inr s->Says r s (den r (l++[retP k]))
 | [],s,_,e=>by
  have:s=⟨[iRet k],[]⟩:=by
   rw [List.nil_append,makeF_ret] at e
   cases e; rfl
  subst this
  refine ⟨by simp,fun f a hf =>?_,fun n j hj=>by simp [alook] at hj,fun n=>rfl,fun j hj =>?_,⟨by simp,rfl⟩⟩
  ·obtain ⟨f,rfl⟩:∃ g,f=g+1:=⟨f - 1,by simp at hf; omega⟩
   rfl
  ·have:j=0:=by simpa using hj
   subst this
   exact .inr (.inr (.inr (.inr (.inr (.inr rfl)))))
 | p :: l,s,hp,e=>by
  rw [List.cons_append] at e ⊢
  unfold makeF at e
  split at e
  ·cases e
  ·rename_i s1 h1
   have ih:=makeF_says (r:=r) (fun q hq=>hp q (List.mem_cons_of_mem _ hq)) h1
   have hl:=(makeF_ok h1).2
   split at e
   ·cases e
   ·rename_i t h2
    split at e
    ·cases e
    ·cases e
     rw [den_cons]
     exact part_says ih hl (hp p (List.mem_cons_self ..)) h2
def wfL (l:List PartD):Prop:=∀ a p b,l=a++p :: b->(p.kind=1#8->p.to ∉ heres b)/\(p.kind=4#8->p.to∈heres b)/\(p.kind=3#8->p.to∈heres b/\p.els∈heres b)
theorem wfL.tail {p:PartD} {l:List PartD} (h:wfL (p :: l)):wfL l:=fun a q b e=>h (p :: a) q b (by rw [e]; rfl)
theorem part_err {r:RecD} {s:MkD} {d:List (Int×Beh)×Beh} (h:Says r s d) {p:PartD} (hp:partOk p) {e:Int} (he:s.part p = .inl e) {b:List PartD} (hd:∀ n,(alook n d.1).isSome=decide (n∈heres b))
  (w:(p.kind=1#8->p.to ∉ heres b)/\(p.kind=4#8->p.to∈heres b)/\(p.kind=3#8->p.to∈heres b/\p.els∈heres b)):False:=by
 unfold MkD.part at he
 rcases hp with h1 | h4 | ⟨h2,hx⟩ | ⟨h3,hx⟩
 ·rw [if_pos h1,h.names,hd] at he
  have:=w.1 h1
  rw [if_neg (by simpa using this)] at he
  cases he
 ·rw [if_neg (by rw [h4]; decide),if_neg (by rw [h4]; decide),if_pos h4,h.names,hd,if_pos (by simpa using w.2.1 h4)] at he
  cases he
 ·rw [if_neg (by rw [h2]; decide),if_pos h2,if_neg (by rcases hx with ⟨h,_⟩ | h | h <;> rw [h] <;> decide)] at he
  cases he
 ·have:=w.2.2 h3
  rw [if_neg (by rw [h3]; decide),if_neg (by rw [h3]; decide),if_neg (by rw [h3]; decide),if_pos h3,if_neg (by rcases hx with h | h | h <;> rw [h] <;> decide),h.names,h.names,hd,hd,if_neg (by simp [this])] at he
  cases he
theorem makeF_wf {k:BitVec 32}:∀ {l:List PartD} {e:Int},(∀ p∈l,partOk p)->wfL (l++[retP k])->makeF (l++[retP k]) = .inl e->e=205
 | [],e,_,_,h=>by
  rw [List.nil_append,makeF_ret] at h
  cases h
 | p :: l,e,hp,w,h=>by
  rw [List.cons_append] at h w
  unfold makeF at h
  split at h
  ·rename_i e1 h1
   cases h
   exact makeF_wf (fun q hq=>hp q (List.mem_cons_of_mem _ hq)) w.tail h1
  ·rename_i s1 h1
   have ih:=makeF_says (r:=⟨0#32,0#32,0#64,[]⟩) (fun q hq=>hp q (List.mem_cons_of_mem _ hq)) h1
   split at h
   ·rename_i e2 h2
    exact (part_err ih (hp p (List.mem_cons_self ..)) h2 (den_names _ _) (w [] p _ rfl)).elim
   ·split at h
    ·cases h; rfl
    ·cases h
theorem makeF_len:∀ {l:List PartD} {s:MkD},makeF l = .inr s->s.out.length<=3*l.length
 | [],s,e=>by cases e; simp
 | p :: l,s,e=>by
  unfold makeF at e
  split at e
  ·cases e
  ·rename_i s1 h1
   have ih:=makeF_len h1
   have hp:=(makeF_ok h1).1
   split at e
   ·cases e
   ·rename_i t h2
    split at e
    ·cases e
    ·cases e
     have:=(part_ok hp h2).2.2
     simp only [List.length_cons]; omega
theorem makeF_small {k:BitVec 32}:∀ {l:List PartD},(∀ p∈l,partOk p)->wfL (l++[retP k])->3*(l.length+1)<=4096->∃ s,makeF (l++[retP k]) = .inr s
 | [],_,_,_=>⟨_,makeF_ret k⟩
 | p :: l,hp,w,hl=>by
  rw [List.cons_append] at w ⊢
  obtain ⟨s1,h1⟩:=makeF_small (fun q hq=>hp q (List.mem_cons_of_mem _ hq)) w.tail (by simp only [List.length_cons] at hl; omega)
  have ih:=makeF_says (r:=⟨0#32,0#32,0#64,[]⟩) (fun q hq=>hp q (List.mem_cons_of_mem _ hq)) h1
  have hlen:=makeF_len h1
  unfold makeF
  rw [h1]
  simp only
  cases h2:s1.part p with
  | inl e=>exact (part_err ih (hp p (List.mem_cons_self ..)) h2 (den_names _ _) (w [] p _ rfl)).elim
  | inr t =>
   have:=(part_ok (makeF_ok h1).1 h2).2.2
   simp only [List.length_append,List.length_cons,List.length_nil] at hlen hl
   simp only
   rw [if_neg (by omega)]
   exact ⟨t,rfl⟩
end Go.AM
end
section
namespace Go.AM
set_option maxRecDepth 20000
section
variable {E:Sy} {H H' H0 Z:AH} {Q:Value->AH->Prop} {X:List Res} {lw m:Nat} {s:LwD}
theorem big_put (s:LwD) (p:PartD):(s.put p).big=s.big+1:=by simp only [LwD.big,LwD.put,List.length_append,List.length_cons,List.length_nil]; omega
theorem big_new (s:LwD):s.new.big=s.big+1:=by simp only [LwD.big,LwD.new]; omega
theorem big_act (s:LwD) (a:BitVec 32):(s.act a).1.big<=s.big+2:=by
 unfold LwD.act
 split
 ·exact Nat.le_add_right _ _
 ·simp only [LwD.big,List.length_append,List.length_cons,List.length_nil]; omega
theorem Lw.cells (h:Lw H0 Z H lw m s X):∃ lv ov,H.get lw = .cells [lv,vi s.last,vi s.other,.map (some m),ov] none:=by
 obtain ⟨lv,ov,h⟩:=h
 exact ⟨lv,ov,h.box (k:=0) rfl⟩
theorem MapAt.look_nat {r:Nat} {l:List (BitVec 32×Nat)} (h:MapAt u32 natV H r l) (a:BitVec 32) (ok:Bool):AM.look 0 (.int .i64 0) ok (.map (some r)) (u32 a) H=some (if ok then .tuple #[vi ((alook a l).getD 0:Nat),.bool (alook a l).isSome] else vi ((alook a l).getD 0:Nat)):=by
 have:=h.look (kd:=0) same_u32 a (.int .i64 0) ok
 cases hk:alook a l with
 | none=>unfold alook at hk; rw [hk] at this; rw [this]; cases ok <;> rfl
 | some n=>unfold alook at hk; rw [hk] at this; rw [this]; cases ok <;> rfl
theorem Lw.look (h:Lw H0 Z H lw m s X) (a:BitVec 32) (ok:Bool):AM.look 0 (.int .i64 0) ok (.map (some m)) (u32 a) H=some (if ok then .tuple #[vi ((alook a s.acts).getD 0:Nat),.bool (alook a s.acts).isSome] else vi ((alook a s.acts).getD 0:Nat)):=by
 obtain ⟨lv,ov,h⟩:=h
 exact (h.mapAt (k:=2) (fk:=u32) (fv:=natV) (r:=m) (l:=s.acts) rfl).look_nat a ok
theorem S.f30 (hE:Fold E) (h:Lw H0 Z H lw m s X) (hb:s.big<2 ^ 29) (a:BitVec 32) (hQ:∀ H',Lw H0 Z H' lw m (s.act a).1 X->Q (vi ((s.act a).2:Nat)) H'):E.call (E.fid i.f30) [ptr lw 0,u32 a] H Q:=by
 apply hE.f30
 obtain ⟨lv,ov,hbx⟩:=h.cells
 have hl:=h.look a true
 cases hf:alook a s.acts with
 | some n =>
  have hact:s.act a=(s,n):=by unfold LwD.act; rw [hf]
  rw [hf] at hl
  rw [hact] at hQ
  have hl:AM.look 0 (.int .i64 0) true (.map (some m)) (u32 a) H=some (.tuple #[vi n,.bool true]):=hl
  simp only [F.f30,hbx,hl,stdZ]
  exact hQ _ h
 | none =>
  have hact:s.act a=({ s with last:=s.last+1,acts:=aset a (s.last+1) s.acts,order:=s.order++[a] },s.last+1):=by unfold LwD.act; rw [hf]
  rw [hf] at hl
  rw [hact] at hQ
  have hl:AM.look 0 (.int .i64 0) true (.map (some m)) (u32 a) H=some (.tuple #[vi (0:Nat),.bool false]):=hl
  simp only [F.f30,hbx,hl,stdZ]
  refine S.f20 hE h (by omega) fun H1 g =>?_
  obtain ⟨lv,ov,g⟩:=g
  have hb1:=g.box (k:=0) rfl
  obtain ⟨H2,m1,g2⟩:=g.mapset (n:=2) (r:=m) (l:=s.acts) (fk:=u32) (fv:=natV) rfl same_u32 a (s.last+1)
  have m1:setMap 0 (.map (some m)) (u32 a) (vi ((s.last+1:Nat):Int)) H1=some H2:=m1
  have g2:Has H0 Z H2 ([boxR lw [lv,vi ((s.last+1:Nat):Int),vi s.other,.map (some m),ov],growR 7 lv (partR s.parts),mapR u32 natV m (aset a (s.last+1) s.acts),growR 1 ov (a32R s.order)]++X):=g2
  have hb2:=g2.box (k:=0) rfl
  have hlen:(a32R s.order).length<2 ^ 29:=by unfold LwD.big at hb; simp only [a32R,List.length_map]; omega
  obtain ⟨v',H3,a1,a2,g3⟩:=g2.app1 (k:=3) (sz:=1) (v:=ov) (rows:=a32R s.order) (bytes:=4) rfl [u32 a] rfl rfl (by decide) (by decide) (by omega)
  have hbS:buildS 1 1 #[(.int .u32 0)] [(0,u32 a)]=some (.cells [u32 a] none,mkSlc 1 1):=buildS_one 1 [u32 0#32] [u32 a] rfl rfl
  have g3:Has H0 Z H3 ([boxR lw [lv,vi ((s.last+1:Nat):Int),vi s.other,.map (some m),ov],growR 7 lv (partR s.parts),mapR u32 natV m (aset a (s.last+1) s.acts),growR 1 v' (a32R s.order++[[u32 a]])]++X):=g3
  have hb3:=g3.box (k:=0) rfl
  have hst:store1 (ptr lw 4) v' H3=some (H3.put lw (.cells [lv,vi ((s.last+1:Nat):Int),vi s.other,.map (some m),v'] none)):=by
   rw [store1_ptr,if_pos a2,hb3]; rfl
  have g4:=g3.put (k:=0) rfl [lv,vi ((s.last+1:Nat):Int),vi s.other,.map (some m),v']
  simp only [hb1,m1,hb2,hbS,mkSlc_eq,AM.mk_some,a1,hst,stdZ]
  refine hQ _ ⟨lv,v',?_⟩
  have hr:a32R (s.order++[a])=a32R s.order++[[u32 a]]:=by simp [a32R]
  show Has H0 Z _ (boxR lw [lv,vi ((s.last+1:Nat):Int),vi s.other,.map (some m),v'] :: growR 7 lv (partR s.parts) :: mapR u32 natV m (aset a (s.last+1) s.acts) :: growR 1 v' (a32R (s.order++[a])) :: X)
  rw [hr]
  exact g4
theorem S.f36 (hE:Fold E) (h:Lw H0 Z H lw m s X) (hb:s.big<2 ^ 29) (c:CondD) (n:Nat) (hQ:∀ H',Lw H0 Z H' lw m (s.second c n) X->Q (.tuple #[]) H'):E.call (E.fid i.f36) [ptr lw 0,c.v,vi n] H Q:=by
 apply hE.f36
 have h1:=h.newbox c.cells
 simp only [F.f36,boxO_agg_z,AM.mk_some,mkPtr_eq_z,List.toList_toArray,stdZ]
 generalize H.new (.cells c.cells none)=H1 at *
 generalize H.next=t at *
 refine S.f18 hE h1 (by omega) n fun H2 h2 =>?_
 have hbx:=h2.box
 have c0:c.cells[0]? = some (vi c.arg):=rfl
 simp only [hbx,c0,stdZ]
 refine S.f41 hE c.arg false ?_
 refine S.f11 hE _ fun H3 e3 =>?_
 have hv:∀ k,insnV 32 0 0 k=(iLoad k).v:=fun _=>rfl
 rw [hv]
 refine S.f22 hE (h2.grow e3) (by rw [big_put]; omega) _ fun H4 h4 =>?_
 exact hQ _ h4.dropLast
theorem big_second (s:LwD) (c:CondD) (n:Nat):(s.second c n).big=s.big+2:=by unfold LwD.second; rw [big_put,big_put]
end
end Go.AM
end
section
namespace Go.AM
set_option maxRecDepth 20000
section
variable {E:Sy} {H H' H0 Z:AH} {Q:Value->AH->Prop} {X:List Res} {lw m:Nat} {s:LwD}
theorem Lw.cload {t:Nat} {c:CondD} (h:Lw H0 Z H lw m s (X++[boxR t c.cells])):loadN 4 (ptr t 0) H=some c.v:=by
 rw [loadN_ptr,h.box,row_all _ _ 4 rfl]; rfl
theorem S.f35 (hE:Fold E) (h:Lw H0 Z H lw m s X) (hb:s.big<2 ^ 28) (c:CondD) (how:BitVec 16) (yes no:Nat) (hQ:∀ H',Lw H0 Z H' lw m (s.order64 c how yes no) X->Q (.tuple #[]) H'):E.call (E.fid i.f35) [ptr lw 0,c.v,u16 how,vi yes,vi no] H Q:=by
 apply hE.f35
 have h1:=h.newbox c.cells
 have hb1:=AH.get_new_self H (.cells c.cells none)
 have c3:c.cells[3]? = some (u64 c.value):=rfl
 have k32:(.int .u16 32:Value)=u16 32#16:=rfl
 have k16:(.int .u16 16:Value)=u16 16#16:=rfl
 have ks:binInt .shr (u64 c.value) (.int .u64 32)=some (u64 (c.value >>> 32)):=u64_shr_lit _ _ 32
 have kh:convInt .u32 (u64 (c.value >>> 32))=some (u32 (hi32 c.value)):=u64_to_u32 _
 have kl:convInt .u32 (u64 c.value)=some (u32 (lo32 c.value)):=u64_to_u32 _
 simp only [F.f35,boxO_agg_z,AM.mk_some,mkPtr_eq_z,List.toList_toArray,hb1,c3,ks,kh,kl,k32,k16,stdZ]
 generalize H.new (.cells c.cells none)=H1 at *
 generalize H.next=t at *
 refine S.f20 hE h1 (by omega) fun H2 h2 =>?_
 refine S.f20 hE h2 (by rw [big_new]; omega) fun H3 h3 =>?_
 refine S.f19 hE h3 (by simp only [big_new]; omega) 32#16 _ _ _ fun H4 h4 =>?_
 refine S.f18 hE h4 (by simp only [big_new,big_put]; omega) _ fun H5 h5 =>?_
 refine S.f19 hE h5 (by simp only [big_new,big_put]; omega) 16#16 _ _ _ fun H6 h6 =>?_
 have b6:=h6.cload
 simp only [b6,stdZ]
 refine S.f36 hE h6 (by simp only [big_new,big_put]; omega) c _ fun H7 h7 =>?_
 refine S.f19 hE h7 (by simp only [big_new,big_put,big_second]; omega) how _ _ _ fun H8 h8 =>?_
 exact hQ _ h8.dropLast
theorem big_order64 (s:LwD) (c:CondD) (how:BitVec 16) (yes no:Nat):(s.order64 c how yes no).big=s.big+8:=by
 unfold LwD.order64
 simp only [big_new,big_put,big_second]
theorem big_condOn (s:LwD) (c:CondD) (next yes no:Nat):(s.condOn c next yes no).big<=s.big+8:=by
 unfold LwD.condOn
 repeat' split
 all_goals simp only [big_new,big_put,big_second,big_order64] <;> omega
theorem big_cond (s:LwD) (c:CondD) (yes no:Nat):(s.cond c yes no).big<=s.big+10:=by
 unfold LwD.cond
 have:=big_condOn (s.new.put (pPlain (iLoad (halfOf c.arg true)))) c (s.last+1) yes no
 simp only [big_new,big_put] at this
 omega
theorem S.f33 (hE:Fold E) (h:Lw H0 Z H lw m s X) (hb:s.big<2 ^ 27) (c:CondD) (yes no:Nat) (hQ:∀ H',Lw H0 Z H' lw m (s.cond c yes no) X->Q (.tuple #[]) H'):E.call (E.fid i.f33) [ptr lw 0,c.v,vi yes,vi no] H Q:=by
 apply hE.f33
 have h1:=h.newbox c.cells
 have hb1:=AH.get_new_self H (.cells c.cells none)
 have c0:c.cells[0]? = some (vi c.arg):=rfl
 have c1:c.cells[1]? = some (u8 c.op):=rfl
 have c2:c.cells[2]? = some (u64 c.mask):=rfl
 have c3:c.cells[3]? = some (u64 c.value):=rfl
 have k16:(.int .u16 16:Value)=u16 16#16:=rfl
 have k32:(.int .u16 32:Value)=u16 32#16:=rfl
 have k48:(.int .u16 48:Value)=u16 48#16:=rfl
 have q1:(.int .u8 1:Value)=u8 1#8:=rfl
 have q2:(.int .u8 2:Value)=u8 2#8:=rfl
 have q3:(.int .u8 3:Value)=u8 3#8:=rfl
 have q4:(.int .u8 4:Value)=u8 4#8:=rfl
 have q5:(.int .u8 5:Value)=u8 5#8:=rfl
 have q6:(.int .u8 6:Value)=u8 6#8:=rfl
 have q7:(.int .u8 7:Value)=u8 7#8:=rfl
 have ks:∀ x:BitVec 64,binInt .shr (u64 x) (.int .u64 32)=some (u64 (x >>> 32)):=fun x=>u64_shr_lit _ _ 32
 have kh:∀ x:BitVec 64,convInt .u32 (u64 (x >>> 32))=some (u32 (hi32 x)):=fun x=>u64_to_u32 _
 have kl:∀ x:BitVec 64,convInt .u32 (u64 x)=some (u32 (lo32 x)):=fun x=>u64_to_u32 _
 simp only [F.f33,boxO_agg_z,AM.mk_some,mkPtr_eq_z,List.toList_toArray,hb1,c3,ks,kh,kl,stdZ]
 generalize H.new (.cells c.cells none)=H1 at *
 generalize H.next=t at *
 refine S.f20 hE h1 (by omega) fun H2 h2 =>?_
 have b2:=h2.box
 simp only [b2,c0,stdZ]
 refine S.f41 hE c.arg true ?_
 refine S.f11 hE _ fun H3 e3 =>?_
 have hv:∀ k,insnV 32 0 0 k=(iLoad k).v:=fun _=>rfl
 rw [hv]
 refine S.f22 hE (h2.grow e3) (by rw [big_new]; omega) _ fun H5 h5 =>?_
 have b5:=h5.box
 have l5:=h5.cload
 have hbg:(s.new.put (pPlain (iLoad (halfOf c.arg true)))).big=s.big+2:=by simp only [big_new,big_put]
 have h5:Lw H0 Z H5 lw m (s.new.put (pPlain (iLoad (halfOf c.arg true)))) (X++[boxR t c.cells]):=h5
 unfold LwD.cond at hQ
 generalize s.new.put (pPlain (iLoad (halfOf c.arg true)))=s5 at *
 simp only [b5,c1,q1,u8_eql,stdZ]
 by_cases o1:c.op=1#8
 ·have hc:∀ n,s5.condOn c n yes no=((s5.put (pIf 16#16 (hi32 c.value) n no)).second c n).put (pIf 16#16 (lo32 c.value) yes no):=fun n=>by unfold LwD.condOn; rw [if_pos o1]
  have hd:decide (c.op=1#8)=true:=by simpa using o1
  rw [hc] at hQ
  simp only [hd,k16,stdZ]
  refine S.f19 hE h5 (by omega) 16#16 _ _ _ fun H6 h6 =>?_
  have b6:=h6.cload
  simp only [b6,stdZ]
  refine S.f36 hE h6 (by simp only [big_put]; omega) c _ fun H7 h7 =>?_
  refine S.f19 hE h7 (by simp only [big_put,big_second]; omega) 16#16 _ _ _ fun H8 h8 =>?_
  exact hQ _ h8.dropLast
 have hd1:decide (c.op=1#8)=false:=by simpa using o1
 simp only [hd1,q2,u8_eql,stdZ]
 by_cases o2:c.op=2#8
 ·have hc:∀ n,s5.condOn c n yes no=((s5.put (pIf 16#16 (hi32 c.value) n yes)).second c n).put (pIf 16#16 (lo32 c.value) no yes):=fun n=>by unfold LwD.condOn; rw [if_neg o1,if_pos o2]
  have hd:decide (c.op=2#8)=true:=by simpa using o2
  rw [hc] at hQ
  simp only [hd,k16,stdZ]
  refine S.f19 hE h5 (by omega) 16#16 _ _ _ fun H6 h6 =>?_
  have b6:=h6.cload
  simp only [b6,stdZ]
  refine S.f36 hE h6 (by simp only [big_put]; omega) c _ fun H7 h7 =>?_
  refine S.f19 hE h7 (by simp only [big_put,big_second]; omega) 16#16 _ _ _ fun H8 h8 =>?_
  exact hQ _ h8.dropLast
 have hd2:decide (c.op=2#8)=false:=by simpa using o2
 simp only [hd2,q5,u8_eql,stdZ]
 by_cases o5:c.op=5#8
 ·have hc:∀ n,s5.condOn c n yes no=s5.order64 c 32#16 yes no:=fun n=>by unfold LwD.condOn; rw [if_neg o1,if_neg o2,if_pos o5]
  have hd:decide (c.op=5#8)=true:=by simpa using o5
  rw [hc] at hQ
  simp only [hd,l5,k32,stdZ]
  exact S.f35 hE h5 (by omega) c 32#16 _ _ fun H6 h6=>hQ _ h6.dropLast
 have hd5:decide (c.op=5#8)=false:=by simpa using o5
 simp only [hd5,q6,u8_eql,stdZ]
 by_cases o6:c.op=6#8
 ·have hc:∀ n,s5.condOn c n yes no=s5.order64 c 48#16 yes no:=fun n=>by unfold LwD.condOn; rw [if_neg o1,if_neg o2,if_neg o5,if_pos o6]
  have hd:decide (c.op=6#8)=true:=by simpa using o6
  rw [hc] at hQ
  simp only [hd,l5,k48,stdZ]
  exact S.f35 hE h5 (by omega) c 48#16 _ _ fun H6 h6=>hQ _ h6.dropLast
 have hd6:decide (c.op=6#8)=false:=by simpa using o6
 simp only [hd6,q3,u8_eql,stdZ]
 by_cases o3:c.op=3#8
 ·have hc:∀ n,s5.condOn c n yes no=s5.order64 c 48#16 no yes:=fun n=>by unfold LwD.condOn; rw [if_neg o1,if_neg o2,if_neg o5,if_neg o6,if_pos o3]
  have hd:decide (c.op=3#8)=true:=by simpa using o3
  rw [hc] at hQ
  simp only [hd,l5,k48,stdZ]
  exact S.f35 hE h5 (by omega) c 48#16 _ _ fun H6 h6=>hQ _ h6.dropLast
 have hd3:decide (c.op=3#8)=false:=by simpa using o3
 simp only [hd3,q4,u8_eql,stdZ]
 by_cases o4:c.op=4#8
 ·have hc:∀ n,s5.condOn c n yes no=s5.order64 c 32#16 no yes:=fun n=>by unfold LwD.condOn; rw [if_neg o1,if_neg o2,if_neg o5,if_neg o6,if_neg o3,if_pos o4]
  have hd:decide (c.op=4#8)=true:=by simpa using o4
  rw [hc] at hQ
  simp only [hd,l5,k32,stdZ]
  exact S.f35 hE h5 (by omega) c 32#16 _ _ fun H6 h6=>hQ _ h6.dropLast
 have hd4:decide (c.op=4#8)=false:=by simpa using o4
 simp only [hd4,q7,u8_eql,stdZ]
 by_cases o7:c.op=7#8
 ·have hc:∀ n,s5.condOn c n yes no=((((s5.put (pPlain (iMask (hi32 c.mask)))).put (pIf 16#16 (hi32 c.value) n no)).second c n).put (pPlain (iMask (lo32 c.mask)))).put (pIf 16#16 (lo32 c.value) yes no):=fun n=>by unfold LwD.condOn; rw [if_neg o1,if_neg o2,if_neg o5,if_neg o6,if_neg o3,if_neg o4,if_pos o7]
  have hd:decide (c.op=7#8)=true:=by simpa using o7
  have hm:∀ k,insnV 84 0 0 k=(iMask k).v:=fun _=>rfl
  rw [hc] at hQ
  simp only [hd,b5,c2,ks,kh,stdZ]
  refine S.f12 hE _ fun H6 e6 =>?_
  rw [hm]
  refine S.f22 hE (h5.grow e6) (by omega) _ fun H7 h7 =>?_
  simp only [k16,stdZ]
  refine S.f19 hE h7 (by simp only [big_put]; omega) 16#16 _ _ _ fun H8 h8 =>?_
  have b8:=h8.cload
  simp only [b8,stdZ]
  refine S.f36 hE h8 (by simp only [big_put]; omega) c _ fun H9 h9 =>?_
  have b9:=h9.box
  simp only [b9,c2,kl,stdZ]
  refine S.f12 hE _ fun H10 e10 =>?_
  rw [hm]
  refine S.f22 hE (h9.grow e10) (by simp only [big_put,big_second]; omega) _ fun H11 h11 =>?_
  simp only [k16,stdZ]
  refine S.f19 hE h11 (by simp only [big_put,big_second]; omega) 16#16 _ _ _ fun H12 h12 =>?_
  exact hQ _ h12.dropLast
 have hd7:decide (c.op=7#8)=false:=by simpa using o7
 have hc:∀ n,s5.condOn c n yes no=s5.put (pGoto no):=fun n=>by unfold LwD.condOn; rw [if_neg o1,if_neg o2,if_neg o5,if_neg o6,if_neg o3,if_neg o4,if_neg o7]
 rw [hc] at hQ
 simp only [hd7,stdZ]
 exact S.f17 hE h5 (by omega) no fun H6 h6=>hQ _ h6.dropLast
end
end Go.AM
end
section
namespace Go.AM
set_option maxRecDepth 20000
def wC (b:BranchD):Nat:=12*b.conds.length+5
def wB (l:List BranchD):Nat:=(l.map wC).sum+1
section
variable {E:Sy} {H H' H0 Z:AH} {Q:Value->AH->Prop} {X:List Res} {lw m:Nat} {s:LwD}
theorem Ext.row (e:Ext H H') {b o n:Nat} {c:List Value} (hr:(H.get b).row o n=some c):(H'.get b).row o n=some c:=by
 have:H'.get b=H.get b:=e.obj (o:=H.get b) (fun hd=>by rw [hd] at hr; cases hr) rfl
 rw [this]; exact hr
theorem conds_take (no:Nat) (l:List CondD) (s:LwD) {j:Nat} (hj:j<l.length):LwD.conds no (l.take (j+1)) s=LwD.condStep no (LwD.conds no (l.take j) s) l[j]:=by
 unfold LwD.conds
 rw [List.take_succ,List.getElem?_eq_getElem hj,List.foldl_append]; rfl
theorem big_conds (no:Nat):∀ (l:List CondD) (s:LwD),(LwD.conds no l s).big<=s.big+12*l.length
 | [],s=>by simp [LwD.conds]
 | c :: l,s=>by
  have h1:=big_conds no l (LwD.condStep no s c)
  have h2:(LwD.condStep no s c).big<=s.big+12:=by
   unfold LwD.condStep
   have:=big_cond s.new c (s.last+1) no
   simp only [big_put,big_new] at *
   omega
  show (LwD.conds no l (LwD.condStep no s c)).big<=_
  simp only [List.length_cons]
  omega
theorem big_branch (s:LwD) (b:BranchD):(s.branch b).big<=s.big+wC b:=by
 unfold LwD.branch wC
 have h1:=big_conds (s.last+1) b.conds s.new
 have h2:=big_act (LwD.conds (s.last+1) b.conds s.new) b.action
 simp only [big_put,big_new] at *
 omega
theorem big_foldb:∀ (l:List BranchD) (s:LwD),(l.foldl LwD.branch s).big<=s.big+(l.map wC).sum
 | [],s=>by simp
 | b :: l,s=>by
  have h1:=big_foldb l (s.branch b)
  have h2:=big_branch s b
  simp only [List.foldl_cons,List.map_cons,List.sum_cons]
  omega
theorem big_branches (l:List BranchD) (s:LwD):(LwD.branches l s).big<=s.big+wB l:=by
 unfold LwD.branches wB
 have:=big_foldb l s
 simp only [big_put]
 omega
theorem branches_l2 (hE:Fold E) {b:BranchD} {cv:Value} (hv:Rows H0 4 cv (condR b.conds)) {tb:Nat} (h:Lw H0 Z H lw m s (X++[boxR tb [cv,u32 b.action]])) (hb:s.big+12*b.conds.length<2 ^ 25) (no:Nat) (hl:b.conds.length<2 ^ 30) {t10:Value} {ln j:Nat} (hj:j<2 ^ 30) {X0:List Value->AH->Prop}
  (next:∀ H',Lw H0 Z H' lw m ((((LwD.conds no b.conds s).act b.action).1.put (pGoto ((LwD.conds no b.conds s).act b.action).2)).put (pHere no)) X->X0 [ptr lw 0,t10,vi ln,vi ((j+1:Nat):Int)] H') :
  LoopL (fun l H X1=>F.f31_l2 E Q X0 (nth l 0) (nth l 1) (nth l 2) (nth l 3) (nth l 4) (nth l 5) (nth l 6) (nth l 7) (nth l 8) H X1) [ptr lw 0,ptr tb 0,vi no,t10,vi ln,vi j,cv,vi b.conds.length,(.int .i64 0)] H:=by
 have i0:(.int .i64 0:Value)=vi ((0:Nat):Int):=rfl
 rw [i0]
 refine LoopL.count b.conds.length (fun k ls H'=>ls=[ptr lw 0,ptr tb 0,vi no,t10,vi ln,vi j,cv,vi b.conds.length,vi k]/\Lw H0 Z H' lw m (LwD.conds no (b.conds.take k) s) (X++[boxR tb [cv,u32 b.action]])) ?_ ⟨rfl,by simpa [LwD.conds] using h⟩
 rintro k _ H1 X1 hk ih ⟨rfl,g⟩
 rcases Nat.lt_or_ge k b.conds.length with hlt | hge
 ·have hc:=hv.mono g.ext
  obtain ⟨bb,o,f1,f2⟩:=hc.ix (i:=k) (by simpa [condR] using hlt)
  have hrow:(condR b.conds)[k]'(by simpa [condR] using hlt)=b.conds[k].cells:=by simp [condR]
  rw [hrow] at f2
  have lo:loadN 4 (ptr bb o) H1=some b.conds[k].v:=by rw [loadN_ptr,f2]; rfl
  have hlt':(k:Int)<b.conds.length:=by omega
  have hbg:=big_conds no (b.conds.take k) s
  have hln:(b.conds.take k).length=k:=by rw [List.length_take]; omega
  rw [hln] at hbg
  have hnext:=conds_take no b.conds s hlt
  have hinc:=i64_inc (i:=k) (by omega)
  generalize b.conds[k]=c at *
  generalize LwD.conds no (b.conds.take k) s=s1 at *
  have g1:=g.newbox c.cells
  have hst:=cond_new c H1
  simp only [F.f31_l2,i64_lss,hlt',decide_true,f1,lo,allocW_eq,hst,stdZ]
  generalize H1.new (.cells c.cells none)=H2 at *
  generalize H1.next=t at *
  refine S.f20 hE g1 (by omega) fun H3 g2 =>?_
  have l2:=g2.cload
  simp only [l2,stdZ]
  refine S.f33 hE g2 (by simp only [big_new]; omega) c _ _ fun H4 g3 =>?_
  have hb4:=big_cond s1.new c (s1.last+1) no
  simp only [big_new] at hb4
  simp only [stdZ]
  refine S.f18 hE g3 (by omega) _ fun H5 g4 =>?_
  simp only [hinc,stdZ]
  refine ih hlt _ _ ⟨rfl,?_⟩
  rw [hnext]
  exact g4.dropLast
 ·have hke:k=b.conds.length:=by omega
  subst hke
  rw [List.take_length] at g
  have hlt':¬ ((b.conds.length:Int)<b.conds.length):=by omega
  have hbg:=big_conds no b.conds s
  have hbx:=g.box
  have hinc:=i64_inc (i:=j) (by omega)
  generalize LwD.conds no b.conds s=s1 at *
  simp only [F.f31_l2,i64_lss,hlt',decide_false,hbx,stdZ]
  refine S.f30 hE g (by omega) _ fun H2 g2 =>?_
  have hb2:=big_act s1 b.action
  refine S.f17 hE g2 (by omega) _ fun H3 g3 =>?_
  simp only [stdZ]
  refine S.f18 hE g3 (by simp only [big_put]; omega) _ fun H4 g4 =>?_
  simp only [hinc,stdZ]
  exact next _ g4.dropLast
theorem S.f31 (hE:Fold E) {l:List BranchD} {v:Value} (hv:SliceOf (BranchAt 0) H0 2 v l) (h:Lw H0 Z H lw m s X) (hb:s.big+wB l<2 ^ 25) (hl:l.length<2 ^ 30) (hQ:∀ H',Lw H0 Z H' lw m (LwD.branches l s) X->Q (.tuple #[]) H'):E.call (E.fid i.f31) [ptr lw 0,v] H Q:=by
 apply hE.f31
 have i0:(.int .i64 0:Value)=vi ((0:Nat):Int):=rfl
 have hlv:=hv.lenSlc
 simp only [F.f31,hlv,i0,stdZ]
 refine LoopL.count l.length (fun k ls H'=>ls=[ptr lw 0,v,vi l.length,vi k]/\Lw H0 Z H' lw m ((l.take k).foldl LwD.branch s) X) ?_ ⟨rfl,by simpa using h⟩
 rintro k _ H1 X1 hk ih ⟨rfl,g⟩
 have hbg:=big_foldb (l.take k) s
 rcases Nat.lt_or_ge k l.length with hlt | hge
 ·obtain ⟨bb,o,cs,f1,f2,f3⟩:=hv.ix hlt
  have f2:=g.ext.row f2
  obtain ⟨f0,cv,rfl,f5,_⟩:=f3
  have hcv:plain1 cv=true:=f5.plain
  have lo:loadN 2 (ptr bb o) H1=some (.agg [cv,u32 l[k].action].toArray):=by rw [loadN_ptr,f2]; rfl
  have hlt':(k:Int)<l.length:=by omega
  have hsum:((l.take k).map wC).sum+wC l[k]<=(l.map wC).sum:=by
   have h1:l=l.take k++l[k] :: l.drop (k+1):=by rw [List.getElem_cons_drop,List.take_append_drop]
   conv=>rhs; rw [h1]
   simp only [List.map_append,List.map_cons,List.sum_append,List.sum_cons]
   omega
  have hstep:(l.take (k+1)).foldl LwD.branch s=((l.take k).foldl LwD.branch s).branch l[k]:=by
   rw [List.take_succ,List.getElem?_eq_getElem hlt,List.foldl_append]; rfl
  have hbr:=big_branch ((l.take k).foldl LwD.branch s) l[k]
  unfold wB at hb
  generalize l[k]=b at *
  generalize (l.take k).foldl LwD.branch s=s1 at *
  have hst:storeN 2 (ptr H1.next 0) (.agg [cv,u32 b.action].toArray) (H1.new (.cells [(.slice none 0 0),(.int .u32 0)] none))=some (H1.new (.cells [cv,u32 b.action] none)):=two_store rfl rfl (by simp [hcv])
  have g1:=g.newbox [cv,u32 b.action]
  simp only [F.f31_l1,i64_lss,hlt',decide_true,f1,lo,allocW_eq,hst,stdZ]
  generalize H1.new (.cells [cv,u32 b.action] none)=H2 at *
  generalize H1.next=t at *
  have hwc:wC b=12*b.conds.length+5:=rfl
  rw [hwc] at hsum hbr
  refine S.f20 hE g1 (by omega) fun H3 g2 =>?_
  have b3:=g2.box
  have hcl:=f5.lenSlc
  have hcl2:(condR b.conds).length=b.conds.length:=by simp [condR]
  rw [hcl2] at hcl
  simp only [b3,hcl,stdZ]
  refine branches_l2 hE f5 g2 (by simp only [big_new]; omega) _ f0 (by omega) fun H4 g3 =>?_
  refine ih hlt _ _ ⟨rfl,?_⟩
  rw [hstep]
  exact g3
 ·have hke:k=l.length:=by omega
  subst hke
  rw [List.take_length] at g hbg
  have hlt':¬ ((l.length:Int)<l.length):=by omega
  obtain ⟨lv,ov,hbx⟩:=g.cells
  unfold wB at hb
  unfold LwD.branches at hQ
  simp only [F.f31_l1,i64_lss,hlt',decide_false,hbx,stdZ]
  exact S.f17 hE g (by omega) _ hQ
end
end Go.AM
end
section
namespace Go.AM
set_option maxRecDepth 20000
section
variable {E:Sy} {H H' H0 Z:AH} {Q:Value->AH->Prop} {X:List Res} {lw m:Nat} {s:LwD}
theorem SliceOf.cut {α:Type} {R:AH->α->List Value->Prop} {sz:Nat} {v:Value} {l:List α} (h:SliceOf R H sz v l) {lo hi:Option Value} {i j:Nat} (hlo:lo=some (vi i)\/lo=none/\i=0) (hhi:hi=some (vi j)\/hi=none/\j=l.length) (hij:i<=j) (hj:j<=l.length) :
  SliceOf R H sz (sliceV sz v i j) ((l.take j).drop i):=by
 obtain ⟨rows,h1,h2,h3⟩:=h
 obtain ⟨a,b⟩:=h1.slice' (lo:=some (vi i)) (hi:=some (vi j)) (.inl rfl) (.inl rfl) hij (by omega)
 refine ⟨_,b,by simp [h2],fun k k1 k2 =>?_⟩
 simp only [List.getElem_drop,List.getElem_take]
 exact h3 _ _ _
theorem SliceOf.sl {α:Type} {R:AH->α->List Value->Prop} {sz:Nat} {v:Value} {l:List α} (h:SliceOf R H0 sz v l) (hm:∀ (H H':AH) (a:α) (c:List Value),R H a c->Sub H H'->R H' a c) (e:Ext H0 H) {lo hi:Option Value} {i j:Nat} (hlo:lo=some (vi i)\/lo=none/\i=0) (hhi:hi=some (vi j)\/hi=none/\j=l.length) (hij:i<=j) (hj:j<=l.length) :
  slSlc sz v lo hi none H=some (sliceV sz v i j):=by
 obtain ⟨rows,h1,h2,h3⟩:=h.sub hm e.sub
 exact (h1.slice' hlo (by rw [h2]; exact hhi) hij (by omega)).1
theorem CaseAt.sub':∀ (H H':AH) (a:CaseD) (c:List Value),CaseAt 0 H a c->Sub H H'->CaseAt 0 H' a c:=fun _ _ _ _ h e=>h.sub e
theorem numAt_eq {l:List CaseD} {k:Nat} (hk:k<l.length):numAt l k=l[k].number:=by simp [numAt,hk]
theorem big_choose (st:List (BitVec 32×Nat)):∀ (f:Nat) (l:List CaseD) (s:LwD),l.length<f->(LwD.choose st f l s).big+(if l.length=0 then 0 else 6)<=s.big+7*l.length+1
 | 0,l,s,h=>by omega
 | f+1,l,s,h=>by
  unfold LwD.choose
  split
  ·rename_i h0
   rw [big_put]; omega
  ·rename_i h0
   split
   ·rw [big_put]; omega
   ·have h1:=big_choose st f (l.take (l.length / 2)) ((s.new.new.put (pIf 48#16 (numAt l (l.length / 2)) (s.last+2) (s.last+1))).put (pHere (s.last+1))) (by rw [List.length_take]; omega)
    have h2:=big_choose st f (l.drop (l.length / 2)) ((LwD.choose st f (l.take (l.length / 2)) ((s.new.new.put (pIf 48#16 (numAt l (l.length / 2)) (s.last+2) (s.last+1))).put (pHere (s.last+1)))).put (pHere (s.last+2))) (by rw [List.length_drop]; omega)
    rw [if_neg (by rw [List.length_take]; omega),List.length_take] at h1
    rw [if_neg (by rw [List.length_drop]; omega),List.length_drop] at h2
    simp only [big_put,big_new] at *
    omega
theorem S.f32 (hE:Fold E) {st:List (BitVec 32×Nat)} {sm:Nat}:∀ (f:Nat) {l:List CaseD} {v:Value} {s:LwD} {H:AH} {Q:Value->AH->Prop},l.length<f->SliceOf (CaseAt 0) H0 2 v l->Lw H0 Z H lw m s (mapR u32 natV sm st :: X)->s.big+7*l.length+1<2 ^ 25 ->
  (∀ H',Lw H0 Z H' lw m (LwD.choose st f l s) (mapR u32 natV sm st :: X)->Q (.tuple #[]) H')->E.call (E.fid i.f32) [ptr lw 0,v,.map (some sm)] H Q
 | 0,_,_,_,_,_,hf,_,_,_,_=>by omega
 | f+1,l,v,s,H,Q,hf,hv,h,hb,hQ=>by
  apply hE.f32
  have hlv:=hv.lenSlc
  have i0:(.int .i64 0:Value)=vi ((0:Nat):Int):=rfl
  have i1:(.int .i64 1:Value)=vi ((1:Nat):Int):=rfl
  obtain ⟨lv,ov,hbx⟩:=h.cells
  have k16:(.int .u16 16:Value)=u16 16#16:=rfl
  have k48:(.int .u16 48:Value)=u16 48#16:=rfl
  unfold LwD.choose at hQ
  simp only [F.f32,hlv,i0,i64_eql,stdZ]
  by_cases h0:l.length=0
  ·have hd:decide ((l.length:Int)=((0:Nat):Int))=true:=decide_eq_true (by omega)
   rw [if_pos h0] at hQ
   simp only [hd,hbx,stdZ]
   exact S.f17 hE h (by omega) _ hQ
  have hd0:decide ((l.length:Int)=((0:Nat):Int))=false:=decide_eq_false (by omega)
  rw [if_neg h0] at hQ
  simp only [hd0,i1,i64_eql,stdZ]
  by_cases h1:l.length=1
  ·have hd:decide ((l.length:Int)=((1:Nat):Int))=true:=decide_eq_true (by omega)
   rw [if_pos h1,numAt_eq (by omega)] at hQ
   obtain ⟨bb,o,cs,f1,f2,f3⟩:=hv.ix (i:=0) (by omega)
   have f2:=h.ext.row f2
   have f1:ixSlc 2 v (.int .i64 0)=some (ptr bb o):=f1
   obtain ⟨bv,rfl,_⟩:=f3
   have hce:((H.get bb).cell o)=some (u32 l[0].number):=by have:=row_at f2 (j:=0) (by omega); simpa using this
   have hlk:AM.look 0 (.int .i64 0) false (.map (some sm)) (u32 l[0].number) H=some (vi (getN l[0].number st:Nat)):=by
    obtain ⟨lv,ov,h⟩:=h
    exact (h.mapAt (k:=4) (fk:=u32) (fv:=natV) (r:=sm) (l:=st) rfl).look_nat l[0].number false
   simp only [hd,f1,hce,hlk,hbx,k16,stdZ]
   exact S.f19 hE h (by omega) 16#16 _ _ _ hQ
  have hd1:decide ((l.length:Int)=((1:Nat):Int))=false:=decide_eq_false (by omega)
  rw [if_neg h1] at hQ
  have hq:=i64_quo_num l.length 2 (by decide) (by omega)
  have hhl:l.length / 2<l.length:=by omega
  have hcl:(l.take (l.length / 2)).length=l.length / 2:=by rw [List.length_take]; omega
  have hcr:(l.drop (l.length / 2)).length=l.length - l.length / 2:=by rw [List.length_drop]
  rw [numAt_eq hhl] at hQ
  obtain ⟨bb,o,cs,f1,f2,f3⟩:=hv.ix (i:=l.length / 2) hhl
  obtain ⟨bv,rfl,_⟩:=f3
  have hlow:=hv.cut (lo:=none) (hi:=some (vi (l.length / 2:Nat))) (i:=0) (j:=l.length / 2) (.inr ⟨rfl,rfl⟩) (.inl rfl) (Nat.zero_le _) (by omega)
  have hhigh:=hv.cut (lo:=some (vi (l.length / 2:Nat))) (hi:=none) (i:=l.length / 2) (j:=l.length) (.inl rfl) (.inr ⟨rfl,rfl⟩) (by omega) (Nat.le_refl _)
  have slow:∀ {H1:AH},Ext H0 H1->slSlc 2 v none (some (vi (l.length / 2:Nat))) none H1=some (sliceV 2 v 0 (l.length / 2)):=fun e=>hv.sl CaseAt.sub' e (.inr ⟨rfl,rfl⟩) (.inl rfl) (Nat.zero_le _) (by omega)
  have shigh:∀ {H1:AH},Ext H0 H1->slSlc 2 v (some (vi (l.length / 2:Nat))) none none H1=some (sliceV 2 v (l.length / 2) l.length):=fun e=>hv.sl CaseAt.sub' e (.inl rfl) (.inr ⟨rfl,rfl⟩) (by omega) (Nat.le_refl _)
  rw [List.drop_zero] at hlow
  rw [List.take_length] at hhigh
  have hbg:=big_choose st f (l.take (l.length / 2)) ((s.new.new.put (pIf 48#16 l[l.length / 2].number (s.last+2) (s.last+1))).put (pHere (s.last+1))) (by omega)
  generalize hhf:l.length / 2=half at *
  simp only [hd1,hlv,hq,stdZ]
  refine S.f20 hE h (by omega) fun H3 g3 =>?_
  refine S.f20 hE g3 (by rw [big_new]; omega) fun H4 g4 =>?_
  have f2:=g4.ext.row f2
  have hce:((H4.get bb).cell o)=some (u32 l[half].number):=by have:=row_at f2 (j:=0) (by omega); simpa using this
  simp only [f1,hce,k48,stdZ]
  refine S.f19 hE g4 (by simp only [big_new]; omega) 48#16 _ _ _ fun H5 g5 =>?_
  refine S.f18 hE g5 (by simp only [big_new,big_put]; omega) _ fun H6 g6 =>?_
  have sl6:=slow g6.ext
  simp only [sl6,stdZ]
  refine S.f32 hE f (by omega) hlow g6 (by simp only [big_new,big_put]; omega) fun H7 g7 =>?_
  simp only [stdZ]
  have hlow0:(l.take half).length≠0:=by omega
  rw [if_neg hlow0] at hbg
  simp only [big_new,big_put] at hbg
  refine S.f18 hE g7 (by show _<_; exact Nat.lt_of_le_of_lt (Nat.le_trans (Nat.le_add_right _ 6) hbg) (by omega)) _ fun H8 g8 =>?_
  have sl8:=shigh g8.ext
  simp only [sl8,stdZ]
  refine S.f32 hE f (by omega) hhigh g8 (by rw [big_put]; exact Nat.lt_of_le_of_lt (Nat.add_le_add_right (Nat.add_le_add_right (Nat.add_le_add_right (Nat.le_sub_of_add_le hbg) 1) _) 1) (by omega)) hQ
end
end Go.AM
end
section
namespace Go.AM
set_option maxRecDepth 20000
section
variable {E:Sy} {H H' H0 Z:AH} {Q:Value->AH->Prop} {X:List Res} {lw m:Nat} {s:LwD}
theorem big_ends:∀ (l:List (BitVec 32)) (A:List (BitVec 32×Nat)) (s:LwD),(l.foldl (LwD.end1 A) s).big=s.big+2*l.length
 | [],_,s=>by simp
 | a :: l,A,s=>by
  rw [List.foldl_cons,big_ends l A _]
  simp only [LwD.end1,big_put,List.length_cons]; omega
theorem S.f34 (hE:Fold E) (h:Lw H0 Z H lw m s X) (hb:s.big<2 ^ 26) (hQ:∀ H',Lw H0 Z H' lw m s.ends X->Q (.tuple #[]) H'):E.call (E.fid i.f34) [ptr lw 0] H Q:=by
 apply hE.f34
 obtain ⟨lv,ov,h⟩:=h
 have hbx:=h.box (k:=0) rfl
 have hrw:=h.rows (k:=3) (sz:=1) (v:=ov) (rows:=a32R s.order) rfl
 have hlen:(a32R s.order).length=s.order.length:=by simp [a32R]
 have hlv:=hrw.lenSlc
 rw [hlen] at hlv
 have i0:(.int .i64 0:Value)=vi ((0:Nat):Int):=rfl
 simp only [F.f34,hbx,hlv,i0,stdZ]
 refine LoopL.count s.order.length (fun k ls H'=>ls=[ptr lw 0,ov,vi s.order.length,vi k]/\∃ s1,s1=(s.order.take k).foldl (LwD.end1 s.acts) s/\s1.acts=s.acts/\s1.order=s.order/\LwO H0 Z H' lw m ov s1 X) ?_ ⟨rfl,s,by simp,rfl,rfl,lv,h⟩
 rintro k _ H1 X1 hk ih ⟨rfl,s1,hs1,ha,ho,lv1,g⟩
 have hob:s.order.length<=s.big:=by unfold LwD.big; omega
 rcases Nat.lt_or_ge k s.order.length with hlt | hge
 ·have hlt':(k:Int)<s.order.length:=by omega
  have hbg:=big_ends (s.order.take k) s.acts s
  rw [<- hs1,List.length_take] at hbg
  have hrw:=g.rows (k:=3) (sz:=1) (v:=ov) (rows:=a32R s1.order) rfl
  rw [ho] at hrw
  obtain ⟨bb,o,f1,f2⟩:=hrw.ix (i:=k) (by omega)
  have hrow:(a32R s.order)[k]'(by omega)=[u32 s.order[k]]:=by simp [a32R]
  rw [hrow] at f2
  have hce:((H1.get bb).cell o)=some (u32 s.order[k]):=by have:=row_at f2 (j:=0) (by omega); simpa using this
  have hb1:=g.box (k:=0) rfl
  have hlk:AM.look 0 (.int .i64 0) false (.map (some m)) (u32 s.order[k]) H1=some (vi (getN s.order[k] s.acts:Nat)):=by
   have:=(g.mapAt (k:=2) (fk:=u32) (fv:=natV) (r:=m) (l:=s1.acts) rfl).look_nat s.order[k] false
   rw [ha] at this
   exact this
  have hstep:(s.order.take (k+1)).foldl (LwD.end1 s.acts) s=LwD.end1 s.acts s1 s.order[k]:=by
   rw [List.take_succ,List.getElem?_eq_getElem hlt,List.foldl_append,<- hs1]; rfl
  have hinc:=i64_inc (i:=k) (by omega)
  generalize s.order[k]=a at *
  simp only [F.f34_l1,i64_lss,hlt',decide_true,f1,hce,hb1,hlk,stdZ]
  refine here_o hE ⟨lv1,g⟩ (by omega) _ fun H2 g2 =>?_
  simp only [stdZ]
  refine S.f13 hE a fun H3 e3 =>?_
  have hv:insnV 6 0 0 a=(iRet a).v:=rfl
  rw [hv]
  refine plain_o hE (g2.grow e3) (by rw [big_put]; omega) _ fun H4 g4 =>?_
  simp only [hinc,stdZ]
  exact ih hlt _ _ ⟨rfl,_,hstep.symm,ha,ho,g4⟩
 ·have hke:k=s.order.length:=by omega
  subst hke
  rw [List.take_length] at hs1
  have hlt':¬ ((s.order.length:Int)<s.order.length):=by omega
  simp only [F.f34_l1,i64_lss,hlt',decide_false,stdZ]
  refine hQ _ ⟨lv1,ov,?_⟩
  unfold LwD.ends
  rw [<- hs1]
  exact g
theorem S.f21 (hE:Fold E) (h:Lw H0 Z H lw m s X) (hb:s.big<2 ^ 30) (hQ:∀ v H',Ext H0 H'->Rows H' 7 v (partR s.parts)->Q v H'):E.call (E.fid i.f21) [ptr lw 0] H Q:=by
 apply hE.f21
 obtain ⟨lv,ov,h⟩:=h
 have g:=h.newroom 7
 have hbx:=g.box (k:=0) (b:=lw) (c:=[lv,vi s.last,vi s.other,.map (some m),ov]) rfl
 have hrw:=g.rows (k:=1) (sz:=7) (v:=lv) (rows:=partR s.parts) rfl
 have hlen:(partR s.parts).length<2 ^ 30:=by unfold LwD.big at hb; simp only [partR,List.length_map]; omega
 have hbS:buildS 0 7 #[(.int .u8 0),(.int .i64 0),(.int .i64 0),(.int .u16 0),(.int .u8 0),(.int .u8 0),(.int .u32 0)] []=some (.cells [] none,mkSlc 0 0):=buildS0 7 [u8 0#8,vi 0,vi 0,u16 0#16,u8 0#8,u8 0#8,u32 0#32] rfl
 have hk:(lwL lw m lv ov s++X++[growR 7 (slc H.next 0 0 0) []])[4+X.length]? = some (growR 7 (slc H.next 0 0 0) []):=by
  have hll:(lwL lw m lv ov s++X).length=4+X.length:=by rw [List.length_append]; rfl
  rw [List.getElem?_append_right (by omega),hll,Nat.sub_self]; rfl
 obtain ⟨v',H3,a1,a2,g2⟩:=g.app (k:=4+X.length) (bytes:=32) hk hrw (by simp [partR,PartD.cells]) (by decide) (by decide) (by simp; omega) (by simp; omega)
 simp only [F.f21,ptr_eql_nil,hbS,AM.mk_some,mkSlc_eq,hbx,a1,stdZ]
 have hl4:4+X.length<(lwL lw m lv ov s++X++[growR 7 (slc H.next 0 0 0) []]).length:=by
  have hll:(lwL lw m lv ov s++X).length=4+X.length:=by rw [List.length_append]; rfl
  rw [List.length_append,hll]; simp
 refine hQ _ _ g2.ext (g2.rows (k:=4+X.length) (sz:=7) ?_)
 rw [List.getElem?_set_self hl4,List.nil_append]
end
end Go.AM
end
section
namespace Go.AM
set_option maxRecDepth 20000
def wK (c:CaseD):Nat:=wB c.branches+1
def wP (p:PlanD):Nat:=20+8*p.cases.length+(p.cases.map wK).sum
section
variable {E:Sy} {H H' H0 Z:AH} {Q:Value->AH->Prop} {X:List Res} {lw m:Nat} {s:LwD}
theorem big_starts:∀ (l:List CaseD) (x:LwD×List (BitVec 32×Nat)),(LwD.starts l x).1.big=x.1.big+l.length
 | [],x=>by simp [LwD.starts]
 | c :: l,x=>by
  show (LwD.starts l (LwD.start1 x c)).1.big=_
  rw [big_starts l]
  simp only [LwD.start1,big_new,List.length_cons]; omega
theorem big_case1 (st:List (BitVec 32×Nat)) (s:LwD) (c:CaseD):(LwD.case1 st s c).big<=s.big+wK c:=by
 unfold LwD.case1 wK
 have:=big_branches c.branches (s.put (pHere (getN c.number st)))
 rw [big_put] at this
 omega
theorem big_cases (st:List (BitVec 32×Nat)):∀ (l:List CaseD) (s:LwD),(LwD.cases st l s).big<=s.big+(l.map wK).sum
 | [],s=>by simp [LwD.cases]
 | c :: l,s=>by
  have h1:=big_cases st l (LwD.case1 st s c)
  have h2:=big_case1 st s c
  show (LwD.cases st l (LwD.case1 st s c)).big<=_
  simp only [List.map_cons,List.sum_cons]
  omega
theorem big_setO (s:LwD) (n:Nat):(s.setO n).big=s.big:=rfl
theorem big_low1 (d:BitVec 32):(low1 d).big<=2:=by
 unfold low1
 have h1:=big_act LwD.zero d
 have h0:LwD.zero.big=0:=rfl
 rw [big_setO]; omega
theorem big_low2 (d:BitVec 32):(low2 d).1.big<=4:=by
 unfold low2
 have h1:=big_act (low1 d) 2147483648#32
 have h0:=big_low1 d
 omega
theorem big_lower0 (d:BitVec 32):(lower0 d).big<=8:=by
 unfold lower0
 have h1:=big_low2 d
 simp only [big_put,big_new]
 omega
theorem Lw.mapset {st:List (BitVec 32×Nat)} {sm:Nat} (h:Lw H0 Z H lw m s (mapR u32 natV sm st :: X)) (k:BitVec 32) (v:Nat):∃ H',setMap 0 (.map (some sm)) (u32 k) (vi v) H=some H'/\Lw H0 Z H' lw m s (mapR u32 natV sm (aset k v st) :: X):=by
 obtain ⟨lv,ov,h⟩:=h
 obtain ⟨H2,m1,g2⟩:=h.mapset (n:=4) (r:=sm) (l:=st) (fk:=u32) (fv:=natV) rfl same_u32 k v
 exact ⟨H2,m1,lv,ov,g2⟩
theorem Lw.look2 {st:List (BitVec 32×Nat)} {sm:Nat} (h:Lw H0 Z H lw m s (mapR u32 natV sm st :: X)) (k:BitVec 32):AM.look 0 (.int .i64 0) false (.map (some sm)) (u32 k) H=some (vi (getN k st:Nat)):=by
 obtain ⟨lv,ov,h⟩:=h
 exact (h.mapAt (k:=4) (fk:=u32) (fv:=natV) (r:=sm) (l:=st) rfl).look_nat k false
theorem Lw.setOther (h:Lw H0 Z H lw m s X) (n:Nat):∃ H',store1 (ptr lw 2) (vi n) H=some H'/\Lw H0 Z H' lw m (s.setO n) X:=by
 obtain ⟨lv,ov,h⟩:=h
 have hbx:=h.box (k:=0) rfl
 have hst:store1 (ptr lw 2) (vi n) H=some (H.put lw (.cells [lv,vi s.last,vi n,.map (some m),ov] none)):=by
  rw [store1_ptr,if_pos (show plain1 (vi n)=true from rfl),hbx]; rfl
 exact ⟨_,hst,lv,ov,h.put (k:=0) rfl [lv,vi s.last,vi n,.map (some m),ov]⟩
theorem sum_take {α:Type} (f:α->Nat) {l:List α} {k:Nat} (hk:k<l.length):((l.take k).map f).sum+f l[k]<=(l.map f).sum:=by
 have h1:l=l.take k++l[k] :: l.drop (k+1):=by rw [List.getElem_cons_drop,List.take_append_drop]
 conv=>rhs; rw [h1]
 simp only [List.map_append,List.map_cons,List.sum_append,List.sum_cons]
 omega
theorem parts_l2 (hE:Fold E) {l:List CaseD} {v:Value} (hv:SliceOf (CaseAt 0) H0 2 v l) (hl:l.length<2 ^ 24) (hlb:∀ c∈l,c.branches.length<2 ^ 30) {st:List (BitVec 32×Nat)} {sm:Nat} (h:Lw H0 Z H lw m s [mapR u32 natV sm st]) (hb:s.big+(l.map wK).sum<2 ^ 25)
  (hQ:∀ v H',Ext H0 H'->Rows H' 7 v (partR (LwD.cases st l s).ends.parts)->Q v H') :
  LoopL (fun l H X0=>F.f29_l2 E Q (nth l 0) (nth l 1) (nth l 2) (nth l 3) (nth l 4) H X0) [ptr lw 0,.map (some sm),v,vi l.length,(.int .i64 0)] H:=by
 have i0:(.int .i64 0:Value)=vi ((0:Nat):Int):=rfl
 rw [i0]
 refine LoopL.count l.length (fun k ls H'=>ls=[ptr lw 0,.map (some sm),v,vi l.length,vi k]/\Lw H0 Z H' lw m (LwD.cases st (l.take k) s) [mapR u32 natV sm st]) ?_ ⟨rfl,by simpa [LwD.cases] using h⟩
 rintro k _ H1 X1 hk ih ⟨rfl,g⟩
 have hbg:=big_cases st (l.take k) s
 rcases Nat.lt_or_ge k l.length with hlt | hge
 ·obtain ⟨bb,o,cs,f1,f2,f3⟩:=hv.ix hlt
  have f2:=g.ext.row f2
  obtain ⟨bv,rfl,f4⟩:=f3
  have hbv:plain1 bv=true:=by obtain ⟨rows,h1,_⟩:=f4; exact h1.plain
  have lo:loadN 2 (ptr bb o) H1=some (.agg [u32 l[k].number,bv].toArray):=by rw [loadN_ptr,f2]; rfl
  have hlt':(k:Int)<l.length:=by omega
  have hsum:=sum_take wK hlt
  have hstep:LwD.cases st (l.take (k+1)) s=LwD.case1 st (LwD.cases st (l.take k) s) l[k]:=by
   unfold LwD.cases
   rw [List.take_succ,List.getElem?_eq_getElem hlt,List.foldl_append]; rfl
  have hlk:=hlb l[k] (List.getElem_mem hlt)
  have hinc:=i64_inc (i:=k) (by omega)
  generalize l[k]=c at *
  generalize LwD.cases st (l.take k) s=s1 at *
  have hst:storeN 2 (ptr H1.next 0) (.agg [u32 c.number,bv].toArray) (H1.new (.cells [(.int .u32 0),(.slice none 0 0)] none))=some (H1.new (.cells [u32 c.number,bv] none)):=two_store rfl rfl (by simp [hbv])
  have g1:=g.newbox [u32 c.number,bv]
  have b1:=g1.box
  have k1:=g1.look2 c.number
  have hw:wK c=wB c.branches+1:=rfl
  simp only [F.f29_l2,i64_lss,hlt',decide_true,f1,lo,allocW_eq,hst,b1,k1,stdZ]
  generalize H1.new (.cells [u32 c.number,bv] none)=H2 at *
  generalize H1.next=t at *
  refine S.f18 hE g1 (by omega) _ fun H3 g2 =>?_
  have b3:=g2.box
  simp only [b3,stdZ]
  refine S.f31 hE f4 g2 (by rw [big_put]; omega) hlk fun H4 g3 =>?_
  simp only [hinc,stdZ]
  refine ih hlt _ _ ⟨rfl,?_⟩
  rw [hstep]
  exact g3.dropLast (X:=[mapR u32 natV sm st])
 ·have hke:k=l.length:=by omega
  subst hke
  rw [List.take_length] at g hbg
  have hlt':¬ ((l.length:Int)<l.length):=by omega
  simp only [F.f29_l2,i64_lss,hlt',decide_false,stdZ]
  refine S.f34 hE g (by omega) fun H2 g2 =>?_
  have hbe:=big_ends (LwD.cases st l s).order (LwD.cases st l s).acts (LwD.cases st l s)
  have hob:(LwD.cases st l s).order.length<=(LwD.cases st l s).big:=by unfold LwD.big; omega
  simp only [stdZ]
  refine S.f21 hE g2 ?_ hQ
  show ((LwD.cases st l s).order.foldl (LwD.end1 (LwD.cases st l s).acts) (LwD.cases st l s)).big<_
  omega
theorem S.f29 (hE:Fold E) (p:PlanD) (cs:List Value) (hp:PlanAt H p cs) (hb:wP p<2 ^ 24) (hQ:∀ v H',Ext H H'->Rows H' 7 v (partR (lowerF p).parts)->Q v H'):E.call (E.fid i.f29) [.agg cs.toArray] H Q:=by
 apply hE.f29
 obtain ⟨v,rfl,hv⟩:=hp
 have x1:Ext H (H.new (.cells [v,u32 p.default] none)):=(Ext.refl _).new _
 have hb1:=AH.get_new_self H (.cells [v,u32 p.default] none)
 have hlv:=hv.lenSlc
 have hv1:=hv.sub (fun _ _ _ _ h e=>CaseAt.sub h e) x1.sub
 have hmw:∀ (H:AH) (K:Value->AH->Prop),mapW H K=K (.map (some H.next)) (H.new (.map [] 0 true)):=fun _ _=>rfl
 simp only [F.f29,boxO_agg_z,AM.mk_some,mkPtr_eq_z,List.toList_toArray,hmw,stdZ]
 have hn1:H.next+1=(H.new (.cells [v,u32 p.default] none)).next:=rfl
 rw [hn1]
 generalize H.new (.cells [v,u32 p.default] none)=H1 at *
 generalize H.next=t1 at *
 clear hn1
 have g1:=(Has.begin (Ext.refl H1) (Sub.refl H1)).newmap u32 natV
 have hbv:∀ n:Nat,buildV [(0,2),(2,1),(3,1),(4,1)] #[(.slice none 0 0),(.int .i64 0),(.int .i64 0),(.map none),(.slice none 0 0)] [(2,.map (some n))]=some (.agg [nilS,vi ((0:Nat):Int),vi ((0:Nat):Int),.map (some n),nilS].toArray):=fun _=>rfl
 have x2:Ext H1 (H1.new (.map [] 0 true)):=(Ext.refl H1).new _
 have hb2:=x2.cells hb1
 simp only [hbv,boxO_agg_z,AM.mk_some,mkPtr_eq_z,List.toList_toArray,stdZ]
 have hnx:(H1.new (.map [] 0 true)).next=H1.next+1:=rfl
 generalize H1.new (.map [] 0 true)=H2 at *
 generalize H1.next=m at *
 have g2:=((g1.newbox [nilS,vi ((0:Nat):Int),vi ((0:Nat):Int),.map (some m),nilS]).nils 7).nils 1
 have x3:=x2.new (.cells [nilS,vi ((0:Nat):Int),vi ((0:Nat):Int),.map (some m),nilS] none)
 generalize H2.new (.cells [nilS,vi ((0:Nat):Int),vi ((0:Nat):Int),.map (some m),nilS] none)=H3 at *
 generalize H2.next=lw at *
 have g3:Lw H1 H1 H3 lw m LwD.zero []:=⟨nilS,nilS,g2.perm ((List.Perm.swap _ _ _).trans ((List.Perm.swap _ _ _).cons _))⟩
 have hb3:=x3.cells hb1
 have kK:(.int .u32 2147483648:Value)=u32 2147483648#32:=rfl
 have kA:(.int .u32 3221225534:Value)=u32 3221225534#32:=rfl
 have k16:(.int .u16 16:Value)=u16 16#16:=rfl
 have k4:(.int .u32 4:Value)=u32 4#32:=rfl
 have k0:(.int .u32 0:Value)=u32 0#32:=rfl
 have i0:(.int .i64 0:Value)=vi ((0:Nat):Int):=rfl
 have hpc:wP p=20+8*p.cases.length+(p.cases.map wK).sum:=rfl
 have hv4:∀ k,insnV 32 0 0 k=(iLoad k).v:=fun _=>rfl
 simp only [hb3,stdZ]
 refine S.f30 hE g3 (by decide) p.default fun H4 g4 =>?_
 obtain ⟨H5,st5,g5⟩:=g4.setOther (LwD.zero.act p.default).2
 have g5:Lw H1 H1 H5 lw m (low1 p.default) []:=g5
 have hg1:=big_low1 p.default
 have hg2:=big_low2 p.default
 simp only [st5,kK,stdZ]
 refine S.f30 hE g5 (by omega) 2147483648#32 fun H6 g6 =>?_
 have g6:Lw H1 H1 H6 lw m (low2 p.default).1 []:=g6
 simp only [stdZ]
 refine S.f20 hE g6 (by omega) fun H7 g7 =>?_
 simp only [k4,stdZ]
 refine S.f11 hE 4#32 fun H8 e8 =>?_
 rw [hv4]
 refine S.f22 hE (g7.grow e8) (by simp only [big_new]; omega) _ fun H9 g9 =>?_
 simp only [k16,kA,stdZ]
 refine S.f19 hE g9 (by simp only [big_new,big_put]; omega) 16#16 _ _ _ fun H10 g10 =>?_
 simp only [stdZ]
 refine S.f18 hE g10 (by simp only [big_new,big_put]; omega) _ fun H11 g11 =>?_
 have g11:Lw H1 H1 H11 lw m (lower0 p.default) []:=g11
 have hg0:=big_lower0 p.default
 simp only [hmw,stdZ]
 have g12:Lw H1 H1 (H11.new (.map [] 0 true)) lw m (lower0 p.default) [mapR u32 natV H11.next ([]:List (BitVec 32×Nat))]:=by
  obtain ⟨lv,ov,g⟩:=g11
  have:=g.newmap u32 natV
  rw [List.append_assoc] at this
  exact ⟨lv,ov,this⟩
 have hb12:=g12.ext.cells hb1
 generalize H11.new (.map [] 0 true)=H12 at *
 generalize H11.next=sm at *
 simp only [hb12,hlv,i0,stdZ]
 have hlow3:low3 p=LwD.starts p.cases (lower0 p.default,[]):=rfl
 have hbs:(LwD.starts p.cases (lower0 p.default,[])).1.big=(lower0 p.default).big+p.cases.length:=big_starts p.cases (lower0 p.default,[])
 refine LoopL.count p.cases.length (fun k ls H'=>ls=[ptr t1 0,ptr lw 0,.map (some sm),v,vi p.cases.length,vi k]/\Lw H1 H1 H' lw m (LwD.starts (p.cases.take k) (lower0 p.default,[])).1 [mapR u32 natV sm (LwD.starts (p.cases.take k) (lower0 p.default,[])).2]) ?_ ⟨rfl,by simpa [LwD.starts] using g12⟩
 rintro k _ H13 X1 hk ih ⟨rfl,g⟩
 have hbg:(LwD.starts (p.cases.take k) (lower0 p.default,[])).1.big=(lower0 p.default).big+(p.cases.take k).length:=big_starts (p.cases.take k) (lower0 p.default,[])
 rw [List.length_take] at hbg
 rcases Nat.lt_or_ge k p.cases.length with hlt | hge
 ·obtain ⟨bb,o,cs,f1,f2,f3⟩:=hv1.ix hlt
  have f2:=g.ext.row f2
  obtain ⟨bv,rfl,f4⟩:=f3
  have hbv:plain1 bv=true:=by obtain ⟨rows,h1,_⟩:=f4; exact h1.plain
  have lo:loadN 2 (ptr bb o) H13=some (.agg [u32 p.cases[k].number,bv].toArray):=by rw [loadN_ptr,f2]; rfl
  have hlt':(k:Int)<p.cases.length:=by omega
  have hstep:LwD.starts (p.cases.take (k+1)) (lower0 p.default,[])=LwD.start1 (LwD.starts (p.cases.take k) (lower0 p.default,[])) p.cases[k]:=by
   unfold LwD.starts
   rw [List.take_succ,List.getElem?_eq_getElem hlt,List.foldl_append]; rfl
  have hinc:=i64_inc (i:=k) (by omega)
  generalize p.cases[k]=c at *
  generalize LwD.starts (p.cases.take k) (lower0 p.default,[])=x1 at *
  have hst:storeN 2 (ptr H13.next 0) (.agg [u32 c.number,bv].toArray) (H13.new (.cells [(.int .u32 0),(.slice none 0 0)] none))=some (H13.new (.cells [u32 c.number,bv] none)):=two_store rfl rfl (by simp [hbv])
  have g1:=g.newbox [u32 c.number,bv]
  have b1:=g1.box
  simp only [F.f29_l1,i64_lss,hlt',decide_true,f1,lo,allocW_eq,hst,b1,stdZ]
  generalize H13.new (.cells [u32 c.number,bv] none)=H14 at *
  generalize H13.next=t at *
  refine S.f20 hE g1 (by omega) fun H15 g2 =>?_
  have b2:=g2.box
  refine ⟨by rw [load1_ptr,load1_ptr,b1,b2],?_⟩
  obtain ⟨H16,m1,g3⟩:=g2.mapset (X:=[boxR t [u32 c.number,bv]]) c.number (x1.1.last+1)
  simp only [m1,hinc,stdZ]
  refine ih hlt _ _ ⟨rfl,?_⟩
  rw [hstep]
  exact g3.dropLast (X:=[mapR u32 natV sm _])
 ·have hke:k=p.cases.length:=by omega
  subst hke
  rw [List.take_length] at g hbg
  have hlt':¬ ((p.cases.length:Int)<p.cases.length):=by omega
  simp only [F.f29_l1,i64_lss,hlt',decide_false,k0,stdZ]
  have g:Lw H1 H1 H13 lw m (low3 p).1 [mapR u32 natV sm (low3 p).2]:=g
  refine S.f11 hE 0#32 fun H14 e14 =>?_
  rw [hv4]
  have hb3:(low3 p).1.big<=8+p.cases.length:=by rw [hlow3,hbs]; omega
  refine S.f22 hE (g.grow e14) (by omega) _ fun H15 g2 =>?_
  have hb15:=g2.ext.cells hb1
  simp only [hb15,stdZ]
  refine S.f32 hE (X:=[]) (p.cases.length+1) (Nat.lt_succ_self _) hv1 g2 (by rw [big_put]; omega) fun H16 g3 =>?_
  have hbc:=big_choose (low3 p).2 (p.cases.length+1) p.cases ((low3 p).1.put (pPlain (iLoad 0#32))) (Nat.lt_succ_self _)
  rw [big_put] at hbc
  have g3:Lw H1 H1 H16 lw m (low4 p) [mapR u32 natV sm (low3 p).2]:=g3
  have hbc:(low4 p).big+(if p.cases.length=0 then 0 else 6)<=(low3 p).1.big+1+7*p.cases.length+1:=hbc
  have hb16:=g3.ext.cells hb1
  simp only [hb16,hlv,stdZ]
  refine parts_l2 hE hv1 (by omega) (fun c hc =>?_) g3 (by omega) fun v' H' e' r'=>hQ v' H' (x1.trans e') r'
  have h1:wK c<=(p.cases.map wK).sum:=by
   obtain ⟨j,hj,rfl⟩:=List.getElem_of_mem hc
   have:=sum_take wK hj
   omega
  have h2:c.branches.length<=(c.branches.map wC).sum:=by
   generalize c.branches=bs
   induction bs with
   | nil=>simp
   | cons b bs ih =>
    have:wC b=12*b.conds.length+5:=rfl
    simp only [List.length_cons,List.map_cons,List.sum_cons]; omega
  have h3:wK c=(c.branches.map wC).sum+1+1:=rfl
  omega
end
end Go.AM
end
section
namespace Go.AM
set_option maxRecDepth 20000
def castN (R:List Nat):List Int:=R.map fun (n:Nat)=>(n:Int)
theorem mem_castN {R:List Nat} {n:Nat}:(n:Int)∈castN R↔n∈R:=by
 unfold castN
 simp only [List.mem_map]
 constructor
 ·rintro ⟨m,h,e⟩
  have:m=n:=by omega
  rwa [<- this]
 ·exact fun h=>⟨n,h,rfl⟩
structure LI (P:List PartD) (last:Nat) (R:List Nat):Prop where
 nd:(heres P++castN R).Nodup
 le:∀ n∈R,n<=last
 hle:∀ n∈heres P,n<=(last:Int)
 fw:∀ a p b,P=a++p :: b->(p.kind=4#8->p.to∈heres b++castN R)/\(p.kind=3#8->p.to∈heres b++castN R/\p.els∈heres b++castN R)
 ok:∀ p∈P,partOk p
theorem LI.nil:LI [] 0 []:=⟨by simp [heres,castN],by simp,by simp [heres],fun a p b h=>by simp at h,by simp⟩
theorem LI.mono {P:List PartD} {l l':Nat} {R R':List Nat} (h:LI P l R) (hn:(heres P++castN R').Nodup) (hl:l<=l') (hle:∀ n∈R',n<=l') (hs:∀ n∈R,n∈R'):LI P l' R':=by
 refine ⟨hn,hle,fun n h1 =>?_,fun a p b e =>?_,h.ok⟩
 ·have:=h.hle n h1; omega
 ·have hsub:∀ x,x∈heres b++castN R->x∈heres b++castN R':=by
   intro x hx
   rcases List.mem_append.1 hx with h1 | h1
   ·exact List.mem_append_left _ h1
   ·refine List.mem_append_right _ ?_
    obtain ⟨m,hm,rfl⟩:=List.mem_map.1 h1
    exact mem_castN.2 (hs m hm)
  obtain ⟨f1,f2⟩:=h.fw a p b e
  exact ⟨fun k=>hsub _ (f1 k),fun k=>⟨hsub _ (f2 k).1,hsub _ (f2 k).2⟩⟩
theorem LI.new {P:List PartD} {l:Nat} {R:List Nat} (h:LI P l R):LI P (l+1) ((l+1) :: R):=by
 refine h.mono ?_ (by omega) (fun n hn =>?_) fun n hn=>List.mem_cons_of_mem _ hn
 ·show (heres P++((l+1:Nat):Int) :: castN R).Nodup
  refine (List.perm_middle.nodup_iff).2 ?_
  refine List.nodup_cons.2 ⟨fun hm =>?_,h.nd⟩
  rcases List.mem_append.1 hm with h1 | h1
  ·have:=h.hle _ h1; omega
  ·have:=h.le _ (mem_castN.1 h1); omega
 ·rcases List.mem_cons.1 hn with h1 | h1
  ·omega
  ·have:=h.le n h1; omega
theorem LI.skip {P:List PartD} {l:Nat} {R:List Nat} (h:LI P l R):LI P (l+1) R :=
 h.mono h.nd (by omega) (fun n hn=>by have:=h.le n hn; omega) fun _ hn=>hn
theorem LI.perm {P:List PartD} {l:Nat} {R R':List Nat} (h:LI P l R) (p:R.Perm R'):LI P l R' :=
 h.mono (((List.Perm.refl _).append (p.map _)).nodup_iff.1 h.nd) (Nat.le_refl _) (fun n hn=>h.le n (p.mem_iff.2 hn)) fun n hn=>p.mem_iff.1 hn
theorem LI.put {P:List PartD} {l:Nat} {R:List Nat} (h:LI P l R) {p:PartD} (hp:partOk p) (h1:p.kind≠1#8) (h4:p.kind=4#8->p.to∈castN R) (h3:p.kind=3#8->p.to∈castN R/\p.els∈castN R):LI (P++[p]) l R:=by
 have hh:heres (P++[p])=heres P:=by rw [heres_app]; simp [heres,h1]
 refine ⟨by rw [hh]; exact h.nd,h.le,by rw [hh]; exact h.hle,fun a q b e =>?_,fun q hq =>?_⟩
 ·rcases List.append_eq_append_iff.1 e with ⟨c,e1,e2⟩ | ⟨c,e1,e2⟩
  ·
   cases c with
   | nil =>
    simp only [List.nil_append,List.cons.injEq] at e2
    obtain ⟨rfl,rfl⟩:=e2
    exact ⟨fun k=>List.mem_append_right _ (h4 k),fun k=>⟨List.mem_append_right _ (h3 k).1,List.mem_append_right _ (h3 k).2⟩⟩
   | cons x c =>
    have:=congrArg List.length e2
    simp at this
  ·cases c with
   | nil =>
    simp only [List.nil_append,List.cons.injEq] at e2
    obtain ⟨rfl,rfl⟩:=e2
    exact ⟨fun k=>List.mem_append_right _ (h4 k),fun k=>⟨List.mem_append_right _ (h3 k).1,List.mem_append_right _ (h3 k).2⟩⟩
   | cons x c =>
    simp only [List.cons_append,List.cons.injEq] at e2
    obtain ⟨rfl,rfl⟩:=e2
    have hb:heres (c++[p])=heres c:=by rw [heres_app]; simp [heres,h1]
    rw [hb]
    exact h.fw a q c e1
 ·rcases List.mem_append.1 hq with h2 | h2
  ·exact h.ok q h2
  ·rw [List.mem_singleton.1 h2]; exact hp
theorem LI.here {P:List PartD} {l:Nat} {R:List Nat} {n:Nat} (h:LI P l (n :: R)):LI (P++[pHere n]) l R:=by
 have hh:heres (P++[pHere n])=heres P++[(n:Int)]:=by rw [heres_app]; rfl
 refine ⟨by rw [hh,List.append_assoc]; exact h.nd,fun m hm=>h.le m (List.mem_cons_of_mem _ hm),fun m hm =>?_,fun a q b e =>?_,fun q hq =>?_⟩
 ·rw [hh] at hm
  rcases List.mem_append.1 hm with h2 | h2
  ·exact h.hle m h2
  ·rw [List.mem_singleton.1 h2]
   have:=h.le n (List.mem_cons_self ..); omega
 ·have last:q=pHere n->(q.kind=4#8->q.to∈heres b++castN R)/\(q.kind=3#8->q.to∈heres b++castN R/\q.els∈heres b++castN R):=by
   rintro rfl
   exact ⟨fun k=>absurd k (by simp [pHere]),fun k=>absurd k (by simp [pHere])⟩
  rcases List.append_eq_append_iff.1 e with ⟨c,e1,e2⟩ | ⟨c,e1,e2⟩
  ·cases c with
   | nil =>
    simp only [List.nil_append,List.cons.injEq] at e2
    exact last e2.1.symm
   | cons x c =>
    have:=congrArg List.length e2
    simp at this
  ·cases c with
   | nil =>
    simp only [List.nil_append,List.cons.injEq] at e2
    exact last e2.1
   | cons x c =>
    simp only [List.cons_append,List.cons.injEq] at e2
    obtain ⟨rfl,rfl⟩:=e2
    have hb:heres (c++[pHere n])=heres c++[(n:Int)]:=by rw [heres_app]; rfl
    rw [hb]
    have hcn:castN (n :: R)=(n:Int) :: castN R:=rfl
    have hf:=h.fw a q c e1
    rw [hcn] at hf
    simp only [List.append_assoc,List.singleton_append]
    exact hf
 ·rcases List.mem_append.1 hq with h2 | h2
  ·exact h.ok q h2
  ·rw [List.mem_singleton.1 h2]; exact .inl rfl
theorem LI.wf {P:List PartD} {l:Nat} (h:LI P l []):wfL P:=by
 intro a p b e
 obtain ⟨f1,f2⟩:=h.fw a p b e
 have hc:castN []=[]:=rfl
 rw [hc,List.append_nil] at f1 f2
 refine ⟨fun k hm =>?_,f1,f2⟩
 have hn:=h.nd
 rw [hc,List.append_nil,e,heres_app,heres_cons,if_pos k] at hn
 have:=(List.nodup_append.1 hn).2.1
 exact (List.nodup_cons.1 this).1 hm
def actN (s:LwD):List Nat:=s.acts.map Prod.snd
theorem okLoad (n:Int) (b:Bool):(iLoad (halfOf n b)).k.toNat % 4=0/\(iLoad (halfOf n b)).k.toNat<=60:=by
 have hc:clampArg n<=5:=by
  unfold clampArg
  split <;> split <;> omega
 have:(iLoad (halfOf n b)).k.toNat=16+8*clampArg n+(if b then 4 else 0):=by
  show (BitVec.ofNat 32 _).toNat=_
  rw [BitVec.toNat_ofNat,Nat.mod_eq_of_lt]
  split <;> omega
 rw [this]
 split <;> omega
theorem plainOk {x:InsnD} (h:(x.code=32#16/\x.k.toNat % 4=0/\x.k.toNat<=60)\/x.code=84#16\/x.code=6#16):partOk (pPlain x) := .inr (.inr (.inl ⟨rfl,h⟩))
theorem LI.load {P:List PartD} {l:Nat} {R:List Nat} (h:LI P l R) (n:Int) (b:Bool):LI (P++[pPlain (iLoad (halfOf n b))]) l R :=
 h.put (plainOk (.inl ⟨rfl,okLoad n b⟩)) (by simp [pPlain]) (fun k=>absurd k (by simp [pPlain])) fun k=>absurd k (by simp [pPlain])
theorem LI.plain {P:List PartD} {l:Nat} {R:List Nat} (h:LI P l R) {x:InsnD} (hx:(x.code=32#16/\x.k.toNat % 4=0/\x.k.toNat<=60)\/x.code=84#16\/x.code=6#16):LI (P++[pPlain x]) l R :=
 h.put (plainOk hx) (by simp [pPlain]) (fun k=>absurd k (by simp [pPlain])) fun k=>absurd k (by simp [pPlain])
theorem LI.mask {P:List PartD} {l:Nat} {R:List Nat} (h:LI P l R) (k:BitVec 32):LI (P++[pPlain (iMask k)]) l R:=h.plain (.inr (.inl rfl))
theorem LI.cmp {P:List PartD} {l:Nat} {R:List Nat} (h:LI P l R) {how:BitVec 16} (hh:how=16#16\/how=32#16\/how=48#16) (k:BitVec 32) {t e:Nat} (ht:t∈R) (he:e∈R):LI (P++[pIf how k t e]) l R :=
 h.put (.inr (.inr (.inr ⟨rfl,by
  show (5#16|||how|||0#16)=21#16\/(5#16|||how|||0#16)=37#16\/(5#16|||how|||0#16)=53#16
  rcases hh with rfl | rfl | rfl <;> decide⟩))) (by simp [pIf]) (fun k=>absurd k (by simp [pIf])) fun _=>⟨mem_castN.2 ht,mem_castN.2 he⟩
theorem LI.goto {P:List PartD} {l:Nat} {R:List Nat} (h:LI P l R) {t:Nat} (ht:t∈R):LI (P++[pGoto t]) l R :=
 h.put (.inr (.inl rfl)) (by simp [pGoto]) (fun _=>mem_castN.2 ht) fun k=>absurd k (by simp [pGoto])
theorem LI.second {s:LwD} {R:List Nat} {n:Nat} (h:LI s.parts s.last (n :: R)) (c:CondD):LI (s.second c n).parts (s.second c n).last R:=h.here.load c.arg false
theorem LI.order64 {s:LwD} {R:List Nat} (h:LI s.parts s.last R) (c:CondD) {how:BitVec 16} (hh:how=16#16\/how=32#16\/how=48#16) {yes no:Nat} (hy:yes∈R) (hn:no∈R):LI (s.order64 c how yes no).parts (s.order64 c how yes no).last R:=by
 have h1:=h.new.new
 have h2:=h1.cmp (how:=32#16) (by simp) (hi32 c.value) (t:=yes) (e:=s.last+1) (by simp [hy]) (by simp)
 have h3:=(h2.perm (List.Perm.swap _ _ _)).here
 have h4:=h3.cmp (how:=16#16) (by simp) (hi32 c.value) (t:=s.last+2) (e:=no) (by simp) (by simp [hn])
 have h5:=h4.here.load c.arg false
 exact h5.cmp hh (lo32 c.value) hy hn
theorem LI.cond {s:LwD} {R:List Nat} (h:LI s.parts s.last R) (c:CondD) {yes no:Nat} (hy:yes∈R) (hn:no∈R):LI (s.cond c yes no).parts (s.cond c yes no).last R:=by
 unfold LwD.cond
 have hnew:=h.new.load c.arg true
 have hskip:LI (s.new.put (pPlain (iLoad (halfOf c.arg true)))).parts (s.new.put (pPlain (iLoad (halfOf c.arg true)))).last R:=h.skip.load c.arg true
 have hnew:LI (s.new.put (pPlain (iLoad (halfOf c.arg true)))).parts (s.new.put (pPlain (iLoad (halfOf c.arg true)))).last ((s.last+1) :: R):=hnew
 have hy':yes∈(s.last+1) :: R:=List.mem_cons_of_mem _ hy
 have hn':no∈(s.last+1) :: R:=List.mem_cons_of_mem _ hn
 have hm:s.last+1∈(s.last+1) :: R:=List.mem_cons_self ..
 generalize s.new.put (pPlain (iLoad (halfOf c.arg true)))=s1 at *
 generalize s.last+1=next at *
 unfold LwD.condOn
 split
 ·have h2:LI (s1.put (pIf 16#16 (hi32 c.value) next no)).parts (s1.put (pIf 16#16 (hi32 c.value) next no)).last (next :: R):=hnew.cmp (how:=16#16) (by simp) (hi32 c.value) hm hn'
  exact (LI.second h2 c).cmp (how:=16#16) (by simp) (lo32 c.value) hy hn
 split
 ·have h2:LI (s1.put (pIf 16#16 (hi32 c.value) next yes)).parts (s1.put (pIf 16#16 (hi32 c.value) next yes)).last (next :: R):=hnew.cmp (how:=16#16) (by simp) (hi32 c.value) hm hy'
  exact (LI.second h2 c).cmp (how:=16#16) (by simp) (lo32 c.value) hn hy
 split
 ·exact LI.order64 hskip c (by simp) hy hn
 split
 ·exact LI.order64 hskip c (by simp) hy hn
 split
 ·exact LI.order64 hskip c (by simp) hn hy
 split
 ·exact LI.order64 hskip c (by simp) hn hy
 split
 ·have h2:LI ((s1.put (pPlain (iMask (hi32 c.mask)))).put (pIf 16#16 (hi32 c.value) next no)).parts ((s1.put (pPlain (iMask (hi32 c.mask)))).put (pIf 16#16 (hi32 c.value) next no)).last (next :: R):=(hnew.mask _).cmp (how:=16#16) (by simp) (hi32 c.value) hm hn'
  exact ((LI.second h2 c).mask (lo32 c.mask)).cmp (how:=16#16) (by simp) (lo32 c.value) hy hn
 ·exact hskip.goto hn
end Go.AM
end
