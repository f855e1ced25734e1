/- CONTRACTS ON THE PRINTED FUNCTIONS. -/
import Derived.Test.YtdionecknmcdhaaL68c8C0
set_option linter.all false
section
namespace Go.AM
set_option maxRecDepth 20000
def KeepA (s t:LwD):Prop:=t.acts=s.acts/\t.other=s.other/\t.order=s.order
theorem KeepA.trans {a b c:LwD} (h:KeepA a b) (h':KeepA b c):KeepA a c:=⟨h'.1.trans h.1,h'.2.1.trans h.2.1,h'.2.2.trans h.2.2⟩
theorem KeepA.put (s:LwD) (p:PartD):KeepA s (s.put p):=⟨rfl,rfl,rfl⟩
theorem KeepA.new (s:LwD):KeepA s s.new:=⟨rfl,rfl,rfl⟩
theorem KeepA.cond (s:LwD) (c:CondD) (y n:Nat):KeepA s (s.cond c y n):=by
 unfold LwD.cond LwD.condOn
 repeat' split
 all_goals exact ⟨rfl,rfl,rfl⟩
theorem KeepA.condStep (s:LwD) (no:Nat) (c:CondD):KeepA s (LwD.condStep no s c):=(KeepA.new s).trans ((KeepA.cond s.new c _ _).trans (KeepA.put _ _))
theorem KeepA.conds (no:Nat):∀ (l:List CondD) (s:LwD),KeepA s (LwD.conds no l s)
 | [],_=>⟨rfl,rfl,rfl⟩
 | c :: l,s=>(KeepA.condStep s no c).trans (KeepA.conds no l _)
theorem KeepA.actN {s t:LwD} (h:KeepA s t):actN t=actN s:=by unfold Go.AM.actN; rw [h.1]
def LA (s:LwD):Prop:=s.order=s.acts.map Prod.fst/\(s.acts.map Prod.fst).Nodup
theorem KeepA.la {s t:LwD} (h:KeepA s t) (k:LA s):LA t:=by unfold LA; rw [h.1,h.2.2]; exact k
structure LT (s:LwD) (pend:List Nat):Prop where
 li:LI s.parts s.last (pend++actN s)
 la:LA s
theorem alook_key {K V:Type} [DecidableEq K] {l:List (K×V)} {k:K} (h:alook k l=none):k ∉ l.map Prod.fst:=by
 induction l with
 | nil=>simp
 | cons p l ih =>
  rw [alook_cons] at h
  split at h
  ·cases h
  ·rename_i hn
   rw [List.map_cons,List.mem_cons,not_or]
   exact ⟨hn,ih h⟩
theorem alook_memV {K V:Type} [DecidableEq K] {l:List (K×V)} {k:K} {v:V} (h:alook k l=some v):(k,v)∈l:=by
 induction l with
 | nil=>simp [alook] at h
 | cons p l ih =>
  rw [alook_cons] at h
  split at h
  ·rename_i hn; cases h; rw [hn]; exact List.mem_cons_self ..
  ·exact List.mem_cons_of_mem _ (ih h)
theorem alook_of_memK {K V:Type} [DecidableEq K] {l:List (K×V)} (hn:(l.map Prod.fst).Nodup) {k:K} {v:V} (h:(k,v)∈l):alook k l=some v:=by
 induction l with
 | nil=>cases h
 | cons p l ih =>
  rw [List.map_cons,List.nodup_cons] at hn
  rw [alook_cons]
  rcases List.mem_cons.1 h with h | h
  ·subst h; rw [if_pos rfl]
  ·rw [if_neg (fun e=>hn.1 (by rw [<- e]; exact List.mem_map.2 ⟨_,h,rfl⟩))]
   exact ih hn.2 h
theorem act_some {s:LwD} {a:BitVec 32} {n:Nat} (h:alook a s.acts=some n):s.act a=(s,n):=by unfold LwD.act; rw [h]
theorem act_none {s:LwD} {a:BitVec 32} (h:alook a s.acts=none):s.act a=(⟨s.parts,s.last+1,s.other,s.acts++[(a,s.last+1)],s.order++[a]⟩,s.last+1):=by
 unfold LwD.act; rw [h]
 simp only
 rw [aset_fresh _ _ _ (alook_key h)]
theorem act_look (s:LwD) (a:BitVec 32):(a,(s.act a).2)∈(s.act a).1.acts:=by
 cases h:alook a s.acts with
 | some n=>rw [act_some h]; exact alook_memV h
 | none=>rw [act_none h]; simp
theorem act_sub (s:LwD) (a:BitVec 32):∀ x∈s.acts,x∈(s.act a).1.acts:=by
 intro x hx
 cases h:alook a s.acts with
 | some n=>rw [act_some h]; exact hx
 | none=>rw [act_none h]; exact List.mem_append_left _ hx
theorem act_keeps (s:LwD) (a:BitVec 32):(s.act a).1.parts=s.parts/\(s.act a).1.other=s.other:=by
 cases h:alook a s.acts with
 | some n=>rw [act_some h]; exact ⟨rfl,rfl⟩
 | none=>rw [act_none h]; exact ⟨rfl,rfl⟩
theorem LT.act {s:LwD} {pend:List Nat} (h:LT s pend) (a:BitVec 32):LT (s.act a).1 pend:=by
 cases hf:alook a s.acts with
 | some n=>rw [act_some hf]; exact h
 | none =>
  rw [act_none hf]
  refine ⟨?_,?_,?_⟩
  ·have h1:=h.li.new
   refine h1.perm ?_
   have:pend++Go.AM.actN ⟨s.parts,s.last+1,s.other,s.acts++[(a,s.last+1)],s.order++[a]⟩=(pend++Go.AM.actN s)++[s.last+1]:=by
    unfold Go.AM.actN; simp
   rw [this]
   exact (List.perm_append_singleton _ _).symm
  ·show s.order++[a]=(s.acts++[(a,s.last+1)]).map Prod.fst
   rw [h.la.1]; simp
  ·show ((s.acts++[(a,s.last+1)]).map Prod.fst).Nodup
   rw [List.map_append,List.nodup_append]
   refine ⟨h.la.2,by simp,?_⟩
   intro x hx y hy e
   simp only [List.map_cons,List.map_nil,List.mem_singleton] at hy
   subst hy; subst e
   exact alook_key hf hx
theorem mem_actN {s:LwD} {a:BitVec 32} {n:Nat} (h:(a,n)∈s.acts):n∈actN s:=List.mem_map.2 ⟨_,h,rfl⟩
theorem LI.conds {no:Nat} {R:List Nat} (hn:no∈R):∀ (l:List CondD) (s:LwD),LI s.parts s.last R->LI (LwD.conds no l s).parts (LwD.conds no l s).last R
 | [],s,h=>h
 | c :: l,s,h=>by
  have h1:LI s.new.parts s.new.last ((s.last+1) :: R):=h.new
  have h2:=LI.cond h1 c (yes:=s.last+1) (no:=no) (List.mem_cons_self ..) (List.mem_cons_of_mem _ hn)
  exact LI.conds hn l (LwD.condStep no s c) h2.here
theorem LT.branch {s:LwD} {pend:List Nat} (h:LT s pend) (b:BranchD):LT (s.branch b) pend:=by
 have h1:LI s.new.parts s.new.last ((s.last+1) :: (pend++actN s)):=h.li.new
 have h2:=LI.conds (List.mem_cons_self ..) b.conds s.new h1
 have hk:=KeepA.conds (s.last+1) b.conds s.new
 have h3:LT (LwD.conds (s.last+1) b.conds s.new) ((s.last+1) :: pend):=⟨by rw [hk.actN]; exact h2,hk.la ((KeepA.new s).la h.la)⟩
 have h4:=h3.act b.action
 have hm:=mem_actN (act_look (LwD.conds (s.last+1) b.conds s.new) b.action)
 exact ⟨(h4.li.goto (List.mem_append_right _ hm)).here,h4.la⟩
theorem branch_other (s:LwD) (b:BranchD):(s.branch b).other=s.other/\∀ x∈s.acts,x∈(s.branch b).acts:=by
 have hk:=KeepA.conds (s.last+1) b.conds s.new
 have h1:(s.branch b).other=((LwD.conds (s.last+1) b.conds s.new).act b.action).1.other:=rfl
 have h2:(s.branch b).acts=((LwD.conds (s.last+1) b.conds s.new).act b.action).1.acts:=rfl
 refine ⟨by rw [h1,(act_keeps _ _).2,hk.2.1]; rfl,fun x hx =>?_⟩
 rw [h2]
 refine act_sub _ _ x ?_
 rw [hk.1]
 exact hx
theorem foldb {pend:List Nat}:∀ (l:List BranchD) (s:LwD),LT s pend->LT (l.foldl LwD.branch s) pend/\(l.foldl LwD.branch s).other=s.other/\∀ x∈s.acts,x∈(l.foldl LwD.branch s).acts
 | [],s,h=>⟨h,rfl,fun _ hx=>hx⟩
 | b :: l,s,h=>by
  obtain ⟨h1,h2,h3⟩:=foldb l (s.branch b) (h.branch b)
  obtain ⟨k1,k2⟩:=branch_other s b
  exact ⟨h1,h2.trans k1,fun x hx=>h3 x (k2 x hx)⟩
def LO (s:LwD) (pend:List Nat):Prop:=LT s pend/\s.other∈actN s
theorem actN_sub {s t:LwD} (h:∀ x∈s.acts,x∈t.acts):∀ n∈actN s,n∈actN t:=fun n hn=>by
 obtain ⟨x,hx,rfl⟩:=List.mem_map.1 hn
 exact List.mem_map.2 ⟨x,h x hx,rfl⟩
theorem LO.branches {s:LwD} {pend:List Nat} (h:LO s pend) (l:List BranchD):LO (LwD.branches l s) pend:=by
 obtain ⟨h1,h2,h3⟩:=foldb l s h.1
 have ho:(l.foldl LwD.branch s).other∈actN (l.foldl LwD.branch s):=by rw [h2]; exact actN_sub h3 _ h.2
 exact ⟨⟨h1.li.goto (List.mem_append_right _ ho),h1.la⟩,ho⟩
theorem LO.put {s:LwD} {pend pend':List Nat} (h:LO s pend) {p:PartD} (hl:LI (s.parts++[p]) s.last (pend'++actN s)):LO (s.put p) pend':=⟨⟨hl,h.1.la⟩,h.2⟩
theorem LO.choose {st:List (BitVec 32×Nat)}:∀ (f:Nat) (l:List CaseD) (s:LwD) (pend:List Nat),(∀ c∈l,getN c.number st∈pend)->LO s pend->LO (LwD.choose st f l s) pend
 | 0,_,s,_,_,h=>h
 | f+1,l,s,pend,hs,h=>by
  unfold LwD.choose
  split
  ·exact h.put (h.1.li.goto (List.mem_append_right _ h.2))
  split
  ·rename_i h0 h1
   refine h.put (h.1.li.cmp (by simp) _ (List.mem_append_left _ ?_) (List.mem_append_right _ h.2))
   rw [numAt_eq (by omega)]
   exact hs _ (List.getElem_mem _)
  ·have hn:LI s.new.new.parts s.new.new.last ((s.last+2) :: (s.last+1) :: (pend++actN s)):=h.1.li.new.new
   have h1:=hn.cmp (how:=48#16) (by simp) (numAt l (l.length / 2)) (t:=s.last+2) (e:=s.last+1) (by simp) (by simp)
   have h2:=(h1.perm (List.Perm.swap _ _ _)).here
   have h3:LO ((s.new.new.put (pIf 48#16 (numAt l (l.length / 2)) (s.last+2) (s.last+1))).put (pHere (s.last+1))) ((s.last+2) :: pend):=⟨⟨h2,h.1.la⟩,h.2⟩
   have h4:=LO.choose f (l.take (l.length / 2)) _ _ (fun c hc=>List.mem_cons_of_mem _ (hs c (List.mem_of_mem_take hc))) h3
   have h5:=h4.put (p:=pHere (s.last+2)) (pend':=pend) h4.1.li.here
   exact LO.choose f (l.drop (l.length / 2)) _ _ (fun c hc=>hs c (List.mem_of_mem_drop hc)) h5
theorem LO.cases {st:List (BitVec 32×Nat)} {pend:List Nat}:∀ (l:List CaseD) (s:LwD),LO s (l.map (fun c=>getN c.number st)++pend)->LO (LwD.cases st l s) pend
 | [],s,h=>h
 | c :: l,s,h=>by
  have h1:LO (s.put (pHere (getN c.number st))) (l.map (fun c=>getN c.number st)++pend):=h.put h.1.li.here
  exact LO.cases l (LwD.case1 st s c) (h1.branches c.branches)
theorem LI.ends {A:List (BitVec 32×Nat)}:∀ (l:List (BitVec 32×Nat)) (s:LwD),(∀ x∈l,getN x.1 A=x.2)->LI s.parts s.last (l.map Prod.snd)->LI ((l.map Prod.fst).foldl (LwD.end1 A) s).parts ((l.map Prod.fst).foldl (LwD.end1 A) s).last []
 | [],s,_,h=>h
 | x :: l,s,hx,h=>by
  rw [List.map_cons,List.foldl_cons]
  refine LI.ends l _ (fun y hy=>hx y (List.mem_cons_of_mem _ hy)) ?_
  unfold LwD.end1
  rw [hx x (List.mem_cons_self ..)]
  exact h.here.plain (.inr (.inr rfl))
theorem LT.low2 (d:BitVec 32):LT (low2 d).1 []/\(low2 d).1.other∈actN (low2 d).1:=by
 have h0:LT LwD.zero []:=⟨LI.nil,rfl,by simp [LwD.zero]⟩
 have h1:=h0.act d
 have h2:LT (low1 d) []:=⟨h1.li,h1.la⟩
 have ho:(low1 d).other∈actN (low1 d):=mem_actN (s:=(LwD.zero.act d).1) (act_look LwD.zero d)
 refine ⟨h2.act _,?_⟩
 show (((low1 d).act _).1).other∈_
 rw [(act_keeps _ _).2]
 exact actN_sub (act_sub _ _) _ ho
theorem LO.lower0 (d:BitVec 32):LO (lower0 d) []:=by
 obtain ⟨h1,h2⟩:=LT.low2 d
 have hn:LI (low2 d).1.new.parts (low2 d).1.new.last (((low2 d).1.last+1) :: ([]++actN (low2 d).1)):=h1.li.new
 have hk:=mem_actN (act_look (low1 d) 2147483648#32)
 have h3:=hn.plain (x:=iLoad 4#32) (.inl ⟨rfl,by decide,by decide⟩)
 have h4:=h3.cmp (how:=16#16) (by simp) 3221225534#32 (t:=(low2 d).1.last+1) (e:=(low2 d).2) (List.mem_cons_self ..) (List.mem_cons_of_mem _ hk)
 exact ⟨⟨h4.here,h1.la⟩,h2⟩
theorem starts_ok:∀ (l:List CaseD) (x:LwD×List (BitVec 32×Nat)),(l.map CaseD.number).Nodup->(∀ c∈l,c.number ∉ x.2.map Prod.fst)->(x.2.map Prod.fst).Nodup->LO x.1 (x.2.map Prod.snd) ->
  LO (LwD.starts l x).1 ((LwD.starts l x).2.map Prod.snd)/\(LwD.starts l x).2.map Prod.fst=x.2.map Prod.fst++l.map CaseD.number/\((LwD.starts l x).2.map Prod.fst).Nodup/\(LwD.starts l x).1.parts=x.1.parts/\KeepA x.1 (LwD.starts l x).1
 | [],x,_,_,h2,h3=>⟨h3,by simp [LwD.starts],h2,rfl,rfl,rfl,rfl⟩
 | c :: l,x,hn,hx,h2,h3=>by
  rw [List.map_cons,List.nodup_cons] at hn
  have hf:=hx c (List.mem_cons_self ..)
  have ha:aset c.number (x.1.last+1) x.2=x.2++[(c.number,x.1.last+1)]:=aset_fresh _ _ _ hf
  have hnd:((x.2++[(c.number,x.1.last+1)]).map Prod.fst).Nodup:=by
   rw [List.map_append,List.nodup_append]
   refine ⟨h2,by simp,?_⟩
   intro a h1 b h2 e
   simp only [List.map_cons,List.map_nil,List.mem_singleton] at h2
   subst h2; subst e
   exact hf h1
  have hs:LwD.start1 x c=(x.1.new,x.2++[(c.number,x.1.last+1)]):=by unfold LwD.start1; rw [ha]
  have hlo:LO x.1.new ((x.2++[(c.number,x.1.last+1)]).map Prod.snd):=by
   refine ⟨⟨?_,h3.1.la⟩,h3.2⟩
   refine h3.1.li.new.perm ?_
   have:(x.2++[(c.number,x.1.last+1)]).map Prod.snd=x.2.map Prod.snd++[x.1.last+1]:=by simp
   rw [this,List.append_assoc]
   exact (List.perm_middle).symm
  obtain ⟨r1,r2,r3,r4,r5⟩:=starts_ok l (LwD.start1 x c) hn.2 (by
   rw [hs]
   intro c' hc'
   simp only [List.map_append,List.map_cons,List.map_nil,List.mem_append,List.mem_singleton,not_or]
   exact ⟨hx c' (List.mem_cons_of_mem _ hc'),fun e=>hn.1 (by rw [<- e]; exact List.mem_map.2 ⟨c',hc',rfl⟩)⟩) (by rw [hs]; exact hnd) (by rw [hs]; exact hlo)
  refine ⟨r1,?_,r3,?_,?_⟩
  ·show (LwD.starts l (LwD.start1 x c)).2.map Prod.fst=_
   rw [r2,hs]; simp
  ·show (LwD.starts l (LwD.start1 x c)).1.parts=_
   rw [r4,hs]; rfl
  ·have:KeepA x.1 (LwD.start1 x c).1:=by rw [hs]; exact KeepA.new _
   exact this.trans r5
theorem getN_key {l:List (BitVec 32×Nat)} (hn:(l.map Prod.fst).Nodup) {x:BitVec 32×Nat} (h:x∈l):getN x.1 l=x.2:=by
 unfold getN
 rw [alook_of_memK hn (v:=x.2) h]; rfl
theorem starts_names {l:List CaseD} {st:List (BitVec 32×Nat)} (h:st.map Prod.fst=l.map CaseD.number) (hn:(st.map Prod.fst).Nodup):l.map (fun c=>getN c.number st)=st.map Prod.snd:=by
 have:l.map (fun c=>getN c.number st)=(l.map CaseD.number).map fun n=>getN n st:=by rw [List.map_map]; rfl
 rw [this,<- h,List.map_map]
 apply List.map_congr_left
 intro x hx
 exact getN_key hn hx
structure Low (p:PlanD):Prop where
 lo3:LO (low3 p).1 ((low3 p).2.map Prod.snd)
 names:(low3 p).2.map Prod.fst=p.cases.map CaseD.number
 lo4:LO (low4 p) (p.cases.map fun c=>getN c.number (low3 p).2)
 lo5:LO (LwD.cases (low3 p).2 p.cases (low4 p)) []
 fin:LI (lowerF p).parts (lowerF p).last []
theorem low_ok (p:PlanD) (hn:(p.cases.map CaseD.number).Nodup):Low p:=by
 obtain ⟨r1,r2,r3,r4,r5⟩:=starts_ok p.cases (lower0 p.default,[]) hn (by simp) (by simp) (LO.lower0 p.default)
 have hnames:(low3 p).2.map Prod.fst=p.cases.map CaseD.number:=by
  exact r2
 have hst:=starts_names hnames r3
 have r1:LO (low3 p).1 ((low3 p).2.map Prod.snd):=r1
 have h4:LO (low4 p) (p.cases.map fun c=>getN c.number (low3 p).2):=by
  refine LO.choose _ _ _ _ (fun c hc=>List.mem_map.2 ⟨c,hc,rfl⟩) ?_
  rw [hst]
  exact r1.put (r1.1.li.plain (.inl ⟨rfl,by decide,by decide⟩))
 have h5:LO (LwD.cases (low3 p).2 p.cases (low4 p)) []:=LO.cases p.cases (low4 p) (by rw [List.append_nil]; exact h4)
 refine ⟨r1,hnames,h4,h5,?_⟩
 unfold lowerF LwD.ends
 rw [h5.1.la.1]
 refine LI.ends _ _ (fun x hx=>getN_key h5.1.la.2 hx) ?_
 exact h5.1.li
end Go.AM
end
section
namespace Go.AM
set_option maxRecDepth 20000
theorem hi_toNat (x:BitVec 64):(hi32 x).toNat=x.toNat / 4294967296:=by
 unfold hi32
 have:=x.isLt
 rw [BitVec.toNat_setWidth,BitVec.toNat_ushiftRight,Nat.shiftRight_eq_div_pow,Nat.mod_eq_of_lt (by omega)]
theorem lo_toNat (x:BitVec 64):(lo32 x).toNat=x.toNat % 4294967296:=by
 unfold lo32
 rw [BitVec.toNat_setWidth]
theorem eq_halves (x y:BitVec 64):x=y↔hi32 x=hi32 y/\lo32 x=lo32 y:=by
 constructor
 ·rintro rfl; exact ⟨rfl,rfl⟩
 ·rintro ⟨h1,h2⟩
  apply BitVec.eq_of_toNat_eq
  have h1:=congrArg BitVec.toNat h1
  have h2:=congrArg BitVec.toNat h2
  rw [hi_toNat,hi_toNat] at h1
  rw [lo_toNat,lo_toNat] at h2
  omega
theorem gt_halves (x y:BitVec 64):y.toNat<x.toNat↔(hi32 y).toNat<(hi32 x).toNat\/(hi32 x=hi32 y/\(lo32 y).toNat<(lo32 x).toNat):=by
 rw [<- BitVec.toNat_inj,hi_toNat,hi_toNat,lo_toNat,lo_toNat]
 omega
theorem ge_halves (x y:BitVec 64):y.toNat<=x.toNat↔(hi32 y).toNat<(hi32 x).toNat\/(hi32 x=hi32 y/\(lo32 y).toNat<=(lo32 x).toNat):=by
 rw [<- BitVec.toNat_inj,hi_toNat,hi_toNat,lo_toNat,lo_toNat]
 omega
theorem hi_and (x y:BitVec 64):hi32 (x&&&y)=hi32 x&&&hi32 y:=by
 apply BitVec.eq_of_getLsbD_eq
 intro i hi
 simp [hi32,BitVec.getLsbD_setWidth,BitVec.getLsbD_ushiftRight,hi]
theorem lo_and (x y:BitVec 64):lo32 (x&&&y)=lo32 x&&&lo32 y:=by
 apply BitVec.eq_of_getLsbD_eq
 intro i hi
 simp [lo32,BitVec.getLsbD_setWidth,hi]
section
variable {r:RecD} {L:List PartD} {s:LwD}
def KAt (r:RecD) (L:List PartD) (s:LwD):Beh:=(den r (L.drop s.parts.length)).2
def atN (r:RecD) (L:List PartD) (n:Nat):Beh:=goTo (den r L).1 (n:Int)
def Pre (L:List PartD) (s:LwD):Prop:=s.parts <+: L
theorem Pre.back {p:PartD} (h:Pre L (s.put p)):Pre L s:=(List.prefix_append _ _).trans h
theorem Pre.drop {p:PartD} (h:Pre L (s.put p)):L.drop s.parts.length=p :: L.drop (s.put p).parts.length:=by
 obtain ⟨t,rfl⟩:=h
 have e1:(s.put p).parts=s.parts++[p]:=rfl
 rw [e1,List.append_assoc]
 simp [List.drop_append]
theorem den_look (r:RecD) {b:List PartD} {n:Int} (hn:n∈heres b):∀ a:List PartD,wfL (a++b)->alook n (den r (a++b)).1=alook n (den r b).1
 | [],_=>rfl
 | p :: a,w=>by
  have ih:=den_look r hn a w.tail
  show alook n (denStep r p (den r (a++b))).1=_
  unfold denStep
  by_cases h1:p.kind=1#8
  ·rw [if_pos h1]
   simp only [alook_cons]
   have:=(w [] p (a++b) rfl).1 h1
   rw [if_neg (fun e=>this (by rw [<- e,heres_app]; exact List.mem_append_right _ hn))]
   exact ih
  ·rw [if_neg h1]
   by_cases h4:p.kind=4#8
   ·rw [if_pos h4]; exact ih
   ·rw [if_neg h4]
    by_cases h3:p.kind=3#8
    ·rw [if_pos h3]; exact ih
    ·rw [if_neg h3]; exact ih
theorem goTo_drop (w:wfL L) {k:Nat} {n:Nat} (hn:(n:Int)∈heres (L.drop k)):goTo (den r (L.drop k)).1 n=atN r L n:=by
 unfold atN goTo
 have:=den_look r hn (L.take k) (by rw [List.take_append_drop]; exact w)
 rw [List.take_append_drop] at this
 rw [this]
theorem wf_at (w:wfL L) {p:PartD} (h:Pre L (s.put p)):(p.kind=1#8->p.to ∉ heres (L.drop (s.put p).parts.length))/\(p.kind=4#8->p.to∈heres (L.drop (s.put p).parts.length))/\(p.kind=3#8->p.to∈heres (L.drop (s.put p).parts.length)/\p.els∈heres (L.drop (s.put p).parts.length)):=by
 refine w (L.take s.parts.length) p _ ?_
 rw [<- Pre.drop h,List.take_append_drop]
theorem K_here (w:wfL L) {n:Nat} (h:Pre L (s.put (pHere n))):KAt r L s=KAt r L (s.put (pHere n))/\atN r L n=KAt r L (s.put (pHere n)):=by
 have hd:=Pre.drop h
 have hk:KAt r L s=KAt r L (s.put (pHere n)):=by
  unfold KAt
  rw [hd,den_cons]
  rfl
 refine ⟨hk,?_⟩
 have hm:(n:Int)∈heres (L.drop s.parts.length):=by rw [hd,heres_cons,if_pos (show (pHere n).kind=1#8 from rfl)]; exact List.mem_cons_self ..
 rw [<- goTo_drop w hm,hd,den_cons]
 unfold goTo denStep
 rw [if_pos (show (pHere n).kind=1#8 from rfl)]
 simp only [alook_cons]
 rw [if_pos (show (n:Int)=(pHere n).to from rfl)]
 rfl
theorem K_plain {x:InsnD} (h:Pre L (s.put (pPlain x))) (a:BitVec 32):KAt r L s a=match (stepI r x a).2.2 with | some o=>o | none=>KAt r L (s.put (pPlain x)) (stepI r x a).1:=by
 unfold KAt
 rw [Pre.drop h,den_cons]
 rfl
theorem K_load (hr:r.ok) {n:Nat} (hn:n<6) {b:Bool} {k:BitVec 32} (hk:k=BitVec.ofNat 32 (16+8*n+(if b then 4 else 0))) (h:Pre L (s.put (pPlain (iLoad k)))) (a:BitVec 32):KAt r L s a=KAt r L (s.put (pPlain (iLoad k))) (if b then hi32 (argAt r.args n) else lo32 (argAt r.args n)):=by
 rw [K_plain h a]
 have:stepI r (iLoad k) a=((rword r k).1,0,none):=rfl
 rw [this]
 have h2:=rword_arg r hr n hn b
 rw [<- hk] at h2
 simp only [h2]
 rfl
theorem K_mask {k:BitVec 32} (h:Pre L (s.put (pPlain (iMask k)))) (a:BitVec 32):KAt r L s a=KAt r L (s.put (pPlain (iMask k))) (a&&&k):=by
 rw [K_plain h a]; rfl
theorem K_goto (w:wfL L) {n:Nat} (h:Pre L (s.put (pGoto n))) (a:BitVec 32):KAt r L s a=atN r L n a:=by
 have hm:=(wf_at w h).2.1 rfl
 have hg:=goTo_drop (r:=r) w (n:=n) hm
 unfold KAt
 rw [Pre.drop h,den_cons,<- hg]
 rfl
theorem K_if (w:wfL L) {how:BitVec 16} {k:BitVec 32} {t e:Nat} (h:Pre L (s.put (pIf how k t e))) (a:BitVec 32):KAt r L s a=if testI (pIf how k t e).insn a=true then atN r L t a else atN r L e a:=by
 have hm:=(wf_at w h).2.2 rfl
 have h1:=goTo_drop (r:=r) w (n:=t) hm.1
 have h2:=goTo_drop (r:=r) w (n:=e) hm.2
 unfold KAt
 rw [Pre.drop h,den_cons,<- h1,<- h2]
 rfl
theorem test_eq (k a:BitVec 32) (t e:Nat):testI (pIf 16#16 k t e).insn a=decide (a=k):=rfl
theorem test_gt (k a:BitVec 32) (t e:Nat):testI (pIf 32#16 k t e).insn a=decide (k.toNat<a.toNat):=rfl
theorem test_ge (k a:BitVec 32) (t e:Nat):testI (pIf 48#16 k t e).insn a=decide (k.toNat<=a.toNat):=rfl
theorem clamp_in {n:Int} (h0:0<=n) (h5:n<=5):clampArg n=n.toNat:=by unfold clampArg; rw [if_neg (by omega),if_neg (by omega)]
theorem K_second (w:wfL L) (hr:r.ok) {c:CondD} (h0:0<=c.arg) (h5:c.arg<=5) {n:Nat} (h:Pre L (s.second c n)):∀ a,atN r L n a=KAt r L (s.second c n) (lo32 (argAt r.args c.arg.toNat)):=by
 intro a
 have hb:Pre L (s.put (pHere n)):=Pre.back (p:=pPlain (iLoad (halfOf c.arg false))) h
 rw [(K_here w hb).2]
 have:=K_load (b:=false) hr (n:=c.arg.toNat) (by omega) (k:=halfOf c.arg false) (by unfold halfOf; rw [clamp_in h0 h5]) h a
 rw [this]; rfl
theorem K_order64 (w:wfL L) (hr:r.ok) {c:CondD} (h0:0<=c.arg) (h5:c.arg<=5) {how:BitVec 16} {yes no:Nat} (h:Pre L (s.order64 c how yes no)) {vy vn:BitVec 32} (hy:∀ a,atN r L yes a=vy) (hn:∀ a,atN r L no a=vn) :
  KAt r L s (hi32 (argAt r.args c.arg.toNat))=if (hi32 c.value).toNat<(hi32 (argAt r.args c.arg.toNat)).toNat\/(hi32 (argAt r.args c.arg.toNat)=hi32 c.value/\testI (pIf how (lo32 c.value) yes no).insn (lo32 (argAt r.args c.arg.toNat))=true) then vy else vn:=by
 unfold LwD.order64 at h
 simp only at h
 have h2:=Pre.back h
 have h3:Pre L (((s.new.new.put (pIf 32#16 (hi32 c.value) yes (s.last+1))).put (pHere (s.last+1))).put (pIf 16#16 (hi32 c.value) (s.last+2) no)):=Pre.back (p:=pHere (s.last+2)) (Pre.back (p:=pPlain (iLoad (halfOf c.arg false))) h2)
 have h4:=Pre.back h3
 have h5':=Pre.back h4
 have e1:=K_if (r:=r) w h5' (hi32 (argAt r.args c.arg.toNat))
 have e2:=(K_here (r:=r) w h4).2
 have e3:=K_if (r:=r) w h3 (hi32 (argAt r.args c.arg.toNat))
 have e4:=K_second (r:=r) w hr h0 h5 h2
 have e5:=K_if (r:=r) w h (lo32 (argAt r.args c.arg.toNat))
 have e0:KAt r L s (hi32 (argAt r.args c.arg.toNat))=KAt r L s.new.new (hi32 (argAt r.args c.arg.toNat)):=rfl
 rw [e0,e1,test_gt,e2,e3,test_eq,e4,e5,hy,hy,hn,hn]
 generalize hi32 (argAt r.args c.arg.toNat)=xh
 generalize testI (pIf how (lo32 c.value) yes no).insn (lo32 (argAt r.args c.arg.toNat))=b
 by_cases c1:(hi32 c.value).toNat<xh.toNat
 ·simp [c1]
 ·by_cases c2:xh=hi32 c.value
  ·simp [c2]
  ·simp [c1,c2]
theorem K_cond (w:wfL L) (hr:r.ok) {c:CondD} (h0:0<=c.arg) (h5:c.arg<=5) {yes no:Nat} (h:Pre L (s.cond c yes no)) {vy vn:BitVec 32} (hy:∀ a,atN r L yes a=vy) (hn:∀ a,atN r L no a=vn) (a:BitVec 32) :
  KAt r L s a=if holds c r.args=true then vy else vn:=by
 unfold LwD.cond at h
 have hp:Pre L (s.new.put (pPlain (iLoad (halfOf c.arg true)))):=by
  unfold LwD.condOn at h
  split at h
  ·exact Pre.back (p:=pIf 16#16 (hi32 c.value) (s.last+1) no) (Pre.back (p:=pHere (s.last+1)) (Pre.back (p:=pPlain (iLoad (halfOf c.arg false))) (Pre.back h)))
  split at h
  ·exact Pre.back (p:=pIf 16#16 (hi32 c.value) (s.last+1) yes) (Pre.back (p:=pHere (s.last+1)) (Pre.back (p:=pPlain (iLoad (halfOf c.arg false))) (Pre.back h)))
  have o64:∀ (t:LwD) (how:BitVec 16) (y n:Nat),Pre L (t.order64 c how y n)->Pre L t:=fun t how y n h=>by
   unfold LwD.order64 at h
   exact Pre.back (s:=t.new.new) (Pre.back (Pre.back (Pre.back (p:=pHere (t.last+2)) (Pre.back (p:=pPlain (iLoad (halfOf c.arg false))) (Pre.back h)))))
  split at h
  ·exact o64 _ _ _ _ h
  split at h
  ·exact o64 _ _ _ _ h
  split at h
  ·exact o64 _ _ _ _ h
  split at h
  ·exact o64 _ _ _ _ h
  split at h
  ·exact Pre.back (p:=pPlain (iMask (hi32 c.mask))) (Pre.back (p:=pIf 16#16 (hi32 c.value) (s.last+1) no) (Pre.back (p:=pHere (s.last+1)) (Pre.back (p:=pPlain (iLoad (halfOf c.arg false))) (Pre.back (Pre.back h)))))
  ·exact Pre.back h
 have e0:KAt r L s a=KAt r L s.new a:=rfl
 have e1:=K_load (r:=r) (b:=true) hr (n:=c.arg.toNat) (by omega) (k:=halfOf c.arg true) (by unfold halfOf; rw [clamp_in h0 h5]) hp a
 rw [e0,e1]
 simp only [if_true]
 have hh:holds c r.args=holdsOf c.op.toNat c.mask c.value (argAt r.args c.arg.toNat):=by unfold holds; rw [if_neg (by omega)]
 rw [hh]
 unfold holdsOf
 generalize s.new.put (pPlain (iLoad (halfOf c.arg true)))=t at *
 generalize s.last+1=next at *
 have opn:∀ k:BitVec 8,(c.op.toNat=k.toNat)↔c.op=k:=fun k=>BitVec.toNat_inj
 have n1:c.op.toNat=1↔c.op=1#8:=opn 1#8
 have n2:c.op.toNat=2↔c.op=2#8:=opn 2#8
 have n3:c.op.toNat=3↔c.op=3#8:=opn 3#8
 have n4:c.op.toNat=4↔c.op=4#8:=opn 4#8
 have n5:c.op.toNat=5↔c.op=5#8:=opn 5#8
 have n6:c.op.toNat=6↔c.op=6#8:=opn 6#8
 have n7:c.op.toNat=7↔c.op=7#8:=opn 7#8
 simp only [n1,n2,n3,n4,n5,n6,n7]
 have hc:=h
 unfold LwD.condOn at hc
 by_cases o1:c.op=1#8
 ·rw [if_pos o1] at hc ⊢
  have h2:=Pre.back hc
  have h3:Pre L (t.put (pIf 16#16 (hi32 c.value) next no)):=Pre.back (p:=pHere next) (Pre.back (p:=pPlain (iLoad (halfOf c.arg false))) h2)
  rw [K_if w h3,test_eq,K_second w hr h0 h5 h2,K_if w hc,test_eq,hy,hn,hn]
  generalize argAt r.args c.arg.toNat=x
  simp only [decide_eq_true_eq,eq_halves x c.value]
  by_cases c1:hi32 x=hi32 c.value <;> by_cases c2:lo32 x=lo32 c.value <;> simp [c1,c2]
 rw [if_neg o1] at hc ⊢
 by_cases o2:c.op=2#8
 ·rw [if_pos o2] at hc ⊢
  have h2:=Pre.back hc
  have h3:Pre L (t.put (pIf 16#16 (hi32 c.value) next yes)):=Pre.back (p:=pHere next) (Pre.back (p:=pPlain (iLoad (halfOf c.arg false))) h2)
  rw [K_if w h3,test_eq,K_second w hr h0 h5 h2,K_if w hc,test_eq,hy,hy,hn]
  generalize argAt r.args c.arg.toNat=x
  simp only [decide_eq_true_eq,ne_eq,eq_halves x c.value]
  by_cases c1:hi32 x=hi32 c.value <;> by_cases c2:lo32 x=lo32 c.value <;> simp [c1,c2]
 rw [if_neg o2] at hc ⊢
 by_cases o5:c.op=5#8
 ·rw [if_pos o5] at hc
  have o3:c.op≠3#8:=by rw [o5]; decide
  have o4:c.op≠4#8:=by rw [o5]; decide
  rw [if_neg o3,if_neg o4,if_pos o5,K_order64 w hr h0 h5 hc hy hn,test_gt]
  simp only [decide_eq_true_eq,gt_halves]
 rw [if_neg o5] at hc
 by_cases o6:c.op=6#8
 ·rw [if_pos o6] at hc
  have o3:c.op≠3#8:=by rw [o6]; decide
  have o4:c.op≠4#8:=by rw [o6]; decide
  rw [if_neg o3,if_neg o4,if_neg o5,if_pos o6,K_order64 w hr h0 h5 hc hy hn,test_ge]
  simp only [decide_eq_true_eq,ge_halves]
 rw [if_neg o6] at hc
 by_cases o3:c.op=3#8
 ·rw [if_pos o3] at hc
  rw [if_pos o3,K_order64 w hr h0 h5 hc hn hy,test_ge]
  simp only [decide_eq_true_eq,<- ge_halves]
  generalize argAt r.args c.arg.toNat=x
  by_cases hx:c.value.toNat<=x.toNat
  ·rw [if_pos hx,if_neg (by omega)]
  ·rw [if_neg hx,if_pos (by omega)]
 rw [if_neg o3] at hc ⊢
 by_cases o4:c.op=4#8
 ·rw [if_pos o4] at hc
  rw [if_pos o4,K_order64 w hr h0 h5 hc hn hy,test_gt]
  simp only [decide_eq_true_eq,<- gt_halves]
  generalize argAt r.args c.arg.toNat=x
  by_cases hx:c.value.toNat<x.toNat
  ·rw [if_pos hx,if_neg (by omega)]
  ·rw [if_neg hx,if_pos (by omega)]
 rw [if_neg o4] at hc ⊢
 rw [if_neg o5,if_neg o6]
 by_cases o7:c.op=7#8
 ·rw [if_pos o7] at hc ⊢
  have h2:=Pre.back hc
  have h3:=Pre.back h2
  have h4:Pre L ((t.put (pPlain (iMask (hi32 c.mask)))).put (pIf 16#16 (hi32 c.value) next no)):=Pre.back (p:=pHere next) (Pre.back (p:=pPlain (iLoad (halfOf c.arg false))) h3)
  rw [K_mask (Pre.back h4),K_if w h4,test_eq,K_second w hr h0 h5 h3,K_mask h2,K_if w hc,test_eq,hy,hn,hn]
  generalize argAt r.args c.arg.toNat=x
  simp only [decide_eq_true_eq,eq_halves (x&&&c.mask) c.value,hi_and,lo_and]
  by_cases c1:hi32 x&&&hi32 c.mask=hi32 c.value <;> by_cases c2:lo32 x&&&lo32 c.mask=lo32 c.value <;> simp [c1,c2]
 ·rw [if_neg o7] at hc ⊢
  rw [K_goto w hc,hn]
  simp
end
end Go.AM
end
section
namespace Go.AM
set_option maxRecDepth 20000
section
variable {r:RecD} {L:List PartD}
theorem pre_put (s:LwD) (p:PartD):s.parts <+: (s.put p).parts:=List.prefix_append _ _
theorem pre_order64 (t:LwD) (c:CondD) (how:BitVec 16) (y n:Nat):t.parts <+: (t.order64 c how y n).parts:=by
 unfold LwD.order64 LwD.second
 simp only [LwD.put,LwD.new,List.append_assoc]
 exact List.prefix_append _ _
theorem pre_cond (s:LwD) (c:CondD) (y n:Nat):s.parts <+: (s.cond c y n).parts:=by
 unfold LwD.cond
 refine List.IsPrefix.trans (l₂:=(s.new.put (pPlain (iLoad (halfOf c.arg true)))).parts) (List.prefix_append _ _) ?_
 generalize s.new.put (pPlain (iLoad (halfOf c.arg true)))=t
 unfold LwD.condOn LwD.second
 split
 ·simp only [LwD.put,List.append_assoc]; exact List.prefix_append _ _
 split
 ·simp only [LwD.put,List.append_assoc]; exact List.prefix_append _ _
 split
 ·exact pre_order64 ..
 split
 ·exact pre_order64 ..
 split
 ·exact pre_order64 ..
 split
 ·exact pre_order64 ..
 split
 ·simp only [LwD.put,List.append_assoc]; exact List.prefix_append _ _
 ·exact List.prefix_append _ _
theorem pre_step (no:Nat) (s:LwD) (c:CondD):s.parts <+: (LwD.condStep no s c).parts:=(pre_cond s.new c _ _).trans (List.prefix_append _ _)
theorem pre_conds (no:Nat):∀ (l:List CondD) (s:LwD),s.parts <+: (LwD.conds no l s).parts
 | [],_=>List.prefix_refl _
 | c :: l,s=>(pre_step no s c).trans (pre_conds no l _)
theorem pre_act (s:LwD) (a:BitVec 32):s.parts <+: (s.act a).1.parts:=by rw [(act_keeps s a).1]; exact List.prefix_refl _
theorem pre_branch (s:LwD) (b:BranchD):s.parts <+: (s.branch b).parts:=by
 unfold LwD.branch
 exact ((pre_conds _ b.conds s.new).trans (pre_act _ _)).trans ((List.prefix_append _ _).trans (List.prefix_append _ _))
theorem pre_foldb:∀ (l:List BranchD) (s:LwD),s.parts <+: (l.foldl LwD.branch s).parts
 | [],_=>List.prefix_refl _
 | b :: l,s=>(pre_branch s b).trans (pre_foldb l _)
theorem pre_branches (l:List BranchD) (s:LwD):s.parts <+: (LwD.branches l s).parts:=(pre_foldb l s).trans (List.prefix_append _ _)
theorem pre_case1 (st:List (BitVec 32×Nat)) (s:LwD) (c:CaseD):s.parts <+: (LwD.case1 st s c).parts:=(pre_put s (pHere (getN c.number st))).trans (pre_branches c.branches _)
theorem pre_cases (st:List (BitVec 32×Nat)):∀ (l:List CaseD) (s:LwD),s.parts <+: (LwD.cases st l s).parts
 | [],_=>List.prefix_refl _
 | c :: l,s=>(pre_case1 st s c).trans (pre_cases st l _)
theorem pre_choose (st:List (BitVec 32×Nat)):∀ (f:Nat) (l:List CaseD) (s:LwD),s.parts <+: (LwD.choose st f l s).parts
 | 0,_,_=>List.prefix_refl _
 | f+1,l,s=>by
  unfold LwD.choose
  split
  ·exact List.prefix_append _ _
  split
  ·exact List.prefix_append _ _
  ·refine List.IsPrefix.trans ?_ (pre_choose st f _ _)
   refine List.IsPrefix.trans ?_ (List.prefix_append _ _)
   refine List.IsPrefix.trans ?_ (pre_choose st f _ _)
   exact (List.prefix_append _ _).trans (List.prefix_append _ _)
theorem pre_end (A:List (BitVec 32×Nat)):∀ (l:List (BitVec 32)) (s:LwD),s.parts <+: (l.foldl (LwD.end1 A) s).parts
 | [],_=>List.prefix_refl _
 | a :: l,s=>((pre_put s (pHere (getN a A))).trans (pre_put _ (pPlain (iRet a)))).trans (pre_end A l (LwD.end1 A s a))
theorem KeepA.choose (st:List (BitVec 32×Nat)):∀ (f:Nat) (l:List CaseD) (s:LwD),KeepA s (LwD.choose st f l s)
 | 0,_,_=>⟨rfl,rfl,rfl⟩
 | f+1,l,s=>by
  unfold LwD.choose
  split
  ·exact ⟨rfl,rfl,rfl⟩
  split
  ·exact ⟨rfl,rfl,rfl⟩
  ·have k0:KeepA s ((s.new.new.put (pIf 48#16 (numAt l (l.length / 2)) (s.last+2) (s.last+1))).put (pHere (s.last+1))):=⟨rfl,rfl,rfl⟩
   have k1:=KeepA.choose st f (l.take (l.length / 2)) ((s.new.new.put (pIf 48#16 (numAt l (l.length / 2)) (s.last+2) (s.last+1))).put (pHere (s.last+1)))
   exact ((k0.trans k1).trans (KeepA.put _ (pHere (s.last+2)))).trans (KeepA.choose st f (l.drop (l.length / 2)) _)
def inCs (l:List CondD):Prop:=∀ c∈l,0<=c.arg/\c.arg<=5
theorem K_conds (w:wfL L) (hr:r.ok) {no:Nat} {vn v:BitVec 32} (hn:∀ a,atN r L no a=vn):∀ (l:List CondD) (s:LwD),inCs l->Pre L (LwD.conds no l s)->(∀ a,KAt r L (LwD.conds no l s) a=v)->∀ a,KAt r L s a=if holdAll l r=true then v else vn
 | [],s,_,_,hv,a=>by
  have:holdAll [] r=true:=rfl
  rw [if_pos this]
  exact hv a
 | c :: l,s,hi,h,hv,a=>by
  have hp:Pre L (LwD.condStep no s c):=(pre_conds no l _).trans h
  have ih:=K_conds w hr hn l (LwD.condStep no s c) (fun x hx=>hi x (List.mem_cons_of_mem _ hx)) h hv
  have hh:=(K_here (r:=r) w (s:=s.new.cond c (s.last+1) no) (n:=s.last+1) hp).2
  have hc:=hi c (List.mem_cons_self ..)
  have:=K_cond w hr hc.1 hc.2 (s:=s.new) (yes:=s.last+1) (no:=no) (Pre.back hp) (vy:=if holdAll l r=true then v else vn) (vn:=vn) (fun a=>by rw [hh]; exact ih a) hn a
  have e0:KAt r L s a=KAt r L s.new a:=rfl
  rw [e0,this]
  have e1:holdAll (c :: l) r=(holds c r.args&&holdAll l r):=rfl
  rw [e1]
  cases holds c r.args <;> simp
def AtA (r:RecD) (L:List PartD) (A:List (BitVec 32×Nat)):Prop:=∀ x∈A,∀ a,atN r L x.2 a=x.1
theorem K_branch (w:wfL L) (hr:r.ok) {A:List (BitVec 32×Nat)} (hA:AtA r L A) {s:LwD} {b:BranchD} (hi:inCs b.conds) (h:Pre L (s.branch b)) (hs:∀ x∈(s.branch b).acts,x∈A) {v:BitVec 32} (hv:∀ a,KAt r L (s.branch b) a=v) (a:BitVec 32) :
  KAt r L s a=if holdAll b.conds r=true then b.action else v:=by
 have hm:=hs _ (act_look (LwD.conds (s.last+1) b.conds s.new) b.action)
 have hact:=hA _ hm
 have h1:=(K_here (r:=r) w (s:=((LwD.conds (s.last+1) b.conds s.new).act b.action).1.put (pGoto ((LwD.conds (s.last+1) b.conds s.new).act b.action).2)) (n:=s.last+1) h).2
 have h2:=K_goto (r:=r) w (s:=((LwD.conds (s.last+1) b.conds s.new).act b.action).1) (n:=((LwD.conds (s.last+1) b.conds s.new).act b.action).2) (Pre.back h)
 have hp:Pre L (LwD.conds (s.last+1) b.conds s.new):=(pre_act _ _).trans (Pre.back (Pre.back h))
 have e1:∀ a,KAt r L (LwD.conds (s.last+1) b.conds s.new) a=b.action:=fun a=>by
  have:KAt r L (LwD.conds (s.last+1) b.conds s.new)=KAt r L ((LwD.conds (s.last+1) b.conds s.new).act b.action).1:=by unfold KAt; rw [(act_keeps _ _).1]
  rw [this,h2 a,hact a]
 have:=K_conds w hr (no:=s.last+1) (vn:=v) (v:=b.action) (fun a=>by rw [h1]; exact hv a) b.conds s.new hi hp e1 a
 exact this
theorem decideB_cons (d:BitVec 32) (b:BranchD) (l:List BranchD) (r:RecD):decideB d (b :: l) r=if holdAll b.conds r=true then b.action else decideB d l r:=by
 unfold decideB
 rw [List.find?_cons]
 cases holdAll b.conds r <;> rfl
theorem K_foldb (w:wfL L) (hr:r.ok) {A:List (BitVec 32×Nat)} (hA:AtA r L A) {d:BitVec 32}:∀ (l:List BranchD) (s:LwD),(∀ b∈l,inCs b.conds)->Pre L (l.foldl LwD.branch s)->(∀ x∈(l.foldl LwD.branch s).acts,x∈A)->(∀ a,KAt r L (l.foldl LwD.branch s) a=d)->∀ a,KAt r L s a=decideB d l r
 | [],s,_,_,_,hv,a=>hv a
 | b :: l,s,hi,h,hs,hv,a=>by
  have hp:Pre L (s.branch b):=(pre_foldb l _).trans h
  have hsub:∀ x∈(s.branch b).acts,x∈A:=fun x hx=>hs x (by
   have:∀ (l:List BranchD) (s:LwD),∀ x∈s.acts,x∈(l.foldl LwD.branch s).acts:=fun l=>by
    induction l with
    | nil=>exact fun s x hx=>hx
    | cons b l ih=>exact fun s x hx=>ih _ x ((branch_other s b).2 x hx)
   exact this l _ x hx)
  have ih:=K_foldb w hr hA l (s.branch b) (fun b hb=>hi b (List.mem_cons_of_mem _ hb)) h hs hv
  rw [K_branch w hr hA (hi b (List.mem_cons_self ..)) hp hsub ih a,decideB_cons]
theorem foldb_keep:∀ (l:List BranchD) (s:LwD),(l.foldl LwD.branch s).other=s.other/\∀ x∈s.acts,x∈(l.foldl LwD.branch s).acts
 | [],s=>⟨rfl,fun _ hx=>hx⟩
 | b :: l,s=>by
  obtain ⟨h2,h3⟩:=foldb_keep l (s.branch b)
  obtain ⟨k1,k2⟩:=branch_other s b
  exact ⟨h2.trans k1,fun x hx=>h3 x (k2 x hx)⟩
theorem K_case1 (w:wfL L) (hr:r.ok) {A:List (BitVec 32×Nat)} (hA:AtA r L A) {st:List (BitVec 32×Nat)} {s:LwD} {c:CaseD} (hi:∀ b∈c.branches,inCs b.conds) (h:Pre L (LwD.case1 st s c)) (hs:∀ x∈(LwD.case1 st s c).acts,x∈A) {d:BitVec 32} (ho:∀ a,atN r L s.other a=d) :
  ∀ a,atN r L (getN c.number st) a=decideB d c.branches r:=by
 intro a
 have hb:Pre L (s.put (pHere (getN c.number st))):=(pre_branches c.branches _).trans h
 rw [(K_here w hb).2]
 refine K_foldb w hr hA c.branches _ hi (Pre.back (p:=pGoto (c.branches.foldl LwD.branch (s.put (pHere (getN c.number st)))).other) h) hs (fun a =>?_) a
 rw [K_goto w (s:=c.branches.foldl LwD.branch (s.put (pHere (getN c.number st)))) h,(foldb_keep c.branches _).1]
 exact ho a
theorem K_cases (w:wfL L) (hr:r.ok) {A:List (BitVec 32×Nat)} (hA:AtA r L A) {st:List (BitVec 32×Nat)} {d:BitVec 32}:∀ (l:List CaseD) (s:LwD),(∀ c∈l,∀ b∈c.branches,inCs b.conds)->Pre L (LwD.cases st l s)->(∀ x∈(LwD.cases st l s).acts,x∈A)->(∀ a,atN r L s.other a=d) ->
  ∀ c∈l,∀ a,atN r L (getN c.number st) a=decideB d c.branches r
 | [],_,_,_,_,_,c,hc,_=>by cases hc
 | x :: l,s,hi,h,hs,ho,c,hc,a=>by
  have hp:Pre L (LwD.case1 st s x):=(pre_cases st l _).trans h
  have k1:(LwD.case1 st s x).other=s.other:=(foldb_keep x.branches (s.put (pHere (getN x.number st)))).1
  have sub:∀ (l:List CaseD) (s:LwD),∀ y∈s.acts,y∈(LwD.cases st l s).acts:=fun l=>by
   induction l with
   | nil=>exact fun s y hy=>hy
   | cons z l ih=>exact fun s y hy=>ih (LwD.case1 st s z) y ((foldb_keep z.branches (s.put (pHere (getN z.number st)))).2 y hy)
  rcases List.mem_cons.1 hc with rfl | hc
  ·exact K_case1 w hr hA (hi c (List.mem_cons_self ..)) hp (fun y hy=>hs y (sub l _ y hy)) ho a
  ·exact K_cases w hr hA l (LwD.case1 st s x) (fun c hc=>hi c (List.mem_cons_of_mem _ hc)) h hs (by rw [k1]; exact ho) c hc a
theorem K_ends (w:wfL L) {A:List (BitVec 32×Nat)}:∀ (l:List (BitVec 32×Nat)) (s:LwD),(∀ x∈l,getN x.1 A=x.2)->Pre L ((l.map Prod.fst).foldl (LwD.end1 A) s)->AtA r L l
 | [],_,_,_=>fun x hx=>by cases hx
 | y :: l,s,hx,h=>by
  rw [List.map_cons,List.foldl_cons] at h
  have hp:Pre L (LwD.end1 A s y.1):=(pre_end A _ _).trans h
  intro x hm a
  rcases List.mem_cons.1 hm with rfl | hm
  ·unfold LwD.end1 at hp
   rw [hx x (List.mem_cons_self ..)] at hp
   rw [(K_here w (Pre.back hp)).2,K_plain hp]
   rfl
  ·exact K_ends w l _ (fun z hz=>hx z (List.mem_cons_of_mem _ hz)) h x hm a
def caseV (F:CaseD->BitVec 32) (d:BitVec 32) (l:List CaseD) (n:BitVec 32):BitVec 32:=match l.find? fun c=>decide (c.number=n) with
 | none=>d
 | some c=>F c
theorem K_choose (w:wfL L) {st:List (BitVec 32×Nat)} {F:CaseD->BitVec 32} {d n:BitVec 32}:∀ (f:Nat) (l:List CaseD) (s:LwD),l.length<f->Pre L (LwD.choose st f l s)->(l.Pairwise fun a b=>a.number.toNat<b.number.toNat) ->
  (∀ c∈l,∀ a,atN r L (getN c.number st) a=F c)->(∀ a,atN r L s.other a=d)->KAt r L s n=caseV F d l n
 | 0,_,_,hf,_,_,_,_=>by omega
 | f+1,l,s,hf,h,hp,hF,ho=>by
  unfold LwD.choose at h
  by_cases h0:l.length=0
  ·rw [if_pos h0] at h
   have:l=[]:=List.eq_nil_of_length_eq_zero h0
   subst this
   rw [K_goto w h,ho]; rfl
  rw [if_neg h0] at h
  by_cases h1:l.length=1
  ·rw [if_pos h1] at h
   obtain ⟨c,rfl⟩:=List.length_eq_one_iff.1 h1
   have hn0:numAt [c] 0=c.number:=rfl
   rw [hn0] at h
   rw [K_if w h,test_eq,hF c (List.mem_singleton.2 rfl),ho]
   unfold caseV
   by_cases hc:n=c.number
   ·simp [hc]
   ·have hc':¬ c.number=n:=fun e=>hc e.symm
    simp [hc,hc']
  rw [if_neg h1] at h
  have hhalf:l.length / 2<l.length:=by omega
  rw [numAt_eq hhalf] at h
  have p5:=(pre_choose st f (l.drop (l.length / 2)) _).trans h
  have p4:=Pre.back p5
  have p3:=(pre_choose st f (l.take (l.length / 2)) _).trans p4
  have p2:=Pre.back p3
  have k1:=K_if (r:=r) w p2 n
  have k2:=(K_here (r:=r) w p3).2
  have k3:=(K_here (r:=r) w p5).2
  have oth:∀ a,atN r L ((LwD.choose st f (l.take (l.length / 2)) ((s.new.new.put (pIf 48#16 l[l.length / 2].number (s.last+2) (s.last+1))).put (pHere (s.last+1)))).put (pHere (s.last+2))).other a=d:=by
   have:((LwD.choose st f (l.take (l.length / 2)) ((s.new.new.put (pIf 48#16 l[l.length / 2].number (s.last+2) (s.last+1))).put (pHere (s.last+1)))).put (pHere (s.last+2))).other=s.other:=(KeepA.choose st f (l.take (l.length / 2)) _).2.1
   rw [this]; exact ho
  have i1:=K_choose w (F:=F) (d:=d) (n:=n) f (l.take (l.length / 2)) _ (by rw [List.length_take]; omega) p4 (hp.sublist (List.take_sublist _ _)) (fun c hc=>hF c (List.mem_of_mem_take hc)) ho
  have i2:=K_choose w (F:=F) (d:=d) (n:=n) f (l.drop (l.length / 2)) _ (by rw [List.length_drop]; omega) h (hp.sublist (List.drop_sublist _ _)) (fun c hc=>hF c (List.mem_of_mem_drop hc)) oth
  have e0:KAt r L s n=KAt r L s.new.new n:=rfl
  rw [e0,k1,test_ge,k2,k3,i1,i2]
  have hsplit:l=l.take (l.length / 2)++l.drop (l.length / 2):=(List.take_append_drop _ _).symm
  have hlow:∀ c∈l.take (l.length / 2),c.number.toNat<l[l.length / 2].number.toNat:=by
   intro c hc
   obtain ⟨j,hj,rfl⟩:=List.getElem_of_mem hc
   rw [List.length_take] at hj
   rw [List.getElem_take]
   exact List.pairwise_iff_getElem.1 hp j (l.length / 2) (by omega) hhalf (by omega)
  have hhigh:∀ c∈l.drop (l.length / 2),l[l.length / 2].number.toNat<=c.number.toNat:=by
   intro c hc
   obtain ⟨j,hj,rfl⟩:=List.getElem_of_mem hc
   rw [List.length_drop] at hj
   rw [List.getElem_drop]
   rcases Nat.eq_zero_or_pos j with rfl | hj0
   ·exact Nat.le_refl _
   ·exact Nat.le_of_lt (List.pairwise_iff_getElem.1 hp (l.length / 2) (l.length / 2+j) hhalf (by omega) (by omega))
  have key:caseV F d l n=if l[l.length / 2].number.toNat<=n.toNat then caseV F d (l.drop (l.length / 2)) n else caseV F d (l.take (l.length / 2)) n:=by
   have hfd:l.find? (fun c=>decide (c.number=n))=((l.take (l.length / 2)).find? (fun c=>decide (c.number=n))).or ((l.drop (l.length / 2)).find? (fun c=>decide (c.number=n))):=by
    conv=>lhs; rw [hsplit]
    rw [List.find?_append]
   by_cases hle:l[l.length / 2].number.toNat<=n.toNat
   ·rw [if_pos hle]
    unfold caseV
    have hnone:(l.take (l.length / 2)).find? (fun c=>decide (c.number=n))=none:=by
     rw [List.find?_eq_none]
     intro c hc he
     have:=hlow c hc
     rw [of_decide_eq_true he] at this
     omega
    rw [hfd,hnone,Option.none_or]
   ·rw [if_neg hle]
    unfold caseV
    have hnone:(l.drop (l.length / 2)).find? (fun c=>decide (c.number=n))=none:=by
     rw [List.find?_eq_none]
     intro c hc he
     have:=hhigh c hc
     rw [of_decide_eq_true he] at this
     omega
    rw [hfd,hnone,Option.or_none]
  rw [key]
  by_cases hc:l[l.length / 2].number.toNat<=n.toNat
  ·rw [if_pos (decide_eq_true hc),if_pos hc]
  ·rw [if_neg (by simpa using hc),if_neg hc]
end
theorem low_says (p:PlanD) (hp:p.cases.Pairwise fun a b=>a.number.toNat<b.number.toNat) (hi:∀ c∈p.cases,∀ b∈c.branches,inCs b.conds) (r:RecD) (hr:r.ok) (a:BitVec 32) :
  (den r (lowerF p).parts).2 a=decideF p r:=by
 have hnd:(p.cases.map CaseD.number).Nodup:=by
  rw [List.nodup_iff_pairwise_ne,List.pairwise_map]
  exact hp.imp fun h e=>by rw [e] at h; omega
 have hl:=low_ok p hnd
 have w:=hl.fin.wf
 generalize hL:(lowerF p).parts=L at *
 have q5:Pre L (LwD.cases (low3 p).2 p.cases (low4 p)):=by
  show _ <+: L
  rw [<- hL]
  exact pre_end _ _ _
 have q4:Pre L (low4 p):=(pre_cases _ _ _).trans q5
 have q3:Pre L ((low3 p).1.put (pPlain (iLoad 0#32))):=(pre_choose _ _ _ _).trans q4
 obtain ⟨_,_,_,r4,r5⟩:=starts_ok p.cases (lower0 p.default,[]) hnd (by simp) (by simp) (LO.lower0 p.default)
 have r4:(low3 p).1.parts=(lower0 p.default).parts:=r4
 have r5:KeepA (lower0 p.default) (low3 p).1:=r5
 have q2:Pre L (lower0 p.default):=by
  show _ <+: L
  rw [<- r4]
  exact Pre.back q3
 have hla:=hl.lo5.1.la
 have hA:AtA r L (LwD.cases (low3 p).2 p.cases (low4 p)).acts:=by
  refine K_ends w (A:=(LwD.cases (low3 p).2 p.cases (low4 p)).acts) _ (LwD.cases (low3 p).2 p.cases (low4 p)) (fun x hx=>getN_key hla.2 hx) ?_
  show _ <+: L
  rw [<- hL,<- hla.1]
  exact List.prefix_refl _
 have hkc:=KeepA.choose (low3 p).2 (p.cases.length+1) p.cases ((low3 p).1.put (pPlain (iLoad 0#32)))
 have acts4:(low4 p).acts=(lower0 p.default).acts:=hkc.1.trans r5.1
 have oth4:(low4 p).other=(lower0 p.default).other:=hkc.2.1.trans r5.2.1
 have sub5:∀ x∈(lower0 p.default).acts,x∈(LwD.cases (low3 p).2 p.cases (low4 p)).acts:=by
  rw [<- acts4]
  have:∀ (l:List CaseD) (s:LwD),∀ y∈s.acts,y∈(LwD.cases (low3 p).2 l s).acts:=fun l=>by
   induction l with
   | nil=>exact fun s y hy=>hy
   | cons z l ih=>exact fun s y hy=>ih (LwD.case1 (low3 p).2 s z) y ((foldb_keep z.branches (s.put (pHere (getN z.number (low3 p).2)))).2 y hy)
  exact this p.cases (low4 p)
 have hother:∀ a,atN r L (lower0 p.default).other a=p.default:=by
  have h1:=act_look LwD.zero p.default
  have h2:(p.default,(low1 p.default).other)∈(lower0 p.default).acts:=act_sub (low1 p.default) _ _ h1
  have h3:(lower0 p.default).other=(low1 p.default).other:=(act_keeps (low1 p.default) 2147483648#32).2
  rw [h3]
  exact hA _ (sub5 _ h2)
 have hkill:∀ a,atN r L (low2 p.default).2 a=2147483648#32:=by
  have h1:=act_look (low1 p.default) 2147483648#32
  exact hA _ (sub5 _ h1)
 have hcases:=K_cases (r:=r) w hr hA (st:=(low3 p).2) (d:=p.default) p.cases (low4 p) hi q5 (fun x hx=>hx) (by rw [oth4]; exact hother)
 have w0:rword r 0#32=(r.number,true):=rfl
 have w4:rword r 4#32=(r.arch,true):=rfl
 have hnum:∀ a,KAt r L (lower0 p.default) a=match p.cases.find? (fun c=>decide (c.number=r.number)) with | none=>p.default | some c=>decideB p.default c.branches r:=by
  intro a
  have e1:KAt r L (lower0 p.default)=KAt r L (low3 p).1:=by unfold KAt; rw [r4]
  rw [e1,K_plain q3 a]
  have hs:stepI r (iLoad 0#32) a=((rword r 0#32).1,0,none):=rfl
  rw [hs,w0]
  simp only
  rw [K_choose w (F:=fun c=>decideB p.default c.branches r) (d:=p.default) (p.cases.length+1) p.cases _ (Nat.lt_succ_self _) q4 hp hcases (fun a =>?_)]
  ·rfl
  ·show atN r L (low3 p).1.other a=_
   rw [r5.2.1]; exact hother a
 have hq1:=Pre.back (s:=((low2 p.default).1.new.put (pPlain (iLoad 4#32))).put (pIf 16#16 3221225534#32 ((low2 p.default).1.last+1) (low2 p.default).2)) (p:=pHere ((low2 p.default).1.last+1)) q2
 have hq0:=Pre.back hq1
 have hown:=(K_here (r:=r) w (s:=((low2 p.default).1.new.put (pPlain (iLoad 4#32))).put (pIf 16#16 3221225534#32 ((low2 p.default).1.last+1) (low2 p.default).2)) q2).2
 have hown:atN r L ((low2 p.default).1.last+1)=KAt r L (lower0 p.default):=hown
 have hz:(low2 p.default).1.parts=[]:=by
  show ((low1 p.default).act _).1.parts=[]
  rw [(act_keeps _ _).1]
  show (LwD.zero.act p.default).1.parts=[]
  rw [(act_keeps _ _).1]; rfl
 have hstart:(den r L).2 a=KAt r L (low2 p.default).1.new a:=by
  unfold KAt
  have:(low2 p.default).1.new.parts=[]:=hz
  rw [this]; rfl
 rw [hstart,K_plain hq0 a]
 have hs:stepI r (iLoad 4#32) a=((rword r 4#32).1,0,none):=rfl
 rw [hs,w4]
 simp only
 rw [K_if w hq1,test_eq,hown,hnum,hkill]
 unfold decideF
 by_cases ha:r.arch=3221225534#32
 ·rw [if_pos (decide_eq_true ha),if_pos ha]
  cases p.cases.find? (fun c=>decide (c.number=r.number)) <;> rfl
 ·rw [if_neg (by simpa using ha),if_neg ha]
end Go.AM
end
section
namespace Go.AM
set_option maxRecDepth 20000
theorem ends_ret (A:List (BitVec 32×Nat)):∀ (l:List (BitVec 32)) (s:LwD),l≠[]->∃ l0 k,(l.foldl (LwD.end1 A) s).parts=l0++[retP k]
 | [],_,h=>(h rfl).elim
 | [a],s,_=>⟨(s.put (pHere (getN a A))).parts,a,rfl⟩
 | a :: b :: l,s,_=>ends_ret A (b :: l) (LwD.end1 A s a) (by simp)
theorem plan_made (p:PlanD) (hp:p.cases.Pairwise fun a b=>a.number.toNat<b.number.toNat) (hi:∀ c∈p.cases,∀ b∈c.branches,inCs b.conds) :
  (∀ e,makeF (lowerF p).parts = .inl e->e=205) /\
  (∀ s,makeF (lowerF p).parts = .inr s->insnsOk s.out/\endOk s.out/\s.out.length<=4096/\∀ r,r.ok->runC r s.out.length s.out 0#32=decideF p r) /\
  (3*(lowerF p).parts.length<=4096->∃ s,makeF (lowerF p).parts = .inr s):=by
 have hnd:(p.cases.map CaseD.number).Nodup:=by
  rw [List.nodup_iff_pairwise_ne,List.pairwise_map]
  exact hp.imp fun h e=>by rw [e] at h; omega
 have hl:=low_ok p hnd
 have w:=hl.fin.wf
 have hok:=hl.fin.ok
 have hsay:=fun r hr=>low_says p hp hi r hr 0#32
 have hne:(LwD.cases (low3 p).2 p.cases (low4 p)).order≠[]:=by
  rw [hl.lo5.1.la.1]
  intro h
  have ho:=hl.lo5.2
  unfold actN at ho
  rw [List.map_eq_nil_iff] at h
  rw [h] at ho
  simp at ho
 obtain ⟨l0,k,hl0⟩:=ends_ret (LwD.cases (low3 p).2 p.cases (low4 p)).acts _ (LwD.cases (low3 p).2 p.cases (low4 p)) hne
 have hl0:(lowerF p).parts=l0++[retP k]:=hl0
 rw [hl0] at w hok hsay ⊢
 have hok0:∀ q∈l0,partOk q:=fun q hq=>hok q (List.mem_append_left _ hq)
 refine ⟨fun e h=>makeF_wf hok0 w h,fun s h =>?_,fun h=>makeF_small hok0 w (by simpa using h)⟩
 have h4:=(makeF_ok h).2
 have h0:=makeF_says (r:=⟨0#32,0#32,0#64,[]⟩) hok0 h
 refine ⟨h0.ok,h0.end_,h4,fun r hr =>?_⟩
 rw [(makeF_says (r:=r) hok0 h).run _ _ (Nat.le_refl _)]
 exact hsay r hr
theorem sum_le {α:Type} (f:α->Nat) (m:Nat):∀ l:List α,(∀ x∈l,f x<=m)->(l.map f).sum<=l.length*m
 | [],_=>by simp
 | x :: l,h=>by
  have h1:=sum_le f m l fun y hy=>h y (List.mem_cons_of_mem _ hy)
  have h2:=h x (List.mem_cons_self ..)
  simp only [List.map_cons,List.sum_cons,List.length_cons]
  rw [Nat.add_mul,Nat.one_mul]
  omega
theorem wP_le {p:PlanD} {a b c:Nat} (h1:p.cases.length<=a) (h2:∀ x∈p.cases,x.branches.length<=b) (h3:∀ x∈p.cases,∀ y∈x.branches,y.conds.length<=c):wP p<=20+8*a+a*(b*(12*c+5)+2):=by
 have h4:∀ x∈p.cases,wK x<=b*(12*c+5)+2:=by
  intro x hx
  have:wK x=(x.branches.map wC).sum+1+1:=rfl
  rw [this]
  have h5:=sum_le wC (12*c+5) x.branches fun y hy=>by
   have:=h3 x hx y hy
   unfold wC; omega
  have h6:=Nat.mul_le_mul_right (12*c+5) (h2 x hx)
  omega
 have h5:=sum_le wK _ p.cases h4
 have h6:=Nat.mul_le_mul_right (b*(12*c+5)+2) h1
 unfold wP
 omega
end Go.AM
end
section
namespace Go.AM
set_option maxRecDepth 20000
section
variable {E:Sy} {H H' H0 Z:AH} {Q:Value->AH->Prop} {X:List Res} {fb:Nat} {c:List InsnD}
theorem fresh_store {H:AH} {z c:List Value} {n:Nat} (hz:z.length=n) (hc:c.length=n) (hp:c.all plain1=true):storeN n (ptr H.next 0) (.agg c.toArray) (H.new (.cells z none))=some (H.new (.cells c none)):=by
 rw [storeN_ptr,AH.get_new_self]
 have:AM.splice z 0 c=c:=by simp [splice,hz,hc]
 simp only [List.size_toArray,List.toList_toArray,hc,hz,hp,Nat.zero_add,Nat.le_refl,and_self,if_true,this,AH.new_put]
theorem fresh_load {H:AH} {c:List Value} {n:Nat} (hc:c.length=n):loadN n (ptr H.next 0) (H.new (.cells c none))=some (.agg c.toArray):=by rw [loadN_ptr,AH.get_new_self,row_all _ _ n hc]; rfl
theorem Fil.add (h:Fil H0 Z H fb c X) (r:Res) (e:Ext H H') (hp:r.P H') (hf:∀ b∈r.fp,H.next<=b/\b<H'.next) (hn:r.fp.Nodup):Fil H0 Z H' fb c (X++[r]):=by
 obtain ⟨lv,n1,n2,h⟩:=h
 exact ⟨lv,n1,n2,h.add r e hp hf hn⟩
theorem Fil.newbox (h:Fil H0 Z H fb c X) (cs:List Value):Fil H0 Z (H.new (.cells cs none)) fb c (X++[boxR H.next cs]):=by
 obtain ⟨lv,n1,n2,h⟩:=h
 exact ⟨lv,n1,n2,h.newbox cs⟩
theorem Fil.box {t:Nat} {cs:List Value} (h:Fil H0 Z H fb c (X++[boxR t cs])):H.get t = .cells cs none:=by
 obtain ⟨lv,n1,n2,h⟩:=h
 exact (h.all (boxR t cs) (by simp)).1
theorem Fil.dropLast {r:Res} (h:Fil H0 Z H fb c (X++[r])):Fil H0 Z H fb c X:=by
 obtain ⟨lv,n1,n2,h⟩:=h
 exact ⟨lv,n1,n2,Has.dropLast (L:=_ :: _ :: X) h⟩
theorem Fil.rows {v:Value} {sz:Nat} {rows:List (List Value)} (h:Fil H0 Z H fb c (growR sz v rows :: X)):Rows H sz v rows:=by
 obtain ⟨lv,n1,n2,h⟩:=h
 exact h.rows (k:=2) (sz:=sz) (v:=v) (rows:=rows) rfl
theorem plan0_at (d:BitVec 32):PlanAt H ⟨[],d⟩ [nilS,u32 d]:=⟨nilS,rfl,[],Rows.nil _ _ none,rfl,fun i h=>by simp at h⟩
theorem S.f38 (hE:Fold E) (hQ:∀ H',Ext H H'->Q (vb true) H'):E.call (E.fid i.f38) [] H Q:=by
 apply hE.f38
 have hbv:buildV [(0,1),(1,1)] #[(.slice none 0 0),(.int .u32 0)] [(1,(.int .u32 2147221504))]=some (.agg [nilS,u32 2147221504#32].toArray):=rfl
 simp only [F.f38,hbv,stdZ]
 refine S.f29 hE ⟨[],2147221504#32⟩ _ (plan0_at _) (by decide) fun pv H1 e1 hpv =>?_
 obtain ⟨m1,m2,m3⟩:=plan_made ⟨[],2147221504#32⟩ List.Pairwise.nil (by simp)
 obtain ⟨s,hs⟩:=m3 (by decide +kernel)
 obtain ⟨o1,o2,o3,o4⟩:=m2 s hs
 refine S.f24 hE hpv (by decide +kernel) fun H2 e2=>⟨fun e he =>?_,fun s' w hs' hw =>?_⟩
 ·rw [hs] at he; cases he
 rw [hs] at hs'
 cases hs'
 simp only [stdZ]
 refine S.f50 hE hw o1 o2 o3 fun fb H3 g3 =>?_
 have s4:storeN 2 (ptr H3.next 0) (.agg #[vi 0,vi 0]) (H3.new (.cells [(.int .i64 0),(.int .i64 0)] none))=some (H3.new (.cells [vi 0,vi 0] none)):=fresh_store (n:=2) rfl rfl rfl
 have g4:=g3.newbox [vi 0,vi 0]
 simp only [stdZ,allocW_eq,s4]
 generalize H3.new (.cells [vi 0,vi 0] none)=H4 at *
 generalize H3.next=wb at *
 have r1:buildV [(0,1),(1,1),(2,1),(3,6)] #[(.int .u32 0),(.int .u32 0),(.int .u64 0),(.int .u64 0),(.int .u64 0),(.int .u64 0),(.int .u64 0),(.int .u64 0),(.int .u64 0)] [(1,(.int .u32 3221225534))]=some (RecD.v ⟨0#32,3221225534#32,0#64,[0#64,0#64,0#64,0#64,0#64,0#64]⟩):=rfl
 have r2:buildV [(0,1),(1,1),(2,1),(3,6)] #[(.int .u32 0),(.int .u32 0),(.int .u64 0),(.int .u64 0),(.int .u64 0),(.int .u64 0),(.int .u64 0),(.int .u64 0),(.int .u64 0)] []=some (RecD.v ⟨0#32,0#32,0#64,[0#64,0#64,0#64,0#64,0#64,0#64]⟩):=rfl
 simp only [r1,stdZ]
 refine S.f49 hE rfl o1 o3 g4 fun n1 H5 hn1 g5 =>?_
 rw [o4 ⟨0#32,3221225534#32,0#64,[0#64,0#64,0#64,0#64,0#64,0#64]⟩ rfl]
 simp only [r2,stdZ]
 refine S.f49 hE rfl o1 o3 g5 fun n2 H6 hn2 g6 =>?_
 rw [o4 ⟨0#32,0#32,0#64,[0#64,0#64,0#64,0#64,0#64,0#64]⟩ rfl]
 have d1:decideF ⟨[],2147221504#32⟩ ⟨0#32,3221225534#32,0#64,[0#64,0#64,0#64,0#64,0#64,0#64]⟩=2147221504#32:=by decide
 have d2:decideF ⟨[],2147221504#32⟩ ⟨0#32,0#32,0#64,[0#64,0#64,0#64,0#64,0#64,0#64]⟩=2147483648#32:=by decide
 rw [d1,d2]
 have b6:=Fil.box (X:=[]) g6
 have l6:loadN 2 (ptr wb 0) H6=some (.agg #[vi 0,vi 0]):=by rw [loadN_ptr,b6]; rfl
 have hbv0:buildV [(0,1),(1,1)] #[(.int .i64 0),(.int .i64 0)] []=some (.agg #[vi 0,vi 0]):=rfl
 have heq:binAgg [0,0] .eql (.agg #[vi 0,vi 0]) (.agg #[vi 0,vi 0])=some (vb true):=rfl
 have k0:(.int .i64 0:Value)=vi 0:=rfl
 have kL:(.int .u32 2147221504:Value)=u32 2147221504#32:=rfl
 have kK:(.int .u32 2147483648:Value)=u32 2147483648#32:=rfl
 have dd:decide ((0:Int)=0)=true:=rfl
 simp only [k0,i64_eql,dd,l6,hbv0,heq,kL,kK,u32_eql,decide_true,stdZ]
 exact hQ _ ((e1.trans e2).trans g6.ext)
end
end Go.AM
end
section
namespace Go.AM
set_option maxRecDepth 20000
def bareC (c:CaseD):Prop:=∃ a,c.branches=[⟨[],a⟩]
theorem plen_branch (s:LwD) (a:BitVec 32):(s.branch ⟨[],a⟩).parts.length=s.parts.length+2/\(s.branch ⟨[],a⟩).order.length<=s.order.length+1:=by
 have h1:(s.branch ⟨[],a⟩).parts=((s.new.act a).1.parts++[pGoto (s.new.act a).2])++[pHere (s.last+1)]:=rfl
 have h2:(s.branch ⟨[],a⟩).order=(s.new.act a).1.order:=rfl
 rw [h1,h2,(act_keeps _ _).1]
 refine ⟨by simp [LwD.new],?_⟩
 cases hf:alook a s.new.acts with
 | some n=>rw [act_some hf]; exact Nat.le_succ _
 | none=>rw [act_none hf]; simp [LwD.new]
theorem plen_cases (st:List (BitVec 32×Nat)):∀ (l:List CaseD) (s:LwD),(∀ c∈l,bareC c)->(LwD.cases st l s).parts.length=s.parts.length+4*l.length/\(LwD.cases st l s).order.length<=s.order.length+l.length
 | [],s,_=>⟨rfl,Nat.le_refl _⟩
 | c :: l,s,h=>by
  obtain ⟨a,ha⟩:=h c (List.mem_cons_self ..)
  have ih:=plen_cases st l (LwD.case1 st s c) fun y hy=>h y (List.mem_cons_of_mem _ hy)
  have h1:LwD.case1 st s c=((s.put (pHere (getN c.number st))).branch ⟨[],a⟩).put (pGoto ((s.put (pHere (getN c.number st))).branch ⟨[],a⟩).other):=by unfold LwD.case1 LwD.branches; rw [ha]; rfl
  obtain ⟨h2,h3⟩:=plen_branch (s.put (pHere (getN c.number st))) a
  have h4:(LwD.case1 st s c).parts.length=s.parts.length+4:=by
   rw [h1]
   simp only [LwD.put,List.length_append,List.length_cons,List.length_nil] at h2 ⊢
   omega
  have h5:(LwD.case1 st s c).order.length<=s.order.length+1:=by
   rw [h1]
   exact h3
  show (LwD.cases st l (LwD.case1 st s c)).parts.length=_/\(LwD.cases st l (LwD.case1 st s c)).order.length<=_
  simp only [List.length_cons]
  omega
theorem plen_choose (st:List (BitVec 32×Nat)):∀ (f:Nat) (l:List CaseD) (s:LwD),l.length<f->(LwD.choose st f l s).parts.length+(if l.length=0 then 0 else 4)<=s.parts.length+4*l.length+1
 | 0,l,s,h=>by omega
 | f+1,l,s,h=>by
  unfold LwD.choose
  have hput:∀ (t:LwD) (p:PartD),(t.put p).parts.length=t.parts.length+1:=fun t p=>by simp [LwD.put]
  split
  ·rename_i h0
   rw [hput]; omega
  ·rename_i h0
   split
   ·rw [hput]; omega
   ·have h1:=plen_choose st f (l.take (l.length / 2)) ((s.new.new.put (pIf 48#16 (numAt l (l.length / 2)) (s.last+2) (s.last+1))).put (pHere (s.last+1))) (by rw [List.length_take]; omega)
    have h2:=plen_choose st f (l.drop (l.length / 2)) ((LwD.choose st f (l.take (l.length / 2)) ((s.new.new.put (pIf 48#16 (numAt l (l.length / 2)) (s.last+2) (s.last+1))).put (pHere (s.last+1)))).put (pHere (s.last+2))) (by rw [List.length_drop]; omega)
    rw [if_neg (by rw [List.length_take]; omega),List.length_take] at h1
    rw [if_neg (by rw [List.length_drop]; omega),List.length_drop] at h2
    have hn:s.new.new.parts=s.parts:=rfl
    rw [hput,hput,hn] at h1
    rw [hput] at h2
    omega
theorem plen_ends (A:List (BitVec 32×Nat)):∀ (l:List (BitVec 32)) (s:LwD),(l.foldl (LwD.end1 A) s).parts.length=s.parts.length+2*l.length
 | [],_=>rfl
 | a :: l,s=>by
  rw [List.foldl_cons,plen_ends A l]
  simp only [LwD.end1,LwD.put,List.length_append,List.length_cons,List.length_nil]
  omega
theorem plen (p:PlanD) (hn:(p.cases.map CaseD.number).Nodup) (h:∀ c∈p.cases,bareC c):(lowerF p).parts.length<=10*p.cases.length+9:=by
 obtain ⟨_,_,_,r4,r5⟩:=starts_ok p.cases (lower0 p.default,[]) hn (by simp) (by simp) (LO.lower0 p.default)
 have r4:(low3 p).1.parts=(lower0 p.default).parts:=r4
 have r5:(low3 p).1.order=(lower0 p.default).order:=r5.2.2
 have h0:(lower0 p.default).parts.length=3:=by
  have hz:(low2 p.default).1.parts=[]:=by
   show ((low1 p.default).act _).1.parts=[]
   rw [(act_keeps _ _).1]
   show (LwD.zero.act p.default).1.parts=[]
   rw [(act_keeps _ _).1]; rfl
  unfold lower0
  simp only [LwD.put,LwD.new,List.length_append,hz,List.length_cons,List.length_nil]
 have h1:(lower0 p.default).order.length<=2:=by
  have a1:∀ (s:LwD) (a:BitVec 32),(s.act a).1.order.length<=s.order.length+1:=fun s a=>by
   cases hf:alook a s.acts with
   | some n=>rw [act_some hf]; exact Nat.le_succ _
   | none=>rw [act_none hf]; simp
  have b1:=a1 LwD.zero p.default
  have b2:=a1 (low1 p.default) 2147483648#32
  have b3:(lower0 p.default).order=((low1 p.default).act 2147483648#32).1.order:=rfl
  have b4:(low1 p.default).order=(LwD.zero.act p.default).1.order:=rfl
  have b5:LwD.zero.order.length=0:=rfl
  rw [b3]; rw [b4] at b2; omega
 have h2:=plen_choose (low3 p).2 (p.cases.length+1) p.cases ((low3 p).1.put (pPlain (iLoad 0#32))) (Nat.lt_succ_self _)
 have h3:(LwD.choose (low3 p).2 (p.cases.length+1) p.cases ((low3 p).1.put (pPlain (iLoad 0#32)))).order=(low3 p).1.order:=(KeepA.choose (low3 p).2 (p.cases.length+1) p.cases ((low3 p).1.put (pPlain (iLoad 0#32)))).2.2
 obtain ⟨h4,h5⟩:=plen_cases (low3 p).2 p.cases (low4 p) h
 have h6:=plen_ends (LwD.cases (low3 p).2 p.cases (low4 p)).acts (LwD.cases (low3 p).2 p.cases (low4 p)).order (LwD.cases (low3 p).2 p.cases (low4 p))
 have h7:((low3 p).1.put (pPlain (iLoad 0#32))).parts.length=4:=by simp only [LwD.put,List.length_append,r4,h0,List.length_cons,List.length_nil]
 rw [h7] at h2
 have h2:(low4 p).parts.length+(if p.cases.length=0 then 0 else 4)<=4+4*p.cases.length+1:=h2
 have h3:(low4 p).order.length<=2:=by
  show (LwD.choose (low3 p).2 (p.cases.length+1) p.cases ((low3 p).1.put (pPlain (iLoad 0#32)))).order.length<=2
  rw [h3,r5]; exact h1
 show ((LwD.cases (low3 p).2 p.cases (low4 p)).order.foldl (LwD.end1 (LwD.cases (low3 p).2 p.cases (low4 p)).acts) (LwD.cases (low3 p).2 p.cases (low4 p))).parts.length<=_
 rw [h6,h4]
 split at h2 <;> omega
end Go.AM
end
section
namespace Go.AM
set_option maxRecDepth 20000
structure CasesOk (Z:AH) (ces:List CaseE):Prop where
 at_:∀ e∈ces,SliceOf (BranchAt 0) Z 2 e.v.1 e.c.branches/\bareC e.c
 up:ces.Pairwise fun a b=>a.c.number.toNat<b.c.number.toNat
theorem CasesOk.sub {Z Z':AH} {ces:List CaseE} (h:CasesOk Z ces) (e:Sub Z Z'):CasesOk Z' ces :=
 ⟨fun x hx=>⟨(h.at_ x hx).1.sub (fun _ _ _ _ h e=>BranchAt.sub h e) e,(h.at_ x hx).2⟩,h.up⟩
section
variable {E:Sy} {H H' H0 Z:AH} {Q:Value->AH->Prop}
def numL (t5:Nat) (v:Value) (d:BitVec 32) (ces:List CaseE):List Res:=[boxR t5 [v,u32 d],growR 2 v (ces.map CaseE.cells)]
theorem CasesOk.insert {ces:List CaseE} (h:CasesOk Z ces) {k:Nat} (hk:k<=ces.length) {e:CaseE} (he:SliceOf (BranchAt 0) Z 2 e.v.1 e.c.branches/\bareC e.c) (hlo:∀ i (hi:i<ces.length),i<k->(ces[i]).c.number.toNat<e.c.number.toNat) (hhi:∀ h:k<ces.length,e.c.number.toNat<(ces[k]).c.number.toNat) :
  CasesOk Z (ces.take k++[e]++ces.drop k):=by
 refine ⟨fun x hx =>?_,?_⟩
 ·simp only [List.mem_append,List.mem_singleton] at hx
  rcases hx with (hx | rfl) | hx
  ·exact h.at_ x (List.mem_of_mem_take hx)
  ·exact he
  ·exact h.at_ x (List.mem_of_mem_drop hx)
 ·have h1:∀ x∈ces.take k,x.c.number.toNat<e.c.number.toNat:=fun x hx=>by
   obtain ⟨i,hi,rfl⟩:=List.getElem_of_mem hx
   rw [List.length_take] at hi
   rw [List.getElem_take]
   exact hlo i (by omega) (by omega)
  have h2:∀ x∈ces.drop k,e.c.number.toNat<x.c.number.toNat:=fun x hx=>by
   obtain ⟨i,hi,rfl⟩:=List.getElem_of_mem hx
   rw [List.length_drop] at hi
   rw [List.getElem_drop]
   have hkl:k<ces.length:=by omega
   have:=hhi hkl
   rcases Nat.eq_zero_or_pos i with rfl | hi0
   ·exact this
   ·exact Nat.lt_trans this (List.pairwise_iff_getElem.1 h.up k (k+i) hkl (by omega) (by omega))
  rw [List.append_assoc,List.pairwise_append]
  refine ⟨h.up.sublist (List.take_sublist _ _),?_,?_⟩
  ·rw [List.singleton_append,List.pairwise_cons]
   exact ⟨h2,h.up.sublist (List.drop_sublist _ _)⟩
  ·intro a ha b hb
   rw [List.singleton_append,List.mem_cons] at hb
   rcases hb with rfl | hb
   ·exact h1 a ha
   ·exact Nat.lt_trans (h1 a ha) (h2 b hb)
theorem lownum_l2 (hE:Fold E) {t5:Nat} {d:BitVec 32} {v:Value} {ces:List CaseE} (hn:ces.length<=1000) (g:Has H0 Z H (numL t5 v d ces)) (ok:CasesOk Z ces) (x:BitVec 32) {t0 t1 t27 t28:Value} {j:Nat} (hj:j<2 ^ 30) {X0:List Value->AH->Prop}
  (next:∀ Z' v' ces' H',Has H0 Z' H' (numL t5 v' d ces')->CasesOk Z' ces'->ces'.length<=ces.length+1->X0 [t0,t1,ptr t5 0,t27,t28,vi ((j+1:Nat):Int)] H') :
  LoopL (fun l H X1=>F.f39_l2 E Q X0 (nth l 0) (nth l 1) (nth l 2) (nth l 3) (nth l 4) (nth l 5) (nth l 6) (nth l 7) H X1) [t0,t1,ptr t5 0,u32 x,(.int .i64 0),t27,t28,vi j] H:=by
 have i0:(.int .i64 0:Value)=vi ((0:Nat):Int):=rfl
 rw [i0]
 have hb5:=g.box (k:=0) (b:=t5) (c:=[v,u32 d]) rfl
 have hrw:=g.rows (k:=1) (sz:=2) (v:=v) (rows:=ces.map CaseE.cells) rfl
 have hlv:=hrw.lenSlc
 rw [List.length_map] at hlv
 have hinc:=i64_inc (i:=j) (by omega)
 refine LoopL.ind (fun m ls H'=>H=H'/\∃ k:Nat,m=ces.length - k/\k<=ces.length/\(∀ i (hi:i<ces.length),i<k->(ces[i]).c.number.toNat<x.toNat)/\ls=[t0,t1,ptr t5 0,u32 x,vi k,t27,t28,vi j]) ?_ ces.length ⟨rfl,0,rfl,Nat.zero_le _,fun i _ h=>by omega,rfl⟩
 rintro m _ _ X1 ih ⟨rfl,k,rfl,hk,hlo,rfl⟩
 have cell:∀ hlt:k<ces.length,∃ b o,ixSlc 2 v (vi k)=some (ptr b o)/\(H.get b).cell o=some (u32 (ces[k]).c.number):=fun hlt=>by
  obtain ⟨b,o,f1,f2⟩:=hrw.ix (i:=k) (by simpa using hlt)
  simp only [List.getElem_map] at f2
  exact ⟨b,o,f1,by have:=row_at f2 (j:=0) (by omega); simpa [CaseE.cells] using this⟩
 have insert:(∀ h:k<ces.length,x.toNat<(ces[k]).c.number.toNat) ->
   opt (binInt .rem (u32 x) (.int .u32 4000)) fun v29 =>
   opt (convInt .i64 v29) fun v30 =>
   opt (binInt .add v30 (.int .i64 1)) fun v31 =>
   E.call (E.fid i.f40) [v31] H fun v32 H17 =>
   opt (buildV [(0,1),(1,1)] #[(.slice none 0 0),(.int .u32 0)] [(1,v32)]) fun v33 =>
   mk (buildS 1 2 #[(.slice none 0 0),(.int .u32 0)] [(0,v33)]) H17 fun v34 H18 =>
   opt (buildV [(0,1),(1,1)] #[(.int .u32 0),(.slice none 0 0)] [(0,(u32 x)),(1,v34)]) fun v35 =>
   allocW [(.int .u32 0),(.slice none 0 0)] H18 fun v36 H19 =>
   opt (storeN 2 v36 v35 H19) fun H20 =>
   mk (buildS 0 2 #[(.int .u32 0),(.slice none 0 0)] []) H20 fun v37 H21 =>
   opt (addOff (ptr t5 0) 0) fun v38 =>
   opt (load1 v38 H21) fun v39 =>
   opt (slSlc 2 v39 none (some (vi k)) none H21) fun v40 =>
   opt (loadN 2 v36 H21) fun v41 =>
   mk (buildS 1 2 #[(.int .u32 0),(.slice none 0 0)] [(0,v41)]) H21 fun v42 H22 =>
   opt (addOff (ptr t5 0) 0) fun v43 =>
   opt (load1 v43 H22) fun v44 =>
   opt (slSlc 2 v44 (some (vi k)) none none H22) fun v45 =>
   opt2 (app 2 32 v37 v40 H22) fun v46 H23 =>
   slSlc 2 v44 (some (vi k)) none none H23=slSlc 2 v44 (some (vi k)) none none H22 /\
   load1 v43 H23=load1 v43 H22 /\
   H23.get H21.next=H22.get H21.next /\
   loadN 2 v36 H23=loadN 2 v36 H21 /\
   opt2 (app 2 32 v46 v42 H23) fun v47 H24 =>
   slSlc 2 v44 (some (vi k)) none none H24=slSlc 2 v44 (some (vi k)) none none H22 /\
   load1 v43 H24=load1 v43 H22 /\
   opt2 (app 2 32 v47 v45 H24) fun v48 H25 =>
   opt (addOff (ptr t5 0) 0) fun v49 =>
   opt (store1 v49 v48 H25) fun H26 =>
   opt (binInt .add (vi j) (.int .i64 1)) fun v50 =>
   X0 [t0,t1,ptr t5 0,t27,t28,v50] H26:=by
  intro hhi
  have q4:(.int .u32 4000:Value)=u32 4000#32:=rfl
  have i1:(.int .i64 1:Value)=vi 1:=rfl
  have hrem:binInt .rem (u32 x) (u32 4000#32)=some (u32 (x % 4000#32)):=u32_rem _ _ (by decide)
  have hml:(x % 4000#32).toNat<4000:=by rw [BitVec.toNat_umod]; exact Nat.mod_lt _ (by decide)
  have hadd:binInt .add (vi ((x % 4000#32).toNat:Int)) (vi 1)=some (vi (((x % 4000#32).toNat:Int)+1)):=i64_add (by omega) (by omega)
  simp only [q4,hrem,u32_to_i64,i1,hadd,stdZ]
  refine S.f40 hE _ ?_
  generalize afail (((x % 4000#32).toNat:Int)+1)=act
  have hbv1:buildV [(0,1),(1,1)] #[(.slice none 0 0),(.int .u32 0)] [(1,u32 act)]=some (.agg [nilS,u32 act].toArray):=rfl
  have hbS1:buildS 1 2 #[(.slice none 0 0),(.int .u32 0)] [(0,.agg [nilS,u32 act].toArray)]=some (.cells [nilS,u32 act] none,mkSlc 1 1):=buildS_one 2 [nilS,u32 0#32] [nilS,u32 act] rfl rfl
  have g1:=g.newbox [nilS,u32 act]
  simp only [hbv1,hbS1,AM.mk_some,mkSlc_eq,stdZ]
  generalize H.new (.cells [nilS,u32 act] none)=H1 at *
  generalize H.next=bb at *
  have hbv2:buildV [(0,1),(1,1)] #[(.int .u32 0),(.slice none 0 0)] [(0,(u32 x)),(1,slc bb 0 1 1)]=some (.agg [u32 x,slc bb 0 1 1].toArray):=rfl
  have hst:storeN 2 (ptr H1.next 0) (.agg [u32 x,slc bb 0 1 1].toArray) (H1.new (.cells [(.int .u32 0),(.slice none 0 0)] none))=some (H1.new (.cells [u32 x,slc bb 0 1 1] none)):=fresh_store rfl rfl rfl
  have g2:=g1.newbox [u32 x,slc bb 0 1 1]
  simp only [hbv2,allocW_eq,hst,stdZ]
  generalize H1.new (.cells [u32 x,slc bb 0 1 1] none)=H2 at *
  generalize H1.next=tb at *
  have hbS0:buildS 0 2 #[(.int .u32 0),(.slice none 0 0)] []=some (.cells [] none,mkSlc 0 0):=buildS0 2 [u32 0#32,nilS] rfl
  have g3:=g2.newroom 2
  have hb3:=g3.box (k:=0) (b:=t5) (c:=[v,u32 d]) rfl
  have hr3:=g3.rows (k:=1) (sz:=2) (v:=v) (rows:=ces.map CaseE.cells) rfl
  have hl3:(ces.map CaseE.cells).length=ces.length:=List.length_map _
  obtain ⟨sl3,rl3⟩:=hr3.slice' (lo:=none) (hi:=some (vi k)) (i:=0) (j:=k) (.inr ⟨rfl,rfl⟩) (.inl rfl) (Nat.zero_le _) (by omega)
  have hbt:=g3.box (k:=3) (b:=tb) (c:=[u32 x,slc bb 0 1 1]) rfl
  have hlt3:loadN 2 (ptr tb 0) (H2.new (.cells [] none))=some (.agg [u32 x,slc bb 0 1 1].toArray):=by rw [loadN_ptr,hbt]; rfl
  have hbS4:buildS 1 2 #[(.int .u32 0),(.slice none 0 0)] [(0,.agg [u32 x,slc bb 0 1 1].toArray)]=some (.cells [u32 x,slc bb 0 1 1] none,mkSlc 1 1):=buildS_one 2 [u32 0#32,nilS] [u32 x,slc bb 0 1 1] rfl rfl
  simp only [hbS0,AM.mk_some,mkSlc_eq,hb3,sl3,hlt3,hbS4,stdZ]
  have hn1:H2.next+1=(H2.new (.cells [] none)).next:=rfl
  try rw [hn1]
  clear hn1
  generalize H2.new (.cells [] none)=H3 at *
  generalize H2.next=tr at *
  have g4:=g3.newbox [u32 x,slc bb 0 1 1]
  have hb4:=g4.box (k:=0) (b:=t5) (c:=[v,u32 d]) rfl
  have hr4:=g4.rows (k:=1) (sz:=2) (v:=v) (rows:=ces.map CaseE.cells) rfl
  obtain ⟨sl4,_⟩:=hr4.slice' (lo:=some (vi k)) (hi:=none) (i:=k) (j:=ces.length) (.inl rfl) (.inr ⟨rfl,hl3.symm⟩) hk (by omega)
  obtain ⟨_,rl4⟩:=hr4.slice' (lo:=none) (hi:=some (vi k)) (i:=0) (j:=k) (.inr ⟨rfl,rfl⟩) (.inl rfl) (Nat.zero_le _) (by omega)
  have hplain:∀ r∈ces.map CaseE.cells,r.all plain1=true:=fun r hr=>by
   obtain ⟨y,_,rfl⟩:=List.mem_map.1 hr
   exact caseE_ok.plain y
  simp only [hb4,sl4,stdZ]
  obtain ⟨w1,H5,a1,p1,g5⟩:=g4.app (k:=4) (sz:=2) (v:=slc tr 0 0 0) (rows:=[]) (bytes:=32) rfl rl4 (fun r hr=>hplain r (List.mem_of_mem_take (List.mem_of_mem_drop hr))) (by decide) (by decide) (by simp; omega) (by simp; omega)
  generalize hT:H3.new (.cells [u32 x,slc bb 0 1 1] none)=H4 at *
  have htc:∃ tc,H3.next=tc:=⟨_,rfl⟩
  obtain ⟨tc,htc⟩:=htc
  rw [htc] at g4 g5 ⊢
  simp only [a1,stdZ]
  have hb5':=g5.box (k:=0) (b:=t5) (c:=[v,u32 d]) rfl
  have hr5:=g5.rows (k:=1) (sz:=2) (v:=v) (rows:=ces.map CaseE.cells) rfl
  obtain ⟨sl5,_⟩:=hr5.slice' (lo:=some (vi k)) (hi:=none) (i:=k) (j:=ces.length) (.inl rfl) (.inr ⟨rfl,hl3.symm⟩) hk (by omega)
  have hbt5:=g5.box (k:=3) (b:=tb) (c:=[u32 x,slc bb 0 1 1]) rfl
  have hbc5:=g5.box (k:=5) (b:=tc) (c:=[u32 x,slc bb 0 1 1]) rfl
  have hbc4:=g4.box (k:=5) (b:=tc) (c:=[u32 x,slc bb 0 1 1]) rfl
  refine ⟨by rw [sl5,sl4],by rw [hb5',hb4],by rw [hbc5,hbc4],by rw [loadN_ptr,hbt5,hlt3]; rfl,?_⟩
  have hrc:Rows H5 2 (slc tc 0 1 1) [[u32 x,slc bb 0 1 1]]:=Rows.made (f:=none) (by rw [hbc5]; rfl) (.inl rfl) rfl (by simp)
  obtain ⟨w2,H6,a2,p2,g6⟩:=g5.app (k:=4) (sz:=2) (v:=w1) (rows:=[]++((ces.map CaseE.cells).take k).drop 0) (bytes:=32) rfl hrc (by simp) (by decide) (by decide) (by simp; omega) (by simp; omega)
  simp only [a2,stdZ]
  have hb6:=g6.box (k:=0) (b:=t5) (c:=[v,u32 d]) rfl
  have hr6:=g6.rows (k:=1) (sz:=2) (v:=v) (rows:=ces.map CaseE.cells) rfl
  obtain ⟨sl6,rl6⟩:=hr6.slice' (lo:=some (vi k)) (hi:=none) (i:=k) (j:=ces.length) (.inl rfl) (.inr ⟨rfl,hl3.symm⟩) hk (by omega)
  refine ⟨by rw [sl6,sl4],by rw [hb6,hb4],?_⟩
  obtain ⟨w3,H7,a3,p3,g7⟩:=g6.app (k:=4) (sz:=2) (v:=w2) (rows:=[]++((ces.map CaseE.cells).take k).drop 0++[[u32 x,slc bb 0 1 1]]) (bytes:=32) rfl rl6 (fun r hr=>hplain r (List.mem_of_mem_take (List.mem_of_mem_drop hr))) (by decide) (by decide) (by simp; omega) (by simp; omega)
  have hb7:=g7.box (k:=0) (b:=t5) (c:=[v,u32 d]) rfl
  have hst7:store1 (ptr t5 0) w3 H7=some (H7.put t5 (.cells [w3,u32 d] none)):=by
   rw [store1_ptr,if_pos p3,hb7]; rfl
  have g8:=g7.put (k:=0) (b:=t5) (c:=[v,u32 d]) rfl [w3,u32 d]
  simp only [a3,hst7,hinc,stdZ]
  have g9:=(g8.drop 1).drop 2
  have g10:=g9.drop 3
  obtain ⟨Z',fz,hz,g11⟩:=g10.freeze (k:=1) (r:=boxR bb [nilS,u32 act]) rfl
  have hz:Z'.get bb = .cells [nilS,u32 act] none:=hz
  have hbr:SliceOf (BranchAt 0) Z' 2 (slc bb 0 1 1) [⟨[],act⟩]:=by
   refine ⟨[[nilS,u32 act]],Rows.made (f:=none) (by rw [hz]; rfl) (.inl rfl) rfl (by simp),rfl,fun i h1 h2 =>?_⟩
   have:i=0:=by simpa using h1
   subst this
   exact ⟨(by decide:(0:Nat)<2 ^ 30),nilS,rfl,Rows.nil _ _ none,FreshV.zero _⟩
  refine next Z' w3 (ces.take k++[⟨⟨x,[⟨[],act⟩]⟩,⟨slc bb 0 1 1,rfl⟩⟩]++ces.drop k) _ ?_ ((ok.sub fz.1).insert hk ⟨hbr,act,rfl⟩ hlo hhi) (by simp; omega)
  have hrows:(ces.take k++[(⟨⟨x,[⟨[],act⟩]⟩,⟨slc bb 0 1 1,rfl⟩⟩:CaseE)]++ces.drop k).map CaseE.cells=[]++((ces.map CaseE.cells).take k).drop 0++[[u32 x,slc bb 0 1 1]]++((ces.map CaseE.cells).take ces.length).drop k:=by
   rw [List.map_append,List.map_append,List.map_take,List.map_drop,List.drop_zero,List.nil_append,<- hl3,List.take_length]; rfl
  unfold numL
  rw [hrows]
  exact g11
 rcases Nat.lt_or_ge k ces.length with hlt | hge
 ·have hlt':decide ((k:Int)<ces.length)=true:=decide_eq_true (by omega)
  obtain ⟨b,o,f1,f2⟩:=cell hlt
  simp only [F.f39_l2,hb5,hlv,i64_lss,hlt',f1,f2,u32_lss,stdZ]
  have hkinc:=i64_inc (i:=k) (by omega)
  rcases Nat.lt_trichotomy (ces[k]).c.number.toNat x.toNat with h | h | h
  ·have d1:decide ((ces[k]).c.number.toNat<x.toNat)=true:=decide_eq_true h
   simp only [d1,hkinc,stdZ]
   refine ih _ (by omega) _ _ ⟨rfl,k+1,rfl,by omega,fun i hi hik =>?_,rfl⟩
   rcases Nat.lt_or_ge i k with h2 | h2
   ·exact hlo i hi h2
   ·have:i=k:=by omega
    subst this; exact h
  ·have d1:decide ((ces[k]).c.number.toNat<x.toNat)=false:=decide_eq_false (by omega)
   have d2:decide ((ces[k]).c.number=x)=true:=decide_eq_true (BitVec.eq_of_toNat_eq h)
   simp only [d1,hb5,hlv,i64_lss,hlt',f1,f2,u32_eql,d2,hinc,stdZ]
   exact next Z v ces H g ok (Nat.le_succ _)
  ·have d1:decide ((ces[k]).c.number.toNat<x.toNat)=false:=decide_eq_false (by omega)
   have d2:decide ((ces[k]).c.number=x)=false:=decide_eq_false (fun e=>by rw [e] at h; omega)
   simp only [d1,hb5,hlv,i64_lss,hlt',f1,f2,u32_eql,d2,stdZ]
   exact insert fun _=>h
 ·have hlt':decide ((k:Int)<ces.length)=false:=decide_eq_false (by omega)
  simp only [F.f39_l2,hb5,hlv,i64_lss,hlt',stdZ]
  exact insert fun h=>by omega
end
end Go.AM
end
section
namespace Go.AM
set_option maxRecDepth 20000
section
variable {E:Sy} {H H' H0 Z:AH} {Q:Value->AH->Prop}
def callR (n:BitVec 32):RecD:=⟨n,3221225534#32,0#64,[0#64,0#64,0#64,0#64,0#64,0#64]⟩
theorem lownum_l4 (hE:Fold E) {p:PlanD} {pl:List Value} {t5 fb:Nat} (hpb:H0.get t5 = .cells pl none) (hpl:PlanAt H0 p pl) (hup:p.cases.Pairwise fun a b=>a.number.toNat<b.number.toNat) (hlen:p.cases.length<2 ^ 60) (hbr:∀ c∈p.cases,c.branches.length<2 ^ 30)
  {c:List InsnD} (ho:insnsOk c) (hcl:c.length<=4096) (hrun:∀ r,r.ok->runC r c.length c 0#32=decideF p r) {X:List Res} {kv:Value} {ks:List (BitVec 32)} (hks:ks.length<=10) {t113 t114:Value} {q:Nat} (hq:q<2 ^ 30)
  (h:Fil H0 Z H fb c (X++[growR 1 kv (a32R ks)])) {X0:List Value->AH->Prop} (next:∀ H',Fil H0 Z H' fb c X->X0 [ptr t5 0,ptr fb 0,t113,t114,vi ((q+1:Nat):Int)] H') :
  LoopL (fun l H X1=>F.f39_l4 E Q X0 (nth l 0) (nth l 1) (nth l 2) (nth l 3) (nth l 4) (nth l 5) (nth l 6) (nth l 7) H X1) [ptr t5 0,ptr fb 0,t113,t114,vi q,kv,vi ks.length,(.int .i64 0)] H:=by
 have i0:(.int .i64 0:Value)=vi ((0:Nat):Int):=rfl
 rw [i0]
 refine LoopL.count ks.length (fun k ls H'=>ls=[ptr t5 0,ptr fb 0,t113,t114,vi q,kv,vi ks.length,vi k]/\Fil H0 Z H' fb c (X++[growR 1 kv (a32R ks)])) ?_ ⟨rfl,h⟩
 rintro k _ H1 X1 hk ih ⟨rfl,g⟩
 rcases Nat.lt_or_ge k ks.length with hlt | hge
 rotate_left
 ·have hlt':decide ((k:Int)<ks.length)=false:=decide_eq_false (by omega)
  have hinc:=i64_inc (i:=q) (by omega)
  simp only [F.f39_l4,i64_lss,hlt',hinc,stdZ]
  exact next _ g.dropLast
 have hlt':decide ((k:Int)<ks.length)=true:=decide_eq_true (by omega)
 have hrw:Rows H1 1 kv (a32R ks):=by
  obtain ⟨lv,n1,n2,g⟩:=g
  exact Grow.toRows (h:=(g.all (growR 1 kv (a32R ks)) (by simp)).1)
 obtain ⟨bb,o,f1,f2⟩:=hrw.ix (i:=k) (by simpa [a32R] using hlt)
 have hrow:(a32R ks)[k]'(by simpa [a32R] using hlt)=[u32 ks[k]]:=by simp [a32R]
 rw [hrow] at f2
 have hce:((H1.get bb).cell o)=some (u32 ks[k]):=by have:=row_at f2 (j:=0) (by omega); simpa using this
 have hinc:=i64_inc (i:=k) (by omega)
 generalize ks[k]=n at *
 have hbv:buildV [(0,1),(1,1),(2,1),(3,6)] #[(.int .u32 0),(.int .u32 0),(.int .u64 0),(.int .u64 0),(.int .u64 0),(.int .u64 0),(.int .u64 0),(.int .u64 0),(.int .u64 0)] [(0,u32 n),(1,(.int .u32 3221225534))]=some (callR n).v:=rfl
 have hr:(callR n).ok:=rfl
 have hst:storeN 9 (ptr H1.next 0) (callR n).v (H1.new (.cells [(.int .u32 0),(.int .u32 0),(.int .u64 0),(.int .u64 0),(.int .u64 0),(.int .u64 0),(.int .u64 0),(.int .u64 0),(.int .u64 0)] none))=some (H1.new (.cells (callR n).cells none)):=fresh_store rfl rfl rfl
 have hlo2:loadN 9 (ptr H1.next 0) (H1.new (.cells (callR n).cells none))=some (callR n).v:=fresh_load rfl
 have g1:=g.newbox (callR n).cells
 simp only [F.f39_l4,i64_lss,hlt',f1,hce,hbv,allocW_eq,hst,hlo2,stdZ]
 generalize H1.new (.cells (callR n).cells none)=H2 at *
 generalize H1.next=t at *
 generalize callR n=r at *
 refine S.f49 hE hr ho hcl g1 fun m H3 hm g2 =>?_
 rw [hrun r hr]
 have hpl8:pl.length=2:=by obtain ⟨v,rfl,_⟩:=hpl; rfl
 have lp:loadN 2 (ptr t5 0) H3=some (.agg pl.toArray):=by rw [loadN_ptr,g2.ext.cells hpb,row_all _ _ 2 hpl8]; rfl
 have lr:loadN 9 (ptr t 0) H3=some r.v:=by rw [loadN_ptr,Fil.box (X:=X++[growR 1 kv (a32R ks)]) g2,row_all _ _ 9 (rec_nine hr)]; rfl
 simp only [lp,lr,stdZ]
 refine S.f15 hE p pl (hpl.mono g2.ext) hup hlen hbr r hr fun H4 e4 =>?_
 have dd:decide (decideF p r≠decideF p r)=false:=decide_eq_false (by simp)
 simp only [u32_neq,dd,hinc,stdZ]
 exact ih hlt _ _ ⟨rfl,(g2.grow e4).dropLast⟩
theorem lownum_l3 (hE:Fold E) {p:PlanD} {pl:List Value} {t5 fb:Nat} (hpb:H0.get t5 = .cells pl none) (hpl:PlanAt H0 p pl) (hup:p.cases.Pairwise fun a b=>a.number.toNat<b.number.toNat) (hlen:p.cases.length<2 ^ 60) (hbr:∀ c∈p.cases,c.branches.length<2 ^ 30)
  {c:List InsnD} (ho:insnsOk c) (hcl:c.length<=4096) (hrun:∀ r,r.ok->runC r c.length c 0#32=decideF p r) {nv:Value} {ns:List (BitVec 32)} (hns:ns.length<=1000)
  (h:Fil H0 Z H fb c [growR 1 nv (a32R ns)]) (hQ:∀ H',Q (vb true) H') :
  LoopL (fun l H X0=>F.f39_l3 E Q (nth l 0) (nth l 1) (nth l 2) (nth l 3) (nth l 4) H X0) [ptr t5 0,ptr fb 0,nv,vi ns.length,(.int .i64 0)] H:=by
 have i0:(.int .i64 0:Value)=vi ((0:Nat):Int):=rfl
 rw [i0]
 refine LoopL.count ns.length (fun k ls H'=>ls=[ptr t5 0,ptr fb 0,nv,vi ns.length,vi k]/\Fil H0 Z H' fb c [growR 1 nv (a32R ns)]) ?_ ⟨rfl,h⟩
 rintro k _ H1 X1 hk ih ⟨rfl,g⟩
 rcases Nat.lt_or_ge k ns.length with hlt | hge
 rotate_left
 ·have hlt':decide ((k:Int)<ns.length)=false:=decide_eq_false (by omega)
  simp only [F.f39_l3,i64_lss,hlt',stdZ]
  exact hQ _
 have hlt':decide ((k:Int)<ns.length)=true:=decide_eq_true (by omega)
 obtain ⟨bb,o,f1,f2⟩:=g.rows.ix (i:=k) (by simpa [a32R] using hlt)
 have hrow:(a32R ns)[k]'(by simpa [a32R] using hlt)=[u32 ns[k]]:=by simp [a32R]
 rw [hrow] at f2
 have hce:((H1.get bb).cell o)=some (u32 ns[k]):=by have:=row_at f2 (j:=0) (by omega); simpa using this
 generalize ns[k]=x at *
 have w1:(.int .u32 1:Value)=u32 1#32:=rfl
 have hbS:buildS 3 1 #[(.int .u32 0)] [(0,u32 x),(1,u32 (x+1#32)),(2,u32 (x - 1#32))]=some (.cells [u32 x,u32 (x+1#32),u32 (x - 1#32)] none,mkSlc 3 3):=buildS_full 3 1 [u32 0#32] [(0,u32 x),(1,u32 (x+1#32)),(2,u32 (x - 1#32))] [u32 x,u32 (x+1#32),u32 (x - 1#32)] rfl rfl rfl rfl (by simp)
 have hls:∀ b n m,lenSlc (slc b 0 n m)=some (vi n):=fun _ _ _=>rfl
 have g1:=g.add (growR 1 (slc H1.next 0 3 3) (a32R [x,x+1#32,x - 1#32])) ((Ext.refl H1).new (.cells [u32 x,u32 (x+1#32),u32 (x - 1#32)] none)) (Grow.made (f:=none) (zH_get _) (by rw [AH.get_new_self]; rfl) (.inl rfl) rfl (by intro r hr; obtain ⟨y,_,rfl⟩:=List.mem_map.1 hr; exact ⟨rfl,rfl⟩)) (by simp [growR,blkL,blk]) (by simp [growR,blkL,blk])
 simp only [F.f39_l3,i64_lss,hlt',f1,hce,w1,u32_add,u32_sub,hbS,AM.mk_some,mkSlc_eq,hls,stdZ]
 exact lownum_l4 hE hpb hpl hup hlen hbr ho hcl hrun (ks:=[x,x+1#32,x - 1#32]) (by simp) (by omega) g1 fun H' g'=>ih hlt _ _ ⟨rfl,g'⟩
theorem S.law_LowerNumbers (hE:Fold E) (args:List Value) (ha:ArgsSV H [.slice 1 (.int .u32),.int .u32] args) (hQ:∀ H',Q (vb true) H'):E.call (E.fid i.f39) args H Q:=by
 obtain ⟨v1,_,rfl,h1,ha⟩:=ha.cons_inv
 obtain ⟨v2,_,rfl,h2,ha⟩:=ha.cons_inv
 obtain rfl:=ha.nil_inv
 obtain ⟨l,hl⟩:=h1.u32s
 obtain ⟨n,rfl⟩:=h2.u32
 apply hE.f39
 simp only [F.f39,stdZ]
 refine S.f38 hE fun H1 e1 =>?_
 have hl1:Rows H1 1 v1 (a32R l):=by
  have:Rows H1 1 v1 ((l.map u32).map fun x=>[x]):=hl.mono e1
  rw [List.map_map] at this
  exact this
 have hlv:=hl1.lenSlc
 have hal:(a32R l).length=l.length:=by simp [a32R]
 rw [hal] at hlv
 have i100:(.int .i64 100:Value)=vi 100:=rfl
 simp only [hlv,i100,i64_gtr,stdZ]
 by_cases h100:(100:Int)<l.length
 ·simp only [decide_eq_true h100,stdZ]
  exact hQ _
 have hbv:buildV [(0,1),(1,1)] #[(.slice none 0 0),(.int .u32 0)] [(1,(.int .u32 2147418112))]=some (.agg [nilS,u32 2147418112#32].toArray):=rfl
 have hst:storeN 2 (ptr H1.next 0) (.agg [nilS,u32 2147418112#32].toArray) (H1.new (.cells [(.slice none 0 0),(.int .u32 0)] none))=some (H1.new (.cells [nilS,u32 2147418112#32] none)):=fresh_store rfl rfl rfl
 have g1:=((Has.begin (Ext.refl H1) (Sub.refl H1)).newbox [nilS,u32 2147418112#32]).nils 2
 simp only [decide_eq_false h100,hbv,allocW_eq,hst,hlv,stdZ]
 generalize H1.new (.cells [nilS,u32 2147418112#32] none)=H2 at *
 generalize H1.next=t5 at *
 have i0:(.int .i64 0:Value)=vi ((0:Nat):Int):=rfl
 rw [i0]
 refine LoopL.count l.length (fun j ls H'=>ls=[v1,u32 n,ptr t5 0,v1,vi l.length,vi j]/\∃ Z v ces,Has H1 Z H' (numL t5 v 2147418112#32 ces)/\CasesOk Z ces/\ces.length<=j) ?_ ⟨rfl,H1,nilS,[],g1,⟨by simp,List.Pairwise.nil⟩,Nat.le_refl _⟩
 rintro j _ H3 X1 hj ih ⟨rfl,Z,v,ces,g,ok,hcl⟩
 rcases Nat.lt_or_ge j l.length with hlt | hge
 ·have hlt':decide ((j:Int)<l.length)=true:=decide_eq_true (by omega)
  obtain ⟨bb,o,f1,f2⟩:=(hl1.mono g.ext).ix (i:=j) (by omega)
  have hrow:(a32R l)[j]'(by omega)=[u32 l[j]]:=by simp [a32R]
  rw [hrow] at f2
  have hce:((H3.get bb).cell o)=some (u32 l[j]):=by have:=row_at f2 (j:=0) (by omega); simpa using this
  generalize l[j]=x at *
  simp only [F.f39_l1,i64_lss,hlt',f1,hce,stdZ]
  exact lownum_l2 hE (by omega) g ok x (by omega) fun Z' v' ces' H' g' ok' hc'=>ih hlt _ _ ⟨rfl,Z',v',ces',g',ok',by omega⟩
 have hje:j=l.length:=by omega
 subst hje
 have hlt':decide ((l.length:Int)<l.length)=false:=decide_eq_false (by omega)
 have hb5:=g.box (k:=0) (b:=t5) (c:=[v,u32 2147418112#32]) rfl
 have lo5:loadN 2 (ptr t5 0) H3=some (.agg [v,u32 2147418112#32].toArray):=by rw [loadN_ptr,hb5]; rfl
 have hrw:=g.rows (k:=1) (sz:=2) (v:=v) (rows:=ces.map CaseE.cells) rfl
 have hpl:PlanAt H3 ⟨ces.map CaseE.c,2147418112#32⟩ [v,u32 2147418112#32]:=by
  refine ⟨v,rfl,ces.map CaseE.cells,hrw,by simp,fun i h1 h2 =>?_⟩
  simp only [List.getElem_map]
  have hi:i<ces.length:=by simpa using h1
  exact ⟨_,rfl,((ok.at_ ces[i] (List.getElem_mem hi)).1).sub (fun _ _ _ _ h e=>BranchAt.sub h e) g.sub⟩
 have hup:(PlanD.mk (ces.map CaseE.c) 2147418112#32).cases.Pairwise fun a b=>a.number.toNat<b.number.toNat:=by
  show (ces.map CaseE.c).Pairwise _
  rw [List.pairwise_map]; exact ok.up
 have hbare:∀ c∈(PlanD.mk (ces.map CaseE.c) 2147418112#32).cases,bareC c:=by
  intro c hc
  obtain ⟨e,he,rfl⟩:=List.mem_map.1 hc
  exact (ok.at_ e he).2
 have hin:∀ c∈(PlanD.mk (ces.map CaseE.c) 2147418112#32).cases,∀ b∈c.branches,inCs b.conds:=by
  intro c hc b hb
  obtain ⟨a,ha⟩:=hbare c hc
  rw [ha,List.mem_singleton] at hb
  subst hb
  intro y hy; cases hy
 have hbl:∀ c∈(PlanD.mk (ces.map CaseE.c) 2147418112#32).cases,c.branches.length=1:=fun c hc=>by
  obtain ⟨a,ha⟩:=hbare c hc
  rw [ha]; rfl
 have hcs:(PlanD.mk (ces.map CaseE.c) 2147418112#32).cases.length=ces.length:=List.length_map _
 obtain ⟨m1,m2,m3⟩:=plan_made (PlanD.mk (ces.map CaseE.c) 2147418112#32) hup hin
 have hnd:((PlanD.mk (ces.map CaseE.c) 2147418112#32).cases.map CaseD.number).Nodup:=by
  rw [List.nodup_iff_pairwise_ne,List.pairwise_map]
  exact hup.imp fun h e=>by rw [e] at h; omega
 have hpn:=plen _ hnd hbare
 have hw:=wP_le (p:=PlanD.mk (ces.map CaseE.c) 2147418112#32) (a:=100) (b:=1) (c:=0) (by omega) (fun x hx=>by rw [hbl x hx]; exact Nat.le_refl _) (fun x hx y hy=>by
  obtain ⟨a,ha⟩:=hbare x hx
  rw [ha,List.mem_singleton] at hy
  subst hy
  exact Nat.le_refl _)
 generalize hP:PlanD.mk (ces.map CaseE.c) 2147418112#32=p at *
 obtain ⟨mk,hmk⟩:=m3 (by omega)
 obtain ⟨o1,o2,o3,o4⟩:=m2 mk hmk
 simp only [F.f39_l1,i64_lss,hlt',lo5,stdZ]
 refine S.f29 hE p _ hpl (by omega) fun pv H8 e8 hpv =>?_
 refine S.f24 hE hpv (by omega) fun H9 e9=>⟨fun e he =>?_,fun mk' w hmk' hw =>?_⟩
 ·rw [hmk] at he; cases he
 rw [hmk] at hmk'
 cases hmk'
 simp only [stdZ]
 refine S.f50 hE hw o1 o2 o3 fun fb H10 g10 =>?_
 have s10:storeN 2 (ptr H10.next 0) (.agg #[vi 0,vi 0]) (H10.new (.cells [(.int .i64 0),(.int .i64 0)] none))=some (H10.new (.cells [vi 0,vi 0] none)):=fresh_store (n:=2) rfl rfl rfl
 have l10:loadN 2 (ptr H10.next 0) (H10.new (.cells [vi 0,vi 0] none))=some (.agg #[vi 0,vi 0]):=fresh_load (c:=[vi 0,vi 0]) rfl
 have hbv0:buildV [(0,1),(1,1)] #[(.int .i64 0),(.int .i64 0)] []=some (.agg #[vi 0,vi 0]):=rfl
 have hne:binAgg [0,0] .neq (.agg #[vi 0,vi 0]) (.agg #[vi 0,vi 0])=some (vb false):=rfl
 have g11:=g10.grow ((Ext.refl H10).new (.cells [vi 0,vi 0] none))
 have hdn:binInt .neq (.int .i64 0) (.int .i64 0)=some (vb false):=rfl
 simp only [allocW_eq,s10,hdn,l10,hbv0,hne,stdZ]
 generalize H10.new (.cells [vi 0,vi 0] none)=H11 at *
 have x9:=e8.trans e9
 have hb9:=x9.cells hb5
 have hpl9:=hpl.mono x9
 have hbS1:buildS 1 1 #[(.int .u32 0)] [(0,u32 n)]=some (.cells [u32 n] none,mkSlc 1 1):=buildS_one 1 [u32 0#32] [u32 n] rfl rfl
 have g12:=g11.add (growR 1 (slc H11.next 0 1 1) (a32R [n])) ((Ext.refl H11).new (.cells [u32 n] none)) (Grow.made (f:=none) (zH_get _) (by rw [AH.get_new_self]; rfl) (.inl rfl) rfl (by intro r hr; obtain ⟨y,_,rfl⟩:=List.mem_map.1 hr; exact ⟨rfl,rfl⟩)) (by simp [growR,blkL,blk]) (by simp [growR,blkL,blk])
 simp only [hbS1,AM.mk_some,mkSlc_eq,stdZ]
 generalize H11.new (.cells [u32 n] none)=H12 at *
 obtain ⟨lv,n1,n2,g12⟩:=g12
 have hl12:Rows H12 1 v1 (a32R l):=hl1.mono ((g.ext.trans x9).trans g12.ext)
 have hpl32:∀ (l:List (BitVec 32)),∀ r∈a32R l,r.all plain1=true:=fun l r hr=>by
  obtain ⟨y,_,rfl⟩:=List.mem_map.1 hr; rfl
 obtain ⟨w1,H13,a1,p1,g13⟩:=g12.app (k:=2) (sz:=1) (v:=slc H11.next 0 1 1) (rows:=a32R [n]) (bytes:=4) rfl hl12 (hpl32 l) (by decide) (by decide) (by rw [hal]; simp [a32R]; omega) (by rw [hal]; simp [a32R]; omega)
 have hbS2:buildS 2 1 #[(.int .u32 0)] [(0,(.int .u32 0)),(1,(.int .u32 4294967295))]=some (.cells [u32 0#32,u32 4294967295#32] none,mkSlc 2 2):=buildS_full 2 1 [u32 0#32] [(0,u32 0#32),(1,u32 4294967295#32)] [u32 0#32,u32 4294967295#32] rfl rfl rfl rfl (by simp)
 have g14:=g13.new (.cells [u32 0#32,u32 4294967295#32] none)
 have hr14:Rows (H13.new (.cells [u32 0#32,u32 4294967295#32] none)) 1 (slc H13.next 0 2 2) (a32R [0#32,4294967295#32]):=Rows.made (f:=none) (by rw [AH.get_new_self]; rfl) (.inl rfl) rfl (by simp [a32R])
 obtain ⟨w2,H15,a2,p2,g15⟩:=g14.app (k:=2) (sz:=1) (v:=w1) (rows:=a32R [n]++a32R l) (bytes:=4) rfl hr14 (hpl32 _) (by decide) (by decide) (by rw [List.length_append,hal]; simp [a32R]; omega) (by rw [List.length_append,hal]; simp [a32R]; omega)
 have hnums:a32R [n]++a32R l++a32R [0#32,4294967295#32]=a32R (n :: l++[0#32,4294967295#32]):=by simp [a32R]
 have g16:Fil H9 H9 H15 fb mk.out [growR 1 w2 (a32R (n :: l++[0#32,4294967295#32]))]:=by
  rw [<- hnums]
  exact ⟨lv,n1,n2,g15⟩
 have hl16:=g16.rows.lenSlc
 have hln:(a32R (n :: l++[0#32,4294967295#32])).length=(n :: l++[0#32,4294967295#32]).length:=by simp [a32R]
 rw [hln] at hl16
 simp only [a1,hbS2,AM.mk_some,mkSlc_eq,a2,hl16,stdZ]
 exact lownum_l3 hE hb9 hpl9 hup (by omega) (fun c hc=>by rw [hbl c hc]; decide) o1 o3 o4 (ns:=n :: l++[0#32,4294967295#32]) (by simp; omega) g16 hQ
end
end Go.AM
end
