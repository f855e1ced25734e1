/- CONTRACTS ON THE PRINTED FUNCTIONS. -/
import Derived.Test.YtbpbjfemnpojoaaGreatDoorC657dC2
set_option linter.all false
namespace Go.AM
section
set_option maxRecDepth 20000
theorem aEV(r:aU):∀ (ex:List cR) (s:BitVec 32×Bool),(∀ e∈ex,e.number≠r.number)->ex.foldl (oQ r) s=s
 | [],_,_=>rfl
 | e :: ex,s,h=>by
  have h1:dI e r=false:=by
   unfold dI;rw[decide_eq_false (h e (List.mem_cons_self ..)),Bool.false_and]
  rw[List.foldl_cons];have:oQ r s e=s:=by unfold oQ;rw[h1];rfl
  rw[this];exact aEV r ex s λx hx=>h x (List.mem_cons_of_mem _ hx)
theorem aKo(p:lF)(ex:List cR)(r:aU)(h:r.arch=3221225534#32->∀ e∈ex,e.number≠r.number):zT ⟨p.default,ex++p.rules⟩ r=zT p r:=by
 unfold zT
 by_cases ha:r.arch=3221225534#32
 ·rw[if_pos ha,if_pos ha,List.foldl_append,aEV r ex _ (h ha)]
 ·rw[if_neg ha,if_neg ha]
theorem aBT(s:cY){rs:List cR}(h1:rs.length<=64)(h2:∀ x∈rs,x.conds.length<=4):oO.soon { s.pol with pol:=⟨s.pol.pol.default,rs⟩ } where
 rules:=by show rs.length<_;omega
 conds:=λr hr=>by have:=h2 r hr;omega
 paths:=by have:=tI s s.paths.length;show(s.pathsTo s.paths.length).length<_;omega
 names:=λp hp=>by
  have h3:∀ x∈pQ,x.length<2 ^ 40:=by decide
  exact h3 _ ((lL s _).2 _ (List.mem_map_of_mem hp))
 ports:=by have:=tA s s.ports.length;show(s.portsTo s.ports.length).length<_;omega
theorem aDB{K:List (BitVec 32)}{us:List cR}{x:cR}(h:x∈nS K us):x∈us/\x.number ∉ K:=by
 unfold nS at h;rw[List.mem_reverse,List.mem_filter]at h;exact⟨h.1,of_decide_eq_true h.2⟩
section
variable {E:Sy}{H H' H0 Z:AH}{Q:Value->AH->Prop}{tb:Nat}
theorem aGF(hE:aW E){s u:cY}{tp tq r:Nat}{pc qc:List Value}{K:List (BitVec 32)}{uv x2 x3:Value}{rl:List aU}{ks:List (BitVec 8)}(X0:List Value->AH->Prop)(hp:jH Z s.pol pc)(hq:jH Z { s.pol with pol:=⟨s.pol.pol.default,nS K u.pol.pol.rules++s.pol.pol.rules⟩ } qc)(h:Has H0 Z H (aBL tb tp tq r pc qc K))(hl:Rows H0 9 x2 (rl.map aU.cells))(hok:∀ r∈rl,aU.ok r)(hl10:rl.length<=10)(hks:iN H0 x3 (ks.map u8))(hkn:ks.length<2 ^ 63)(hQ:∀ H',Q (vb true) H')(n:Nat):
  F.f78_l2 E Q x2 x3 (ptr tb 0) (ptr tp 0) (ptr tq 0) (.map (some r)) uv (vi n) (vi n) H X0:=by
 have hlt':decide ((n:Int)<(n:Int))=false:=decide_eq_false (by omega)
 have hr12:=s.rules_12;have hr12u:=u.rules_12;have hc4:=s.pol_conds
 have hrules:∀ x∈nS K u.pol.pol.rules++s.pol.pol.rules,fV x=0/\x.conds.length<=4:=λx hx=>by
  rcases List.mem_append.1 hx with hx | hx
  ·exact⟨u.rules_ok x (aDB hx).1,u.pol_conds x (aDB hx).1⟩
  ·exact⟨s.rules_ok x hx,hc4 x hx⟩
 have hlenq:(nS K u.pol.pol.rules++s.pol.pol.rules).length<=24:=by
  have:(nS K u.pol.pol.rules).length<=u.pol.pol.rules.length:=by
   unfold nS;rw[List.length_reverse];exact List.length_filter_le _ _
  rw[List.length_append];omega
 have ep:iH s.pol=0:=aCY s (rs:=s.pol.pol.rules) s.rules_ok (by omega)
 have eq:iH { s.pol with pol:=⟨s.pol.pol.default,nS K u.pol.pol.rules++s.pol.pol.rules⟩ }=0:=aCY s (λx hx=>(hrules x hx).1) (by omega)
 have sp:s.pol.soon:=aBT s (rs:=s.pol.pol.rules) (by omega) hc4
 have sq:oO.soon { s.pol with pol:=⟨s.pol.pol.default,nS K u.pol.pol.rules++s.pol.pol.rules⟩ }:=aBT s (by omega) λx hx=>(hrules x hx).2
 have hsay:∀ x:aU,x.number∈K\/x.arch≠3221225534#32->zT ⟨s.pol.pol.default,nS K u.pol.pol.rules++s.pol.pol.rules⟩ x=zT s.pol.pol x:=λx hx =>
  aKo s.pol.pol _ x λha e he hn=>(aDB he).2 (by rw[hn];exact hx.resolve_right λk=>k ha)
 have hwq:(∀ x∈nS K u.pol.pol.rules++s.pol.pol.rules,x.conds.length<=4):=λx hx=>(hrules x hx).2;generalize nS K u.pol.pol.rules++s.pol.pol.rules=R at *;have hSC:rM E 80:=aHm hE 80 (by decide)
 have hSR:pM E 80:=aGM hE 80 (by decide)
 obtain⟨p6,_⟩:=zN hp;obtain⟨q6,_⟩:=zN hq;have bp:=h.box (k:=1) (b:=tp) (c:=pc) rfl;have lp:aE 6 (ptr tp 0) H=some (.agg pc.toArray):=by rw[aL,bp,dF _ _ 6 p6];rfl
 simp only[F.f78_l2,aF,hlt',lp,aB];refine S.f10 hE hSC hSR (h.tbl (k:=0) rfl) s.pol hp sp λs1 H2 H3 u1 e1=>⟨λk=>absurd ep k,λ_ ns hns =>?_⟩;have hinp:=aAU (xD ep).2.2 ns;have hupp:=aAY hns;obtain⟨_,m2p,m3p⟩:=aAT (eI s.pol.pol ns) hupp hinp;obtain⟨cp,hcp⟩:=m3p (by have:=aJR hns (a:=12) (c:=4) hr12 hc4;omega)
 obtain⟨op,_,lenp,runp⟩:=m2p cp hcp;refine⟨λe he=>(by rw[hcp]at he;cases he),λc fp hc gf =>?_⟩
 rw[hcp]at hc;cases hc;obtain⟨lv,n1,n2,gf⟩:=gf;have h2:=(h.step (k:=0) rfl u1).merge gf;have bq:=h2.box (k:=2) (b:=tq) (c:=qc) rfl;have lq:aE 6 (ptr tq 0) H3=some (.agg qc.toArray):=by rw[aL,bq,dF _ _ 6 q6];rfl
 simp only[lq,aB];refine S.f10 hE hSC hSR (h2.tbl (k:=0) rfl) { s.pol with pol:=⟨s.pol.pol.default,R⟩ } hq sq λs2 H4 H5 u2 e2=>⟨λk=>absurd eq k,λ_ nq hnq =>?_⟩
 have hnq:wD ⟨s.pol.pol.default,R⟩ nq:=hnq;have hpin:aMh ⟨s.pol.pol.default,R⟩:=(xD eq).2.2;have hinq:=aAU hpin nq;have hupq:=aAY hnq;obtain⟨_,m2q,m3q⟩:=aAT (eI ⟨s.pol.pol.default,R⟩ nq) hupq hinq;obtain⟨cq,hcq⟩:=m3q (by have:=aJR hnq (a:=24) (c:=4) hlenq hwq;omega)
 obtain⟨oq,_,lenq,runq⟩:=m2q cq hcq;refine⟨λe he=>(by rw[hcq]at he;cases he),λc fq hc gq =>?_⟩
 rw[hcq]at hc;cases hc;obtain⟨lw,n3,n4,gq⟩:=gq;have h4:=(h2.step (k:=0) rfl u2).merge gq;have z0:(.int .i64 0:Value)=vi 0:=rfl;have d0:decide ((0:Int)≠0)=false:=rfl;have bp5:=h4.box (k:=1) (b:=tp) (c:=pc) rfl;have lp5:aE 6 (ptr tp 0) H5=some (.agg pc.toArray):=by rw[aL,bp5,dF _ _ 6 p6];rfl
 simp only[z0,fJ,d0,lp5,aB];refine aJn hE s.pol.pol pc ((hp.sub' h4.sub).at_ (by omega)) rl x2 (hl.mono h4.ext) hok (by omega) ks x3 (hks.mono h4.ext) hkn λrv H12 l' e12 ⟨_,hg⟩ hfr hok' hl50 =>?_
 have g12:=h4.add (bB 9 rv (l'.map aU.cells)) e12 hg.toZ (λb hb =>?_) (vM rv)
 rotate_left
 ·have hb':blk rv=some b:=iD.1 hb
  exact⟨hfr b hb',hg.toZ.blk_lt hb'⟩
 have hlr:=hg.toRows.lenSlc;rw[List.length_map]at hlr;simp only[hlr,aB];refine aJg hE (K:=K) (H0:=H0) (Z:=Z) (X:=[dY tb s2,bJ tp pc,bJ tq qc]) op lenp oq lenq hok' (λx hx hk =>?_) (by omega) ?_ hQ
 ·rw[runp x (hok' x hx),runq x (hok' x hx),aAc _ _ hns,aAc _ _ hnq]
  exact(hsay x hk).symm
 ·refine⟨lw,n3,n4,lv,n1,n2,g12.perm ?_⟩
  show List.Perm [dY tb s2,bJ tp pc,bJ tq qc,dP u32 vb r (K.map λk=>(k,true)),bJ fp [lv,vi n1,vi n2],bB 4 lv (cJ cp),bJ fq [lw,vi n3,vi n4],bB 4 lw (cJ cq),bB 9 rv (l'.map aU.cells)] _
  generalize dY tb s2=a;generalize bJ tp pc=b;generalize bJ tq qc=c;generalize dP u32 vb r (K.map λk=>(k,true))=d;generalize bJ fp [lv,vi n1,vi n2]=e;generalize bB 4 lv (cJ cp)=f;generalize bJ fq [lw,vi n3,vi n4]=g;generalize bB 4 lw (cJ cq)=i;generalize bB 9 rv (l'.map aU.cells)=j;refine List.Perm.trans (l₂:=[e,f,g,i,j]++[a,b,c,d]) (List.perm_append_comm (l₁:=[a,b,c,d]) (l₂:=[e,f,g,i,j])) ?_;exact List.Perm.append_left [e,f,g,i,j] (List.perm_append_comm (l₁:=[a,b,c]) (l₂:=[d]))
theorem Has.newtbl{L:List Res}(h:Has H0 Z H L)(q:Value):Has H0 Z (H.new (.cells (iL 0 0 q (.map none) (.map none) 0 0) none)) (L++[dY H.next none]) :=
 h.add _ ((Ext.refl H).new _) ⟨q,0,0,AH.get_new_self _ _⟩ (λb hb=>by
  obtain rfl:b=H.next:=by simpa[dY] using hb
  exact⟨Nat.le_refl _,Nat.lt_succ_self _⟩) (by simp[dY])
theorem aHK{b:Nat}{z c:List Value}(hb:H.get b = .cells z none)(hz:z.length=6)(hc:c.length=6)(hp:c.all plain1=true):aI 6 (ptr b 0) (.agg c.toArray) H=some (H.put b (.cells c none)):=by
 rw[cL,hb];have:AM.aQ z 0 c=c:=by simp[aQ,hz,hc]
 simp only[List.size_toArray,List.toList_toArray,hc,hz,hp,Nat.zero_add,Nat.le_refl,and_self,if_true,this]
theorem S.f64(hE:aW E)(hQ:Q (ptr H.next 0) (H.new (.cells (iL 0 0 (.int .u32 0) (.map none) (.map none) 0 0) none))):E.call 6 [] H Q:=by
 apply hE.f64;have hbv2:aK [(0,3),(3,1),(4,1),(5,1),(6,1)] #[(.int .u32 0),(.int .i32 0),(.int .u32 0),(.map none),(.map none),vi 0,vi 0] []=some (.agg (iL 0 0 (.int .u32 0) (.map none) (.map none) 0 0).toArray):=rfl;simp only[F.f64,hbv2,aX,AM.aT,aR,List.toList_toArray,aB];exact hQ
theorem S.law_CompileOthers(hE:aW E)(args:List Value)(ha:lN H [xK,xK,.slice 9 aGi,.slice 1 (.int .u8)] args)(hQ:∀ H',Q (vb true) H'):E.call 3 args H Q:=by
 obtain⟨v1,_,rfl,h1,ha⟩:=ha.cons_inv;obtain⟨v2,_,rfl,h2,ha⟩:=ha.cons_inv;obtain⟨v3,_,rfl,h3,ha⟩:=ha.cons_inv;obtain⟨v4,_,rfl,h4,ha⟩:=ha.cons_inv;obtain rfl:=ha.nil_inv;obtain⟨s,sc,rfl,hs⟩:=h1.small;obtain⟨u,uc,rfl,hu⟩:=h2.small;obtain⟨rl,hl,hok⟩:=h3.recs;obtain⟨ks,hks,hkn⟩:=h4.u8s';apply hE.f78;have hs8:sc.length=8:=by obtain⟨_,_,_,_,rfl,_⟩:=hs;rfl
 have hu8:uc.length=8:=by obtain⟨_,_,_,_,rfl,_⟩:=hu;rfl
 have x1:Ext H (H.new (.cells sc none)):=(Ext.refl _).new _;have b1:=AH.get_new_self H (.cells sc none);have x2:Ext (H.new (.cells sc none)) ((H.new (.cells sc none)).new (.cells uc none)):=(Ext.refl _).new _;have b2:=AH.get_new_self (H.new (.cells sc none)) (.cells uc none);simp only[F.f78,aX,AM.aT,aR,List.toList_toArray,aB];have n1:H.next+1=(H.new (.cells sc none)).next:=rfl
 try rw[n1]
 clear n1;generalize H.new (.cells sc none)=H1 at *;generalize H.next=t1 at *;generalize H1.new (.cells uc none)=H2 at *;generalize H1.next=t2 at *;refine S.f77 hE λH3 e3 =>?_;have x3:=(x1.trans x2).trans e3;have hlv:=(hl.mono x3).lenSlc;rw[List.length_map]at hlv;have i10:(.int .i64 10:Value)=vi 10:=rfl;simp only[hlv,i10,cN,bW,Bool.not_true,aB]
 by_cases h10:(10:Int)<rl.length
 ·simp only[decide_eq_true h10,aB]
  exact hQ _
 have b1:=(x2.trans e3).cells b1;have b2:=e3.cells b2;have hs3:=hs.sub x3.sub;have hu3:=hu.sub x3.sub;have hl3:=hl.mono x3;have hks3:=hks.mono x3;simp only[decide_eq_false h10,aB];refine S.f64 hE ?_;have g4:Has H3 H3 (H3.new (.cells (iL 0 0 (.int .u32 0) (.map none) (.map none) 0 0) none)) [dY H3.next none]:=(Has.begin (Ext.refl H3) (Sub.refl H3)).newtbl _;generalize H3.new (.cells (iL 0 0 (.int .u32 0) (.map none) (.map none) 0 0) none)=H4 at *;generalize H3.next=tb at *;have x4:=g4.ext;have b14:=x4.cells b1;have lo1:∀ {K:AH},Ext H4 K->aE 8 (ptr t1 0) K=some (.agg sc.toArray):=λe=>by rw[aL,e.cells b14,dF _ _ 8 hs8];rfl
 have g5:=g4.newbox [(.string ⟨#[]⟩),(.int .u32 0),(.slice none 0 0),(.int .u16 0),(.slice none 0 0),(.slice none 0 0)];have x5:Ext H4 (H4.new (.cells [(.string ⟨#[]⟩),(.int .u32 0),(.slice none 0 0),(.int .u16 0),(.slice none 0 0),(.slice none 0 0)] none)):=(Ext.refl _).new _;simp only[aR,lo1 (Ext.refl _),bE,aB];generalize H4.new (.cells [(.string ⟨#[]⟩),(.int .u32 0),(.slice none 0 0),(.int .u16 0),(.slice none 0 0),(.slice none 0 0)] none)=H5 at *;generalize H4.next=tp at *;have g6:=g5.newbox [(.string ⟨#[]⟩),(.int .u32 0),(.slice none 0 0),(.int .u16 0),(.slice none 0 0),(.slice none 0 0)];have x6:Ext H5 (H5.new (.cells [(.string ⟨#[]⟩),(.int .u32 0),(.slice none 0 0),(.int .u16 0),(.slice none 0 0),(.slice none 0 0)] none)):=(Ext.refl _).new _;have l6:=AH.lt_cells (AH.get_new_self H5 (.cells [(.string ⟨#[]⟩),(.int .u32 0),(.slice none 0 0),(.int .u16 0),(.slice none 0 0),(.slice none 0 0)] none));generalize H5.new (.cells [(.string ⟨#[]⟩),(.int .u32 0),(.slice none 0 0),(.int .u16 0),(.slice none 0 0),(.slice none 0 0)] none)=H6 at *;generalize H5.next=tq at *;refine S.pinfoldlaw09_Small_PolicyZ hE s sc H3 g6.sub hs3 λZ7 H7 pc e7 f7 z7 hp7 =>?_;have g7:=g6.refreeze e7 f7 z7;have l5:=g5.box_lt (k:=1) (b:=tp) (c:=[(.string ⟨#[]⟩),(.int .u32 0),(.slice none 0 0),(.int .u16 0),(.slice none 0 0),(.slice none 0 0)]) rfl;refine⟨e7.get l6,(x6.trans e7).get l5,(lo1 (x5.trans (x6.trans e7))).trans (lo1 (Ext.refl _)).symm,?_⟩;refine S.pinfoldlaw09_Small_PolicyZ hE s sc Z7 g7.sub (hs3.sub f7.1) λZ8 H8 qc e8 f8 z8 hq8 =>?_;have g8:=g7.refreeze e8 f8 z8;refine⟨(e7.trans e8).get l6,(x6.trans (e7.trans e8)).get l5,?_⟩;obtain⟨p6,pp⟩:=zN hp7;obtain⟨q6,qp⟩:=zN hq8;have st1:=aHK (g8.box (k:=1) (b:=tp) (c:=[(.string ⟨#[]⟩),(.int .u32 0),(.slice none 0 0),(.int .u16 0),(.slice none 0 0),(.slice none 0 0)]) rfl) rfl p6 pp;have g9:=g8.put (k:=1) (b:=tp) (c:=[(.string ⟨#[]⟩),(.int .u32 0),(.slice none 0 0),(.int .u16 0),(.slice none 0 0),(.slice none 0 0)]) rfl pc;have st2:=aHK (g9.box (k:=2) (b:=tq) (c:=[(.string ⟨#[]⟩),(.int .u32 0),(.slice none 0 0),(.int .u16 0),(.slice none 0 0),(.slice none 0 0)]) rfl) rfl q6 qp
 have g10:=g9.put (k:=2) (b:=tq) (c:=[(.string ⟨#[]⟩),(.int .u32 0),(.slice none 0 0),(.int .u16 0),(.slice none 0 0),(.slice none 0 0)]) rfl qc;have g11:=g10.newmap u32 vb;have hmw:∀ (H:AH) (K:Value->AH->Prop),mY H K=K (.map (some H.next)) (H.new (.map [] 0 true)):=λ_ _=>rfl;have bp:=g11.box (k:=1) (b:=tp) (c:=pc) rfl;have hp8:=hp7.sub' f8.1;have hp8':=hp8;obtain⟨pv,ppv,pqv,epc,hpv,_,_⟩:=hp8';have c2:pc[2]? = some pv:=by rw[epc];rfl
 have lpv:=(hpv.sub (λ_ _ _ _ h e=>eA.sub h e) g11.sub).lenSlc;have hr12:=s.rules_12;have hr12u:=u.rules_12;simp only[st1,st2,hmw,bp,c2,lpv,aB];generalize ((H8.put tp (.cells pc none)).put tq (.cells qc none)).new (.map [] 0 true)=H11 at *;generalize ((H8.put tp (.cells pc none)).put tq (.cells qc none)).next=r at *;refine aI5 hE (t2:=t2) hpv (by omega) (show Has H3 Z8 H11 (aBL tb tp tq r pc qc []) from g11) λK H12 g12 hK =>?_
 have b2:=g12.ext.cells b2;have lo2:aE 8 (ptr t2 0) H12=some (.agg uc.toArray):=by rw[aL,b2,dF _ _ 8 hu8];rfl
 simp only[lo2,aB];refine S.pinfoldlaw09_Small_PolicyZ hE u uc Z8 g12.sub (hu3.sub (f7.1.trans f8.1)) λZ13 H13 vc e13 f13 z13 hv13 =>?_;have g13:=g12.refreeze e13 f13 z13;obtain⟨uv,upv,uqv,evc,huv,_,_⟩:=hv13;have hpt:aAh (.agg vc.toArray) 2=some uv:=by rw[evc];rfl
 have luv:=(huv.sub (λ_ _ _ _ h e=>eA.sub h e) g13.sub).lenSlc;simp only[hpt,luv,aB];refine aI4 hE (x:=s.pol) huv (by omega) (by omega) (hq8.sub' f13.1) g13 λZ14 qc' H14 hz14 g14 hq14 X0 =>?_
 exact aGF hE (u:=u) X0 (hp8.sub' (f13.1.trans hz14)) hq14 g14 hl3 hok (by omega) hks3 hkn hQ u.pol.pol.rules.length
end
end
end Go.AM
