/- CONTRACTS ON THE PRINTED FUNCTIONS. -/
import Derived.Test.YtcodjlonfgiegaaGreatDoorC3a1aC1
set_option linter.all false
section
namespace Go.AM
set_option maxRecDepth 20000
section
variable {E:Sy} {H H' H0 Z:AH} {Q:Value->AH->Prop}
theorem S.names_Word_p (hE:Fold E) (hQ:∀ H',Ext H H'->Q (vb true) H'):E.call (E.fid i.f60) [(.string ⟨#[112]⟩)] H Q:=by
 apply hE.f60
 have k1:lenStr (.string ⟨#[112]⟩)=some (.int .i64 1):=rfl
 have k2:binInt .lss (.int .i64 1) (.int .i64 1)=some (vb false):=rfl
 have k3:binInt .gtr (.int .i64 1) (.int .i64 14)=some (vb false):=rfl
 have k4:ixStr (.string ⟨#[112]⟩) (.int .i64 0)=some (.int .u8 112):=rfl
 have k5:binInt .lss (.int .u8 112) (.int .u8 97)=some (vb false):=rfl
 have k6:binInt .gtr (.int .u8 112) (.int .u8 122)=some (vb false):=rfl
 have k7:rangeS (.string ⟨#[112]⟩)=some (.siter ⟨#[112]⟩ 0,mkPtr):=rfl
 simp only [F.f60,k1,k2,k3,k4,k5,k6,k7,AM.mk_some,mkPtr_eq_z,stdZ]
 have h1:(H.new (.siter ⟨#[112]⟩ 0)).get H.next = .siter ⟨#[112]⟩ 0:=AH.get_new_self _ _
 have x1:Ext H (H.new (.siter ⟨#[112]⟩ 0)):=(Ext.refl _).new _
 have hlt:H.next<(H.new (.siter ⟨#[112]⟩ 0)).next:=by rw [AH.next_new]; omega
 generalize hH1:H.new (.siter ⟨#[112]⟩ 0)=H1 at *
 have n1:nextS (ptr H.next 0) H1=some (.tuple #[.bool true,.int .i64 0,.int .i32 112],H1.put H.next (.siter ⟨#[112]⟩ 1)):=by
  simp only [nextS,ptr,h1]; rfl
 have x2:Ext H (H1.put H.next (.siter ⟨#[112]⟩ 1)):=x1.put (Nat.le_refl _) _
 have h2:(H1.put H.next (.siter ⟨#[112]⟩ 1)).get H.next = .siter ⟨#[112]⟩ 1:=AH.get_put_self _ _ hlt
 have n2:nextS (ptr H.next 0) (H1.put H.next (.siter ⟨#[112]⟩ 1))=some (.tuple #[.bool false],H1.put H.next (.siter ⟨#[112]⟩ 1)):=by
  simp only [nextS,ptr,h2]; rfl
 refine LoopL.step fun X hX =>?_
 have e0:ext (.tuple #[.bool true,.int .i64 0,.int .i32 112]) 0=some (.bool true):=rfl
 have e2:ext (.tuple #[.bool true,.int .i64 0,.int .i32 112]) 2=some (.int .i32 112):=rfl
 have e3:ext (.tuple #[.bool false]) 0=some (.bool false):=rfl
 have c1:binInt .lss (.int .i32 112) (.int .i32 97)=some (vb false):=rfl
 have c2:binInt .gtr (.int .i32 112) (.int .i32 122)=some (vb false):=rfl
 simp only [F.f60_l1,n1,opt2_some,e0,e2,c1,c2,stdZ]
 refine hX _ _ ?_
 refine LoopL.step fun X' hX' =>?_
 simp only [F.f60_l1,n2,opt2_some,e3,stdZ]
 exact hQ _ x2
theorem S.policy_action_allow (hE:Fold E) (hQ:Q (vb true) H):E.call (E.fid i.f77) [u32 2147418112#32] H Q:=by
 apply hE.f77
 have k1:(.int .u32 2147483648:Value)=u32 2147483648#32:=rfl
 have k2:(.int .u32 2147221504:Value)=u32 2147221504#32:=rfl
 have k3:(.int .u32 2147418112:Value)=u32 2147418112#32:=rfl
 have d1:decide (2147418112#32=2147483648#32)=false:=by decide
 have d2:decide (2147418112#32=2147221504#32)=false:=by decide
 have d3:decide (2147418112#32=2147418112#32)=true:=by decide
 simp only [F.f77,F.f77_j1,k1,k2,k3,u32_eql,d1,d2,d3,stdZ]
 exact hQ
def pc0:List Value:=[(.string ⟨#[112]⟩),u32 2147418112#32,nilS,u16 0#16,nilS,nilS]
theorem S.policy_Policy_Check_0 (hE:Fold E) (t:Nat) (hQ:∀ H',Ext H H'->Q (.int .i64 0) H'):E.call (E.fid i.f72) [.agg pc0.toArray,ptr t 0] H Q:=by
 apply hE.f72
 have b1:=AH.get_new_self H (.cells pc0 none)
 have x1:Ext H (H.new (.cells pc0 none)):=(Ext.refl _).new _
 have c0:pc0[0]? = some (.string ⟨#[112]⟩):=rfl
 have c1:pc0[1]? = some (u32 2147418112#32):=rfl
 have c2:pc0[2]? = some nilS:=rfl
 have c3:pc0[3]? = some (u16 0#16):=rfl
 have c4:pc0[4]? = some nilS:=rfl
 have c5:pc0[5]? = some nilS:=rfl
 have ln:lenSlc nilS=some (.int .i64 0):=rfl
 have g1:binInt .gtr (.int .i64 0) (.int .i64 64)=some (vb false):=rfl
 have g2:binInt .gtr (.int .i64 0) (.int .i64 32)=some (vb false):=rfl
 have g3:binInt .lss (.int .i64 0) (.int .i64 0)=some (vb false):=rfl
 have g4:binInt .neq (.int .i64 0) (.int .i64 0)=some (vb false):=rfl
 simp only [F.f72,boxO_agg_z,AM.mk_some,mkPtr_eq_z,List.toList_toArray,ptr_eql_nil,b1,c0,stdZ]
 generalize H.new (.cells pc0 none)=H1 at *
 generalize H.next=t1 at *
 refine S.names_Word_p hE fun H2 e2 =>?_
 have b2:=e2.cells b1
 have x2:=x1.trans e2
 simp only [b2,c1,stdZ]
 refine S.policy_action_allow hE ?_
 simp only [b2,c2,c4,c5,ln,g1,g2,c3,stdZ]
 apply hE.f87
 have v1:binInt .andNot (u16 0#16) (.int .u16 51199)=some (u16 0#16):=rfl
 have v2:binInt .eql (u16 0#16) (.int .u16 0)=some (vb true):=rfl
 simp only [F.f87,v1,v2,b2,c2,ln,stdZ]
 refine LoopL.step fun X hX =>?_
 have lo:∀ {K:AH},Ext H2 K->loadN 6 (ptr t1 0) K=some (.agg pc0.toArray):=fun e=>by rw [loadN_ptr,e.cells b2]; rfl
 simp only [F.f72_l1,g3,lo (Ext.refl _),stdZ]
 apply hE.f74
 have hmw:∀ (H:AH) (K:Value->AH->Prop),mapW H K=K (.map (some H.next)) (H.new (.map [] 0 true)):=fun _ _=>rfl
 have y1:Ext H2 ((H2.new (.cells pc0 none)).new (.map [] 0 true)):=((Ext.refl _).new _).new _
 have b3:((H2.new (.cells pc0 none)).new (.map [] 0 true)).get H2.next = .cells pc0 none:=by rw [AH.get_new_ne _ _ (by rw [AH.next_new]; omega),AH.get_new_self]
 simp only [F.f74,boxO_agg_z,AM.mk_some,mkPtr_eq_z,List.toList_toArray,hmw,b3,c4,ln,stdZ]
 generalize (H2.new (.cells pc0 none)).new (.map [] 0 true)=H3 at *
 refine LoopL.step fun X2 hX2 =>?_
 simp only [F.f74_l1,g3,g4,lo y1,stdZ]
 apply hE.f75
 have y2:Ext H3 ((H3.new (.cells pc0 none)).new (.map [] 0 true)):=((Ext.refl _).new _).new _
 have b4:((H3.new (.cells pc0 none)).new (.map [] 0 true)).get H3.next = .cells pc0 none:=by rw [AH.get_new_ne _ _ (by rw [AH.next_new]; omega),AH.get_new_self]
 simp only [F.f75,boxO_agg_z,AM.mk_some,mkPtr_eq_z,List.toList_toArray,hmw,b4,c5,ln,stdZ]
 generalize (H3.new (.cells pc0 none)).new (.map [] 0 true)=H4 at *
 refine LoopL.step fun X3 hX3 =>?_
 simp only [F.f75_l1,g3,stdZ]
 exact hQ _ ((x2.trans y1).trans y2)
end
end Go.AM
end
section
namespace Go.AM
set_option maxRecDepth 20000
def pol0:PolD:=⟨2147418112#32,[]⟩
def plan0:PlanD:=⟨[],2147418112#32⟩
def parts0:List PartD:=peepF (lowerF plan0).parts none
def tidy0:List PartD:=tidyF (parts0.length+1) parts0
def code5:List InsnD:=[⟨32#16,0#8,0#8,4#32⟩,⟨21#16,0#8,2#8,3221225534#32⟩,⟨32#16,0#8,0#8,0#32⟩,⟨6#16,0#8,0#8,2147418112#32⟩,⟨6#16,0#8,0#8,2147483648#32⟩]
def code6:List InsnD:=[⟨32#16,0#8,0#8,4#32⟩,⟨21#16,0#8,3#8,3221225534#32⟩,⟨32#16,0#8,0#8,0#32⟩,⟨5#16,0#8,0#8,0#32⟩,⟨6#16,0#8,0#8,2147418112#32⟩,⟨6#16,0#8,0#8,2147483648#32⟩]
def outIs (x:Int ⊕ MkD) (c:List InsnD):Bool:=match x with
 | .inl _=>false
 | .inr s=>decide (s.out=c)
theorem outIs_inr {x:Int ⊕ MkD} {c:List InsnD} (h:outIs x c=true):∃ s,x = .inr s/\s.out=c:=by
 cases x with
 | inl e=>cases h
 | inr s=>exact ⟨s,rfl,of_decide_eq_true h⟩
theorem made5:outIs (makeF tidy0) code5=true:=by decide +kernel
theorem made6:outIs (makeF parts0) code6=true:=by decide +kernel
theorem len0:(lowerF plan0).parts.length<100:=by decide +kernel
theorem lenP:parts0.length<100:=by decide +kernel
theorem lenT:tidy0.length<100:=by decide +kernel
theorem code5_ok:insnsOk code5:=by
 have h0:insnsOk []:=fun k hk=>by simp at hk
 have h1:=ok_cons (x:=⟨6#16,0#8,0#8,2147483648#32⟩) (.inr (.inr (.inr (.inr (.inr (.inr rfl)))))) h0
 have h2:=ok_cons (x:=⟨6#16,0#8,0#8,2147418112#32⟩) (.inr (.inr (.inr (.inr (.inr (.inr rfl)))))) h1
 have h3:=ok_cons (x:=⟨32#16,0#8,0#8,0#32⟩) (.inl ⟨rfl,by decide,by decide⟩) h2
 have h4:=ok_cons (x:=⟨21#16,0#8,2#8,3221225534#32⟩) (.inr (.inr (.inr (.inl ⟨rfl,by decide,by decide⟩)))) h3
 exact ok_cons (x:=⟨32#16,0#8,0#8,4#32⟩) (.inl ⟨rfl,by decide,by decide⟩) h4
theorem code5_end:endOk code5:=⟨by decide,rfl⟩
section
variable {E:Sy} {H H' H0 Z:AH} {Q:Value->AH->Prop}
theorem pc0_at:PolAt H pol0 pc0:=⟨(by decide:(0:Nat)<2 ^ 63),_,_,_,_,_,rfl,[],Rows.nil _ _ none,rfl,fun i h=>by simp [pol0] at h⟩
theorem nums0 {ns:List (BitVec 32)} (h:Nums pol0 ns):ns=[]:=by
 apply List.eq_nil_iff_forall_not_mem.2
 intro n hn
 obtain ⟨r,hr,_⟩:=(h.mem n).1 hn
 cases hr
theorem S.compile_Insns_0 (hE:Fold E) (t:Nat) (hQ:∀ w H',Ext H H'->Rows H' 4 w (insnR code5)->Q (.tuple #[w,(.int .i64 0)]) H'):E.call (E.fid i.f11) [.agg pc0.toArray,ptr t 0] H Q:=by
 apply hE.f11
 have b1:=AH.get_new_self H (.cells pc0 none)
 have x1:Ext H (H.new (.cells pc0 none)):=(Ext.refl _).new _
 have lo:∀ {K:AH},Ext (H.new (.cells pc0 none)) K->loadN 6 (ptr H.next 0) K=some (.agg pc0.toArray):=fun e=>by rw [loadN_ptr,e.cells b1]; rfl
 have g4:binInt .neq (.int .i64 0) (.int .i64 0)=some (vb false):=rfl
 have g5:binInt .eql (.int .i64 0) (.int .i64 0)=some (vb true):=rfl
 simp only [F.f11,boxO_agg_z,AM.mk_some,mkPtr_eq_z,List.toList_toArray,lo (Ext.refl _),stdZ]
 generalize H.new (.cells pc0 none)=H1 at *
 generalize H.next=t1 at *
 refine S.policy_Policy_Check_0 hE t fun H2 e2 =>?_
 have lo2:=lo e2
 simp only [g4,lo2,stdZ]
 have hSC:SortsC E 12:=sortsC_few hE
 have hSR:SortsR E 12:=fun hg hm hQ=>sortsR_few hE hg (by omega) hQ
 refine S.f20 hE (sm:=12) (by decide) hSC hSR pol0 pc0 pc0_at (by decide) (fun r hr=>by cases hr) fun ns pl H3 e3 hns hpl =>?_
 have hn:=nums0 hns
 subst hn
 have hpl:PlanAt H3 plan0 pl:=hpl
 refine S.f45 hE plan0 pl hpl (by decide) fun pv H4 e4 hpv =>?_
 have l0:=len0
 refine S.f12 hE hpv (by omega) fun pw H5 e5 hpw =>?_
 have hpw:Rows H5 7 pw (partR parts0):=hpw
 have lp:=lenP
 refine S.f36 hE hpw (by omega) fun tw H6 e6 htw =>?_
 have htw:Rows H6 7 tw (partR tidy0):=htw
 have lt:=lenT
 obtain ⟨s5,m5,o5⟩:=outIs_inr made5
 obtain ⟨s6,m6,o6⟩:=outIs_inr made6
 refine S.f35 hE htw (by omega) fun H7 e7=>⟨fun e he=>(by rw [m5] at he; cases he),fun s w hs hw =>?_⟩
 rw [m5] at hs
 cases hs
 rw [o5] at hw
 simp only [stdZ]
 refine S.f35 hE (hpw.mono (e6.trans e7)) (by omega) fun H8 e8=>⟨fun e he=>(by rw [m6] at he; cases he),fun s w6 hs hw6 =>?_⟩
 rw [m6] at hs
 cases hs
 rw [o6] at hw6
 have hl5:=(hw.mono e8).lenSlc
 have hl6:=hw6.lenSlc
 have n5:(insnR code5).length=5:=rfl
 have n6:(insnR code6).length=6:=rfl
 rw [n5] at hl5
 rw [n6] at hl6
 have hlt:binInt .lss (vi ((6:Nat):Int)) (vi ((5:Nat):Int))=some (vb false):=rfl
 simp only [g4,g5,hl5,hl6,hlt,stdZ]
 exact hQ w _ ((((((((x1.trans e2).trans e3).trans e4).trans e5).trans e6).trans e7).trans e8)) (hw.mono e8)
theorem S.compile_Filter_0 (hE:Fold E) (t:Nat) (hQ:∀ fb H0 H',Ext H H0->Fil H0 H0 H' fb code5 []->Q (.tuple #[ptr fb 0,(.int .i64 0)]) H'):E.call (E.fid i.f10) [.agg pc0.toArray,ptr t 0] H Q:=by
 apply hE.f10
 have b1:=AH.get_new_self H (.cells pc0 none)
 have x1:Ext H (H.new (.cells pc0 none)):=(Ext.refl _).new _
 have lo:loadN 6 (ptr H.next 0) (H.new (.cells pc0 none))=some (.agg pc0.toArray):=by rw [loadN_ptr,b1]; rfl
 have g4:binInt .neq (.int .i64 0) (.int .i64 0)=some (vb false):=rfl
 simp only [F.f10,boxO_agg_z,AM.mk_some,mkPtr_eq_z,List.toList_toArray,lo,stdZ]
 generalize H.new (.cells pc0 none)=H1 at *
 refine S.compile_Insns_0 hE t fun w H2 e2 hw =>?_
 simp only [g4,stdZ]
 refine S.f109 hE hw code5_ok code5_end (by decide) fun fb H3 g3 =>?_
 have s3:storeN 2 (ptr H3.next 0) (.agg #[vi 0,vi 0]) (H3.new (.cells [(.int .i64 0),(.int .i64 0)] none))=some (H3.new (.cells [vi 0,vi 0] none)):=fresh_store (n:=2) rfl rfl rfl
 have l3:loadN 2 (ptr H3.next 0) (H3.new (.cells [vi 0,vi 0] none))=some (.agg #[vi 0,vi 0]):=fresh_load (c:=[vi 0,vi 0]) rfl
 have hbv0:buildV [(0,1),(1,1)] #[(.int .i64 0),(.int .i64 0)] []=some (.agg #[vi 0,vi 0]):=rfl
 have hne:binAgg [0,0] .neq (.agg #[vi 0,vi 0]) (.agg #[vi 0,vi 0])=some (vb false):=rfl
 simp only [allocW_eq,s3,l3,hbv0,hne,stdZ]
 exact hQ fb H2 _ (x1.trans e2) (g3.grow ((Ext.refl H3).new _))
theorem S.f68 (hE:Fold E) (hQ:∀ H',Ext H H'->Q (vb true) H'):E.call (E.fid i.f68) [] H Q:=by
 apply hE.f68
 have hbv:buildV [(0,1),(1,1),(2,1),(3,1),(4,1),(5,1)] #[(.string ⟨#[]⟩),(.int .u32 0),(.slice none 0 0),(.int .u16 0),(.slice none 0 0),(.slice none 0 0)] [(0,(.string ⟨#[112]⟩)),(1,(.int .u32 2147418112))]=some (.agg pc0.toArray):=rfl
 simp only [F.f68,hbv,stdZ]
 apply hE.f59
 have hbv2:buildV [(0,3),(3,1),(4,1),(5,1),(6,1)] #[(.int .u32 0),(.int .i32 0),(.int .u32 0),(.map none),(.map none),(.int .i64 0),(.int .i64 0)] []=some (.agg [(.int .u32 0),(.int .i32 0),(.int .u32 0),(.map none),(.map none),(.int .i64 0),(.int .i64 0)].toArray):=rfl
 simp only [F.f59,hbv2,boxO_agg_z,AM.mk_some,mkPtr_eq_z,List.toList_toArray,stdZ]
 have x1:Ext H (H.new (.cells [(.int .u32 0),(.int .i32 0),(.int .u32 0),(.map none),(.map none),(.int .i64 0),(.int .i64 0)] none)):=(Ext.refl _).new _
 generalize H.new (.cells [(.int .u32 0),(.int .i32 0),(.int .u32 0),(.map none),(.map none),(.int .i64 0),(.int .i64 0)] none)=H1 at *
 refine S.compile_Filter_0 hE _ fun fb H0 H2 e0 g2 =>?_
 have g5:binInt .eql (.int .i64 0) (.int .i64 0)=some (vb true):=rfl
 simp only [g5,stdZ]
 apply hE.f107
 obtain ⟨lv,n1,n2,g⟩:=id g2
 have hb:=g.box (k:=0) (b:=fb) (c:=[lv,vi n1,vi n2]) rfl
 have hl:=(g.rows (k:=1) (sz:=4) (v:=lv) (rows:=insnR code5) rfl).lenSlc
 have n5:(insnR code5).length=5:=rfl
 rw [n5] at hl
 have g6:binInt .eql (vi ((5:Nat):Int)) (.int .i64 5)=some (vb true):=rfl
 simp only [F.f107,ptr_eql_nil,hb,hl,g6,stdZ]
 exact hQ _ ((x1.trans e0).trans g2.ext)
end
end Go.AM
end
section
namespace Go.AM
set_option maxRecDepth 20000
def wf1 (p:PartD) (h:List Int):Prop:=(p.kind=1#8->p.to ∉ h)/\(p.kind=4#8->p.to∈h)/\(p.kind=3#8->p.to∈h/\p.els∈h)
theorem wfL_cons {p:PartD} {l:List PartD}:wfL (p :: l)↔wf1 p (heres l)/\wfL l:=by
 constructor
 ·exact fun h=>⟨h [] p l rfl,h.tail⟩
 ·rintro ⟨h1,h2⟩ a q b e
  cases a with
  | nil =>
   simp only [List.nil_append,List.cons.injEq] at e
   obtain ⟨rfl,rfl⟩:=e
   exact h1
  | cons x a =>
   simp only [List.cons_append,List.cons.injEq] at e
   exact h2 a q b e.2
theorem wf1_plain {p:PartD} (h:p.kind=2#8) (l:List Int):wf1 p l:=⟨fun k=>by rw [h] at k; exact absurd k (by decide),fun k=>by rw [h] at k; exact absurd k (by decide),fun k=>by rw [h] at k; exact absurd k (by decide)⟩
theorem heres_plain {p:PartD} (h:p.kind=2#8) (l:List PartD):heres (p :: l)=heres l:=by rw [heres_cons,if_neg (by rw [h]; decide)]
theorem dbl_heres:∀ l:List PartD,heres (dblF l)=heres l
 | []=>rfl
 | p :: l=>by
  unfold dblF
  split
  ·rename_i h
   have h2:=(isLoad_kind h).1
   rw [heres_plain h2,heres_plain h2,heres_plain h2,dbl_heres l]
  ·rw [heres_cons,heres_cons,dbl_heres l]
theorem dbl_wf:∀ {l:List PartD},wfL l->wfL (dblF l)
 | [],h=>h
 | p :: l,h=>by
  have h1:=wfL_cons.1 h
  unfold dblF
  split
  ·rename_i hl
   have h2:=(isLoad_kind hl).1
   exact wfL_cons.2 ⟨wf1_plain h2 _,wfL_cons.2 ⟨wf1_plain h2 _,dbl_wf h1.2⟩⟩
  ·refine wfL_cons.2 ⟨?_,dbl_wf h1.2⟩
   rw [dbl_heres]; exact h1.1
theorem peep_heres:∀ (l:List PartD) (now:Option (BitVec 32)),(∀ p∈l,partOk p)->heres (peepF l now)=heres l
 | [],_,_=>rfl
 | p :: l,now,hp=>by
  have ih:=fun n=>peep_heres l n fun q hq=>hp q (List.mem_cons_of_mem _ hq)
  rcases part_kind (hp p (List.mem_cons_self ..)) with h1 | h2 | h3 | h4
  ·rw [peep_here h1,heres_cons,heres_cons,ih]
  ·rw [heres_plain h2]
   cases hld:isLoad p with
   | true =>
    rw [peep_load hld]
    split
    ·exact ih _
    ·rw [heres_plain h2]; exact ih _
   | false=>rw [peep_plain h2 hld,heres_plain h2]; exact ih _
  ·rw [peep_jump (by rw [h3]; decide) (by rw [h3]; decide),heres_cons,heres_cons,ih]
  ·rw [peep_jump (by rw [h4]; decide) (by rw [h4]; decide),heres_cons,heres_cons,ih]
theorem peep_wf:∀ {l:List PartD} (now:Option (BitVec 32)),(∀ p∈l,partOk p)->wfL l->wfL (peepF l now)
 | [],_,_,h=>h
 | p :: l,now,hp,h=>by
  have hl:∀ q∈l,partOk q:=fun q hq=>hp q (List.mem_cons_of_mem _ hq)
  have h1:=wfL_cons.1 h
  have ih:=fun n=>peep_wf (l:=l) n hl h1.2
  rcases part_kind (hp p (List.mem_cons_self ..)) with k1 | k2 | k3 | k4
  ·rw [peep_here k1]; exact wfL_cons.2 ⟨by rw [peep_heres _ _ hl]; exact h1.1,ih _⟩
  ·cases hld:isLoad p with
   | true =>
    rw [peep_load hld]
    split
    ·exact ih _
    ·exact wfL_cons.2 ⟨wf1_plain k2 _,ih _⟩
   | false=>rw [peep_plain k2 hld]; exact wfL_cons.2 ⟨wf1_plain k2 _,ih _⟩
  ·rw [peep_jump (by rw [k3]; decide) (by rw [k3]; decide)]; exact wfL_cons.2 ⟨by rw [peep_heres _ _ hl]; exact h1.1,ih _⟩
  ·rw [peep_jump (by rw [k4]; decide) (by rw [k4]; decide)]; exact wfL_cons.2 ⟨by rw [peep_heres _ _ hl]; exact h1.1,ih _⟩
theorem peep_mem:∀ {l:List PartD} {now:Option (BitVec 32)} {p:PartD},p∈peepF l now->p∈l
 | [],_,_,h=>by cases h
 | q :: l,now,p,h=>by
  unfold peepF at h
  have key:∀ {n},p∈q :: peepF l n->p∈q :: l:=fun h=>by
   rcases List.mem_cons.1 h with h | h
   ·rw [h]; exact List.mem_cons_self ..
   ·exact List.mem_cons_of_mem _ (peep_mem h)
  split at h
  ·exact key h
  ·split at h
   ·split at h
    ·exact List.mem_cons_of_mem _ (peep_mem h)
    ·exact key h
   ·split at h
    ·exact key h
    ·exact key h
theorem dbl_cons (p:PartD) (l:List PartD):dblF (p :: l)=if isLoad p=true then p :: p :: dblF l else p :: dblF l:=rfl
theorem dbl_app:∀ (a b:List PartD),dblF (a++b)=dblF a++dblF b
 | [],_=>rfl
 | p :: a,b=>by
  rw [List.cons_append,dbl_cons,dbl_cons,dbl_app a b]
  split <;> rfl
theorem peep_ret (k:BitVec 32):∀ (l:List PartD) (now:Option (BitVec 32)),∃ l0,peepF (l++[retP k]) now=l0++[retP k]
 | [],now=>⟨[],peep_plain (p:=retP k) rfl rfl [] now⟩
 | p :: l,now=>by
  rw [List.cons_append]
  have key:∀ n,∃ l0,p :: peepF (l++[retP k]) n=l0++[retP k]:=fun n=>by
   obtain ⟨l0,h⟩:=peep_ret k l n
   exact ⟨p :: l0,by rw [h]; rfl⟩
  unfold peepF
  split
  ·exact key _
  ·split
   ·split
    ·exact peep_ret k l _
    ·exact key _
   ·split
    ·exact key _
    ·exact key _
def noTwice:List PartD->Prop
 | []=>True
 | [_]=>True
 | p :: q :: l=>¬ (isLoad q=true/\p=q)/\noTwice (q :: l)
def headNot (now:Option (BitVec 32)) (l:List PartD):Prop:=∀ q t,l=q :: t->isLoad q=true->now≠some q.insn.k
theorem peep_head:∀ (l:List PartD) (now:Option (BitVec 32)),headNot now (peepF l now)
 | [],_=>fun q t h=>by cases h
 | p :: l,now=>by
  intro q t h hq
  cases hld:isLoad p with
  | true =>
   rw [peep_load hld] at h
   by_cases hn:now=some p.insn.k
   ·rw [if_pos hn] at h
    exact peep_head l now q t h hq
   ·rw [if_neg hn] at h
    simp only [List.cons.injEq] at h
    rw [<- h.1]; exact hn
  | false =>
   have:∃ n,peepF (p :: l) now=p :: peepF l n:=by
    by_cases h1:p.kind=1#8
    ·exact ⟨_,peep_here h1 l now⟩
    ·by_cases h2:p.kind=2#8
     ·exact ⟨_,peep_plain h2 hld l now⟩
     ·exact ⟨_,peep_jump h1 h2 l now⟩
   obtain ⟨n,hn⟩:=this
   rw [hn] at h
   simp only [List.cons.injEq] at h
   rw [<- h.1,hld] at hq
   cases hq
theorem noTwice_cons {p:PartD} {l:List PartD} (h:∀ q t,l=q :: t->isLoad q=true->p≠q) (hl:noTwice l):noTwice (p :: l):=by
 cases l with
 | nil=>trivial
 | cons q t=>exact ⟨fun hc=>h q t rfl hc.1 hc.2,hl⟩
theorem peep_twice:∀ (l:List PartD) (now:Option (BitVec 32)),noTwice (peepF l now)
 | [],_=>trivial
 | p :: l,now=>by
  cases hld:isLoad p with
  | true =>
   rw [peep_load hld]
   by_cases hn:now=some p.insn.k
   ·rw [if_pos hn]; exact peep_twice l now
   ·rw [if_neg hn]
    refine noTwice_cons (fun q t h hq e =>?_) (peep_twice l _)
    exact peep_head l (some p.insn.k) q t h hq (by rw [e])
  | false =>
   have:∃ n,peepF (p :: l) now=p :: peepF l n:=by
    by_cases h1:p.kind=1#8
    ·exact ⟨_,peep_here h1 l now⟩
    ·by_cases h2:p.kind=2#8
     ·exact ⟨_,peep_plain h2 hld l now⟩
     ·exact ⟨_,peep_jump h1 h2 l now⟩
   obtain ⟨n,hn⟩:=this
   rw [hn]
   exact noTwice_cons (fun q t h hq e=>by rw [e,hq] at hld; cases hld) (peep_twice l n)
theorem noTwice_at:∀ {l:List PartD},noTwice l->∀ (k:Nat) (h:k+1<l.length),¬ (isLoad l[k+1]=true/\l[k]=l[k+1])
 | [],_,_,h=>by simp at h
 | [_],_,_,h=>by simp at h
 | p :: q :: l,hn,0,_=>hn.1
 | p :: q :: l,hn,k+1,h=>noTwice_at hn.2 k (by simpa using h)
end Go.AM
end
section
namespace Go.AM
set_option maxRecDepth 20000
theorem made_of {L l0:List PartD} {k:BitVec 32} (hL:L=l0++[retP k]) (hok:∀ q∈L,partOk q) (w:wfL L) :
  (∀ e,makeF L = .inl e->e=205)/\(∀ s,makeF L = .inr s->insnsOk s.out/\endOk s.out/\s.out.length<=4096/\∀ r,runC r s.out.length s.out 0#32=(den r L).2 0#32):=by
 subst hL
 have hok0:∀ q∈l0,partOk q:=fun q hq=>hok q (List.mem_append_left _ hq)
 refine ⟨fun e h=>makeF_wf hok0 w h,fun s h =>?_⟩
 have h0:=makeF_says (r:=⟨0#32,0#32,0#64,[]⟩) hok0 h
 exact ⟨h0.ok,h0.end_,(makeF_ok h).2,fun r=>(makeF_says (r:=r) hok0 h).run _ _ (Nat.le_refl _)⟩
theorem peeped (p:PlanD) (hp:p.cases.Pairwise fun a b=>a.number.toNat<b.number.toNat) (hi:∀ c∈p.cases,∀ b∈c.branches,inCs b.conds) :
  (∀ e,makeF (peepF (dblF (lowerF p).parts) none) = .inl e->e=205) /\
  (∀ s,makeF (peepF (dblF (lowerF p).parts) none) = .inr s->insnsOk s.out/\endOk s.out/\s.out.length<=4096/\∀ r,r.ok->runC r s.out.length s.out 0#32=decideF p r) /\
  (peepF (dblF (lowerF p).parts) none).length<=(lowerF p).parts.length:=by
 have hnd:(p.cases.map CaseD.number).Nodup:=by
  rw [List.nodup_iff_pairwise_ne,List.pairwise_map]
  exact hp.imp fun h e=>by rw [e] at h; omega
 have hl:=low_ok p hnd
 have w:=hl.fin.wf
 have hok:=hl.fin.ok
 have hsay:=fun r hr=>low_says p hp hi r hr 0#32
 have hne:(LwD.cases (low3 p).2 p.cases (low4 p)).order≠[]:=by
  rw [hl.lo5.1.la.1]
  intro h
  have ho:=hl.lo5.2
  unfold actN at ho
  rw [List.map_eq_nil_iff] at h
  rw [h] at ho
  simp at ho
 obtain ⟨l0,k,hl0⟩:=ends_ret (LwD.cases (low3 p).2 p.cases (low4 p)).acts _ (LwD.cases (low3 p).2 p.cases (low4 p)) hne
 have hl0:(lowerF p).parts=l0++[retP k]:=hl0
 have hd:dblF (lowerF p).parts=dblF l0++[retP k]:=by rw [hl0,dbl_app]; rfl
 obtain ⟨l1,h1⟩:=peep_ret k (dblF l0) none
 rw [<- hd] at h1
 have hokd:∀ q∈dblF (lowerF p).parts,partOk q:=fun q hq=>hok q (dbl_mem hq)
 obtain ⟨m1,m2⟩:=made_of h1 (fun q hq=>hokd q (peep_mem hq)) (peep_wf none hokd (dbl_wf w))
 refine ⟨m1,fun s hs =>?_,peep_dbl_len _ none hok⟩
 obtain ⟨o1,o2,o3,o4⟩:=m2 s hs
 refine ⟨o1,o2,o3,fun r hr =>?_⟩
 rw [o4 r,(peep_den r _ none hokd).2 _ (fun k h=>by cases h),dbl_den,hsay r hr]
section
variable {E:Sy} {H H' H0 Z:AH} {Q:Value->AH->Prop}
theorem polx6' {x:PolX} {cs:List Value} (h:PolXAt H x cs):cs.length=6/\cs.all plain1=true:=by
 obtain ⟨v,pv,qv,rfl,⟨rows,h1,_⟩,h2,h3⟩:=h
 exact ⟨rfl,by simp [h1.plain,h2.plain,h3.plain]⟩
theorem part_same (p q:PartD):binAgg [0,0,0,0,0,0,0] .eql p.v q.v=some (vb (decide (p=q))):=by
 have h8:∀ a b:BitVec 8,sameCell 0 (u8 a) (u8 b)=some (decide (a=b)):=fun a b=>same_u8 a b
 have h16:∀ a b:BitVec 16,sameCell 0 (u16 a) (u16 b)=some (decide (a=b)):=fun a b=>same_u16 a b
 have h:(decide (p=q))=(decide (p.kind=q.kind)&&(decide (p.to=q.to)&&(decide (p.els=q.els)&&(decide (p.insn.code=q.insn.code)&&(decide (p.insn.jt=q.insn.jt)&&(decide (p.insn.jf=q.insn.jf)&&(decide (p.insn.k=q.insn.k)&&true))))))):=by
  obtain ⟨a,b,c,⟨d,e,f,g⟩⟩:=p
  obtain ⟨a',b',c',⟨d',e',f',g'⟩⟩:=q
  rw [Bool.eq_iff_iff]
  simp [PartD.mk.injEq,InsnD.mk.injEq]
 rw [h]
 simp only [PartD.v,PartD.cells,binAgg,List.toList_toArray,sameCells,h8,h16,same_vi,same_u32,Option.bind_some,Option.map_some]
theorem peeps_l3 (hE:Fold E) {v:Value} {l:List PartD} (hv:Rows H 7 v (partR l)) (hl:l.length<2 ^ 29) (hn:noTwice l) (hQ:∀ H',Q (vb true) H') :
  LoopL (fun l H X0=>F.f69_l3 E Q (nth l 0) (nth l 1) H X0) [v,(.int .i64 1)] H:=by
 have i1:(.int .i64 1:Value)=vi ((1:Nat):Int):=rfl
 rw [i1]
 have hlv:=hv.lenSlc
 have hpl:(partR l).length=l.length:=by simp [partR]
 rw [hpl] at hlv
 refine LoopL.ind (fun m ls H'=>H=H'/\∃ j:Nat,m=l.length - j/\1<=j/\ls=[v,vi j]) ?_ (l.length - 1) ⟨rfl,1,rfl,Nat.le_refl _,rfl⟩
 rintro m _ _ X1 ih ⟨rfl,j,rfl,hj,rfl⟩
 rcases Nat.lt_or_ge j l.length with hlt | hge
 ·have hlt':decide ((j:Int)<l.length)=true:=decide_eq_true (by omega)
  obtain ⟨b,o,f1,f2,lo⟩:=part_ix hv hlt
  have c0:((H.get b).cell o)=some (u8 l[j].kind):=by have:=row_at f2 (j:=0) (by omega); simpa [PartD.cells] using this
  have c3:((H.get b).cell (o+3))=some (u16 l[j].insn.code):=by have:=row_at f2 (j:=3) (by omega); simpa [PartD.cells] using this
  have q2:(.int .u8 2:Value)=u8 2#8:=rfl
  have q32:(.int .u16 32:Value)=u16 32#16:=rfl
  have hinc:=i64_inc (i:=j) (by omega)
  have hinc2:binInt .add (vi (j:Int)) (vi ((1:Nat):Int))=some (vi ((j+1:Nat):Int)):=hinc
  have next:X1 [v,vi ((j+1:Nat):Int)] H:=ih (l.length - (j+1)) (by omega) _ _ ⟨rfl,j+1,rfl,by omega,rfl⟩
  simp only [F.f69_l3,hlv,i64_lss,hlt',f1,c0,q2,u8_eql,stdZ]
  by_cases o2:l[j].kind=2#8
  ·have hd:decide (l[j].kind=2#8)=true:=decide_eq_true o2
   simp only [hd,f1,c3,q32,u16_eql,stdZ]
   by_cases o3:l[j].insn.code=32#16
   ·have hd3:decide (l[j].insn.code=32#16)=true:=decide_eq_true o3
    obtain ⟨b',o',f1',_,lo'⟩:=part_ix hv (k:=j - 1) (by omega)
    have hs:binInt .sub (vi (j:Int)) (vi ((1:Nat):Int))=some (vi ((j - 1:Nat):Int)):=by rw [i64_sub (by omega) (by omega)]; congr 2; omega
    have hnt:=noTwice_at hn (j - 1) (by omega)
    have hje:j - 1+1=j:=by omega
    simp only [hje] at hnt
    have hne:l[j - 1]≠l[j]:=fun e=>hnt ⟨by simp [isLoad,o2,o3],e⟩
    have hd5:decide (l[j - 1]=l[j])=false:=decide_eq_false hne
    simp only [hd3,i1,hs,f1',lo',f1,lo,part_same,hd5,hinc2,stdZ]
    exact next
   ·have hd3:decide (l[j].insn.code=32#16)=false:=decide_eq_false o3
    simp only [hd3,hinc,stdZ]
    exact next
  ·have hd:decide (l[j].kind=2#8)=false:=decide_eq_false o2
   simp only [hd,hinc,stdZ]
   exact next
 ·have hlt':decide ((j:Int)<l.length)=false:=decide_eq_false (by omega)
  simp only [F.f69_l3,hlv,i64_lss,hlt',stdZ]
  exact hQ _
theorem peeps_l2 (hE:Fold E) {s:Small} {ns:List (BitVec 32)} (hns:Nums s.pol.pol ns) {pc:List Value} {t7 fb:Nat} (hpb:H0.get t7 = .cells pc none) (hps:PolXAt H0 s.pol pc)
  {zv:Value} {zs:List PartD} (hz:Rows H0 7 zv (partR zs)) (hzl:zs.length<2 ^ 29) (hzn:noTwice zs)
  {c:List InsnD} (ho:insnsOk c) (hlen:c.length<=4096) (hrun:∀ r,r.ok->runC r c.length c 0#32=decideF (planOf s.pol.pol ns) r) {rv:Value} {l':List RecD} (hok':∀ r∈l',RecD.ok r) (hl50:l'.length<=50)
  (h:Fil H0 Z H fb c [growR 9 rv (l'.map RecD.cells)]) (hQ:∀ H',Q (vb true) H') :
  LoopL (fun l H X0=>F.f69_l2 E Q (nth l 0) (nth l 1) (nth l 2) (nth l 3) (nth l 4) (nth l 5) H X0) [ptr t7 0,zv,ptr fb 0,rv,vi l'.length,(.int .i64 0)] H:=by
 have i0:(.int .i64 0:Value)=vi ((0:Nat):Int):=rfl
 rw [i0]
 refine LoopL.count l'.length (fun k ls H'=>ls=[ptr t7 0,zv,ptr fb 0,rv,vi l'.length,vi k]/\Fil H0 Z H' fb c [growR 9 rv (l'.map RecD.cells)]) ?_ ⟨rfl,h⟩
 rintro k _ H1 X1 hk ih ⟨rfl,g⟩
 rcases Nat.lt_or_ge k l'.length with hlt | hge
 rotate_left
 ·have hlt':decide ((k:Int)<l'.length)=false:=decide_eq_false (by omega)
  simp only [F.f69_l2,i64_lss,hlt',stdZ]
  exact peeps_l3 hE (hz.mono g.ext) hzl hzn hQ
 have hlt':decide ((k:Int)<l'.length)=true:=decide_eq_true (by omega)
 obtain ⟨bb,o,f1,f2⟩:=g.rows.ix (i:=k) (by simpa using hlt)
 simp only [List.getElem_map] at f2
 have hr:=hok' l'[k] (List.getElem_mem hlt)
 have lo:loadN 9 (ptr bb o) H1=some l'[k].v:=by rw [loadN_ptr,f2]; rfl
 have hinc:=i64_inc (i:=k) (by omega)
 generalize l'[k]=r at *
 have hr9:=rec_nine hr
 have hst:storeN 9 (ptr H1.next 0) r.v (H1.new (.cells [(.int .u32 0),(.int .u32 0),(.int .u64 0),(.int .u64 0),(.int .u64 0),(.int .u64 0),(.int .u64 0),(.int .u64 0),(.int .u64 0)] none))=some (H1.new (.cells r.cells none)):=fresh_store rfl hr9 (by simp [RecD.cells])
 have hlo2:loadN 9 (ptr H1.next 0) (H1.new (.cells r.cells none))=some r.v:=fresh_load hr9
 have g1:=g.newbox r.cells
 simp only [F.f69_l2,i64_lss,hlt',f1,lo,allocW_eq,hst,hlo2,stdZ]
 generalize H1.new (.cells r.cells none)=H2 at *
 generalize H1.next=t at *
 refine S.f108 hE hr ho hlen g1 fun n H3 hn g2 =>?_
 rw [hrun r hr]
 have lr:loadN 9 (ptr t 0) H3=some r.v:=by rw [loadN_ptr,Fil.box (X:=[growR 9 rv (l'.map RecD.cells)]) g2,row_all _ _ 9 hr9]; rfl
 have lpo:loadN 6 (ptr t7 0) H3=some (.agg pc.toArray):=by rw [loadN_ptr,g2.ext.cells hpb,row_all _ _ 6 (polx6' hps).1]; rfl
 have hr12:=s.rules_12
 simp only [lpo,lr,stdZ]
 refine S.f58 hE s.pol.pol pc ((hps.mono g2.ext).at_ (by omega)) r hr fun H5 e5 =>?_
 rw [decide_says _ _ hns r]
 have dd:decide (says s.pol.pol r≠says s.pol.pol r)=false:=decide_eq_false (by simp)
 simp only [u32_neq,dd,hinc,stdZ]
 exact ih hlt _ _ ⟨rfl,(g2.grow e5).dropLast (X:=[growR 9 rv (l'.map RecD.cells)])⟩
theorem dbl_take {l:List PartD} {k:Nat} (hk:k<l.length):dblF (l.take (k+1))=dblF (l.take k)++(if isLoad l[k]=true then [l[k],l[k]] else [l[k]]):=by
 rw [List.take_succ,List.getElem?_eq_getElem hk]
 show dblF (l.take k++[l[k]])=_
 rw [dbl_app,dbl_cons]
 split <;> rfl
theorem dbl_len (l:List PartD):(dblF l).length<=2*l.length:=by
 induction l with
 | nil=>exact Nat.le_refl _
 | cons p l ih =>
  rw [dbl_cons]
  split <;> simp only [List.length_cons] <;> omega
theorem S.law_CompilePeeps (hE:Fold E) (args:List Value) (ha:ArgsSV H [smallSh,.slice 9 recSh,.slice 1 (.int .u8)] args) (hQ:∀ H',Q (vb true) H'):E.call (E.fid i.f69) args H Q:=by
 obtain ⟨v1,_,rfl,h1,ha⟩:=ha.cons_inv
 obtain ⟨v2,_,rfl,h2,ha⟩:=ha.cons_inv
 obtain ⟨v3,_,rfl,h3,ha⟩:=ha.cons_inv
 obtain rfl:=ha.nil_inv
 obtain ⟨s,sc,rfl,hs⟩:=h1.small
 obtain ⟨rl,hl,hok⟩:=h2.recs
 obtain ⟨ks,hks,hkn⟩:=h3.u8s'
 apply hE.f69
 have hs8:sc.length=8:=by obtain ⟨_,_,_,_,rfl,_⟩:=hs; rfl
 have x1:Ext H (H.new (.cells sc none)):=(Ext.refl _).new _
 have b1:=AH.get_new_self H (.cells sc none)
 simp only [F.f69,boxO_agg_z,AM.mk_some,mkPtr_eq_z,List.toList_toArray,stdZ]
 generalize H.new (.cells sc none)=H1 at *
 generalize H.next=t1 at *
 refine S.f68 hE fun H2 e2 =>?_
 have x2:=x1.trans e2
 have hlv:=(hl.mono x2).lenSlc
 rw [List.length_map] at hlv
 have i10:(.int .i64 10:Value)=vi 10:=rfl
 simp only [hlv,i10,i64_gtr,stdZ]
 by_cases h10:(10:Int)<rl.length
 ·simp only [decide_eq_true h10,stdZ]
  exact hQ _
 have lo1:loadN 8 (ptr t1 0) H2=some (.agg sc.toArray):=by rw [loadN_ptr,e2.cells b1,row_all _ _ 8 hs8]; rfl
 simp only [decide_eq_false h10,lo1,stdZ]
 refine S.f64 hE s sc (hs.sub x2.sub) fun H3 pc e3 hps =>?_
 obtain ⟨hp6,hpp⟩:=polx6' hps
 have hst:storeN 6 (ptr H3.next 0) (.agg pc.toArray) (H3.new (.cells [(.string ⟨#[]⟩),(.int .u32 0),(.slice none 0 0),(.int .u16 0),(.slice none 0 0),(.slice none 0 0)] none))=some (H3.new (.cells pc none)):=fresh_store rfl hp6 hpp
 have hlo3:loadN 6 (ptr H3.next 0) (H3.new (.cells pc none))=some (.agg pc.toArray):=fresh_load hp6
 have x4:Ext H3 (H3.new (.cells pc none)):=(Ext.refl _).new _
 have hpb:=AH.get_new_self H3 (.cells pc none)
 have hps4:=hps.mono x4
 simp only [allocW_eq,hst,hlo3,stdZ]
 generalize H3.new (.cells pc none)=H4 at *
 generalize H3.next=t7 at *
 have hr12:=s.rules_12
 have hfew:=s.pol_few
 have hSC:SortsC E 12:=sortsC_few hE
 have hSR:SortsR E 12:=fun hg hm hQ=>sortsR_few hE hg (by omega) hQ
 refine S.f20 hE (sm:=12) (by decide) hSC hSR s.pol.pol pc (hps4.at_ (by omega)) hr12 (fun r hr=>by have:=hfew.2.1 r hr; omega) fun ns pl H5 e5 hns hpl =>?_
 have hin:=plan_in s.pol_in ns
 have hup:=plan_up hns
 obtain ⟨m1,m2,m3⟩:=peeped (planOf s.pol.pol ns) hup hin
 have hw:=plan_wP hns (a:=12) (c:=4) hr12 s.pol_conds
 refine S.f45 hE (planOf s.pol.pol ns) pl hpl (by omega) fun pv B e6 hpv =>?_
 have hplen:(lowerF (planOf s.pol.pol ns)).parts.length<2 ^ 20:=by
  have:=low_len (planOf s.pol.pol ns)
  omega
 generalize (lowerF (planOf s.pol.pol ns)).parts=l at *
 have hlp:=hpv.lenSlc
 have hpl2:(partR l).length=l.length:=by simp [partR]
 rw [hpl2] at hlp
 have i0:(.int .i64 0:Value)=vi ((0:Nat):Int):=rfl
 simp only [hlp,i0,stdZ]
 have xB:=((x2.trans e3).trans x4).trans (e5.trans e6)
 have hpbB:=(e5.trans e6).cells hpb
 have hpsB:=hps4.mono (e5.trans e6)
 refine LoopL.count l.length (fun k ls H'=>∃ ov,ls=[v2,v3,ptr t7 0,pv,ov,pv,vi l.length,vi k]/\Has B B H' [growR 7 ov (partR (dblF (l.take k)))]) ?_ ⟨nilS,rfl,(Has.begin (Ext.refl B) (Sub.refl B)).nils 7⟩
 rintro k _ H7 X1 hk ih ⟨ov,rfl,g⟩
 rcases Nat.lt_or_ge k l.length with hlt | hge
 ·have hlt':decide ((k:Int)<l.length)=true:=decide_eq_true (by omega)
  obtain ⟨b,o,f1,f2,_⟩:=part_ix hpv hlt
  have lo:=part_ext g.ext f2
  have hinc:=i64_inc (i:=k) (by omega)
  have hdl:=dbl_len (l.take k)
  rw [List.length_take] at hdl
  have htk:=dbl_take hlt
  have ih:=ih hlt
  rw [htk] at ih
  generalize l[k]=p at *
  generalize dblF (l.take k)=out at *
  have hstp:=part_new p H7
  have g1:=g.newbox p.cells
  have bp:=AH.get_new_self H7 (.cells p.cells none)
  have lop:loadN 7 (ptr H7.next 0) (H7.new (.cells p.cells none))=some p.v:=by rw [loadN_ptr,bp,row_all _ _ 7 rfl]; rfl
  have hbS:buildS 1 7 #[(.int .u8 0),(.int .i64 0),(.int .i64 0),(.int .u16 0),(.int .u8 0),(.int .u8 0),(.int .u32 0)] [(0,p.v)]=some (.cells p.cells none,mkSlc 1 1):=buildS_one 7 [u8 0#8,vi 0,vi 0,u16 0#16,u8 0#8,u8 0#8,u32 0#32] p.cells rfl rfl
  simp only [F.f69_l1,i64_lss,hlt',f1,lo,allocW_eq,hstp,lop,hbS,AM.mk_some,mkSlc_eq,stdZ]
  have hn1:H7.next+1=(H7.new (.cells p.cells none)).next:=rfl
  try rw [hn1]
  clear hn1
  generalize H7.new (.cells p.cells none)=H8 at *
  generalize H7.next=t at *
  have hpo:∀ l:List PartD,(partR l).length=l.length:=fun l=>by simp [partR]
  obtain ⟨w1,H9,a1,p1,g2⟩:=g1.app1 (k:=0) (sz:=7) (v:=ov) (rows:=partR out) (bytes:=32) rfl p.cells rfl (by simp [PartD.cells]) (by decide) (by decide) (by rw [hpo]; omega)
  have b9:=g2.box (k:=1) (b:=t) (c:=p.cells) rfl
  have c0:p.cells[0]? = some (u8 p.kind):=rfl
  have c3:p.cells[3]? = some (u16 p.insn.code):=rfl
  have q2:(.int .u8 2:Value)=u8 2#8:=rfl
  have q32:(.int .u16 32:Value)=u16 32#16:=rfl
  simp only [a1,b9,c0,q2,u8_eql,stdZ]
  have once:isLoad p=false->X1 [v2,v3,ptr t7 0,pv,w1,pv,vi l.length,vi ((k+1:Nat):Int)] H9:=fun hld=>by
   rw [hld,if_neg (by decide)] at ih
   have hr:partR (out++[p])=partR out++[p.cells]:=by simp [partR]
   refine ih _ _ ⟨w1,rfl,?_⟩
   rw [hr]
   exact g2.drop 1
  by_cases o2:p.kind=2#8
  ·have hd:decide (p.kind=2#8)=true:=decide_eq_true o2
   simp only [hd,b9,c3,q32,u16_eql,stdZ]
   by_cases o3:p.insn.code=32#16
   ·have hd3:decide (p.insn.code=32#16)=true:=decide_eq_true o3
    have hld:isLoad p=true:=by simp [isLoad,o2,o3]
    rw [hld,if_pos rfl] at ih
    have lop9:loadN 7 (ptr t 0) H9=some p.v:=by rw [loadN_ptr,b9,row_all _ _ 7 rfl]; rfl
    obtain ⟨w2,H10,a2,p2,g3⟩:=g2.app1 (k:=0) (sz:=7) (v:=w1) (rows:=partR out++[p.cells]) (bytes:=32) rfl p.cells rfl (by simp [PartD.cells]) (by decide) (by decide) (by rw [List.length_append,hpo]; simp; omega)
    have hr:partR (out++[p,p])=partR out++[p.cells]++[p.cells]:=by simp [partR]
    simp only [hd3,lop9,hbS,AM.mk_some,mkSlc_eq,a2,hinc,stdZ]
    refine ih _ _ ⟨w2,rfl,?_⟩
    rw [hr]
    exact g3.drop 1
   ·have hd3:decide (p.insn.code=32#16)=false:=decide_eq_false o3
    simp only [hd3,hinc,stdZ]
    exact once (by simp [isLoad,o3])
  ·have hd:decide (p.kind=2#8)=false:=decide_eq_false o2
   simp only [hd,hinc,stdZ]
   exact once (by simp [isLoad,o2])
 have hke:k=l.length:=by omega
 subst hke
 have hlt':decide ((l.length:Int)<l.length)=false:=decide_eq_false (by omega)
 rw [List.take_length] at g
 have hdl:=dbl_len l
 simp only [F.f69_l1,i64_lss,hlt',stdZ]
 refine S.f12 hE (g.rows (k:=0) (sz:=7) (v:=ov) (rows:=partR (dblF l)) rfl) (by omega) fun zv H8 e8 hz =>?_
 have hzn:=peep_twice (dblF l) none
 generalize peepF (dblF l) none=zs at *
 refine S.f35 hE hz (by omega) fun H9 e9=>⟨fun e he hne =>?_,fun mk w hmk hw =>?_⟩
 ·have h205:=m1 e he
  subst h205
  have k0:(.int .i64 0:Value)=vi 0:=rfl
  have k5:(.int .i64 205:Value)=vi 205:=rfl
  have dn:decide ((205:Int)≠0)=true:=rfl
  have de:decide ((205:Int)=205)=true:=rfl
  simp only [k0,k5,i64_neq,i64_eql,dn,de,stdZ]
  exact hQ _
 obtain ⟨o1,o2,o3,o4⟩:=m2 mk hmk
 have g4:binInt .neq (.int .i64 0) (.int .i64 0)=some (vb false):=rfl
 simp only [g4,stdZ]
 refine S.f109 hE hw o1 o2 o3 fun fb H10 g10 =>?_
 have s10:storeN 2 (ptr H10.next 0) (.agg #[vi 0,vi 0]) (H10.new (.cells [(.int .i64 0),(.int .i64 0)] none))=some (H10.new (.cells [vi 0,vi 0] none)):=fresh_store (n:=2) rfl rfl rfl
 have l10:loadN 2 (ptr H10.next 0) (H10.new (.cells [vi 0,vi 0] none))=some (.agg #[vi 0,vi 0]):=fresh_load (c:=[vi 0,vi 0]) rfl
 have hbv0:buildV [(0,1),(1,1)] #[(.int .i64 0),(.int .i64 0)] []=some (.agg #[vi 0,vi 0]):=rfl
 have hne:binAgg [0,0] .neq (.agg #[vi 0,vi 0]) (.agg #[vi 0,vi 0])=some (vb false):=rfl
 have g11:=g10.grow ((Ext.refl H10).new (.cells [vi 0,vi 0] none))
 have hzl:=hz.lenSlc
 have hpo:(partR zs).length=zs.length:=by simp [partR]
 rw [hpo] at hzl
 have hgt:decide ((l.length:Int)<(zs.length:Int))=false:=decide_eq_false (by omega)
 simp only [allocW_eq,s10,l10,hbv0,hne,hzl,hlp,i64_gtr,hgt,stdZ]
 generalize H10.new (.cells [vi 0,vi 0] none)=H11 at *
 have x9:=(g.ext.trans e8).trans e9
 have hpb9:=x9.cells hpbB
 have hps9:=hpsB.mono x9
 have lpo:loadN 6 (ptr t7 0) H11=some (.agg pc.toArray):=by rw [loadN_ptr,g11.ext.cells hpb9,row_all _ _ 6 hp6]; rfl
 have x11:=(xB.trans x9).trans g11.ext
 simp only [lpo,stdZ]
 refine records_g hE s.pol.pol pc ((hps9.mono g11.ext).at_ (by omega)) rl v2 (hl.mono x11) hok (by omega) ks v3 (hks.mono x11) hkn fun rv H12 l' e12 ⟨_,hg⟩ hfr hok' hl50 =>?_
 have g12:=g11.add (growR 9 rv (l'.map RecD.cells)) e12 hg.toZ (fun b hb =>?_) (blkL_nodup rv)
 rotate_left
 ·have hb':blk rv=some b:=mem_blkL.1 hb
  exact ⟨hfr b hb',hg.toZ.blk_lt hb'⟩
 have hlr:=hg.toRows.lenSlc
 rw [List.length_map] at hlr
 simp only [hlr,stdZ]
 exact peeps_l2 hE hns hpb9 hps9 (hz.mono e9) (by omega) hzn o1 o3 o4 hok' hl50 g12 hQ
end
end Go.AM
end
