/- CONTRACTS ON THE PRINTED FUNCTIONS. -/
import Derived.Test.YtgeenpollgalkaaDoorVb6ddC1
set_option linter.all false
section
namespace Go.AM
set_option maxRecDepth 20000
def qn (s:Bool):UInt8:=if s then 98 else 97
def pth (s:Bool) (c:UInt8):List UInt8:=[47,qn s,47,c]
def atP (s:Bool):PlaceD:=⟨if s then 1 else 0,2#16⟩
section
variable {X:List Res} {E:Sy} {H H' H0:AH} {Q:Value->AH->Prop} {w TB:Nat} {T:Tr} {M:List MntD} {nx:Int} {v:Value} {c:UInt8}
theorem BT.way (h:BT T) (s:Bool):Way1 T [qn s] (atP s):=by
 cases s
 ·exact h.wayA
 ·exact h.wayB
theorem path_s (hc:c∈nmC) (s:Bool):Path2 (pth s c) [qn s] [c]:=by
 obtain ⟨a,b,_⟩:=paths_ok c hc
 cases s
 ·exact a
 ·exact b
theorem pathx_s (hc:c∈nmC) (s:Bool):Path2 (pth s c++[120]) [qn s] [c,120]:=by
 obtain ⟨_,_,a,b,_⟩:=paths_ok c hc
 cases s
 ·exact a
 ·exact b
theorem spot_s (h:BT T) (hc:c∈nmC) (s:Bool):spottedW T bM topP (pth s c)=(⟨atP s,[c],(alook [c] (T.node 2#16).ents).getD 0#16⟩,0):=by
 obtain ⟨_,_,_,_,a,_,d,_⟩:=paths_ok c hc
 exact spot2 (path_s hc s) (h.way s) a d h.k2
theorem spotx_s (h:BT T) (hc:c∈nmC) (s:Bool):spottedW T bM topP (pth s c++[120])=(⟨atP s,[c,120],(alook [c,120] (T.node 2#16).ents).getD 0#16⟩,0):=by
 obtain ⟨_,_,_,_,_,a,_,d,_⟩:=paths_ok c hc
 exact spot2 (pathx_s hc s) (h.way s) a d h.k2
theorem at_ne (s:Bool):(atP s).m≠(atP (!s)).m:=by cases s <;> decide
theorem binds_j2 (hE:Fold E) (h:WkO [boxR TB [ptr w 0]] H0 H w T bM nx) {i:Nat} (hi:i<20) (b:BI T i) {bv:Value} {bl:List (BitVec 8)} (hb:Rows H0 1 bv (byteR bl)) (hbl:bl.length<=100) (hc:c∈nmC) (s:Bool) {t68 t69:Value} {X0:List Value->AH->Prop}
  (next:∀ T' H',WkO [boxR TB [ptr w 0]] H0 H' w T' bM nx->BI T' (i+1)->X0 [bv,ptr TB 0,spotV E TB,t68,t69,vi ((i+1:Nat):Int)] H') :
  F.f44_j2 E Q X0 bv (ptr TB 0) (spotV E TB) (str (pth s c)) (str (pth (!s) c)) t68 t69 (vi i) H:=by
 have c0:([ptr w 0]:List Value)[0]? = some (ptr w 0):=rfl
 have i0:(.int .i64 0:Value)=vi 0:=rfl
 have i18:(.int .i64 18:Value)=vi 18:=rfl
 have i200:(.int .i64 200:Value)=vi 200:=rfl
 have n0:(.int .u16 0:Value)=u16 0#16:=rfl
 have k1:(.int .u8 1:Value)=u8 1#8:=rfl
 have s120:(.string ⟨#[120]⟩:Value)=str [120]:=rfl
 have lt:=Tr.KD.lt b.bt.kd
 have co:=b.co (by omega)
 have hpl:∀ s,(pth s c).length<2 ^ 63:=fun s=>by simp [pth]
 have hplx:∀ s,(pth s c++[120]).length<2 ^ 63:=fun s=>by simp [pth]
 have hii:=i64_inc (i:=i) (by omega)
 have ne0:binInt .neq (vi 0) (vi 0)=some (vb false):=rfl
 have ht:=tbO h
 have hsp:=spot_s b.bt hc s
 simp only [F.f44_j2,spotV_call]
 refine S.spot hE h.at_ ht b.bt.wf lt (pth s c) (hpl s) fun H1 e1 =>?_
 rw [hsp]
 have x2:Ext H1 (H1.new (.cells (SpotD.cells ⟨atP s,[c],(alook [c] (T.node 2#16).ents).getD 0#16⟩) none)):=(Ext.refl _).new _
 have hb3:=AH.get_new_self H1 (.cells (SpotD.cells ⟨atP s,[c],(alook [c] (T.node 2#16).ents).getD 0#16⟩) none)
 have d3:(SpotD.cells ⟨atP s,[c],(alook [c] (T.node 2#16).ents).getD 0#16⟩)[3]? = some (u16 ((alook [c] (T.node 2#16).ents).getD 0#16)):=rfl
 simp only [allocW_eq,st4,hb3,d3,stdZ]
 generalize hSp:(⟨atP s,[c],(alook [c] (T.node 2#16).ents).getD 0#16⟩:SpotD)=sp at *
 generalize H1.next=B2 at *
 generalize H1.new (.cells sp.cells none)=H3 at *
 have e3:=e1.trans x2
 have h3:=h.mono e3
 have ht3:=tbO h3
 have lo3:loadN 4 (ptr B2 0) H3=some sp.v:=by rw [loadN_ptr,hb3]; rfl
 cases hal:alook [c] (T.node 2#16).ents with
 | some n =>
  obtain ⟨q0,q1,q2,q3,q4⟩:=b.drop hc hal
  have hino:sp.ino=n:=by rw [<- hSp,hal]; rfl
  have hne:binInt .neq (u16 ((some n).getD 0#16)) (u16 0#16)=some (vb true):=by rw [u16_neq]; simp [q0]
  simp only [n0,hne,ht3,c0,lo3,stdZ]
  refine S.f80 hE h3 b.bt.wf sp false co fun H4 h4 =>?_
  have hr:removeW T bM sp false=T.drop 2#16 [c] false:=by
   unfold removeW
   rw [hino,if_neg q0,if_neg (by rw [q1]; decide),<- hSp]
   rfl
  rw [hr] at h4 ⊢
  rw [q2]
  have ht4:=tbO h4
  simp only [i0,ne0,spotV_call,stdZ]
  refine S.spot hE h4.at_ ht4 q3.bt.wf (Tr.KD.lt q3.bt.kd) (pth (!s) c) (hpl _) fun H5 e5 =>?_
  rw [spot_s q3.bt hc (!s),q4]
  have hp:part1 (SpotD.v ⟨atP (!s),[c],(none:Option (BitVec 16)).getD 0#16⟩) 3=some (u16 0#16):=rfl
  have hn0:binInt .neq (u16 0#16) (u16 0#16)=some (vb false):=by rw [u16_neq]; simp
  simp only [hp,n0,hn0,hii,stdZ]
  exact next _ _ (h4.mono e5) q3
 | none =>
  have hne:binInt .neq (u16 ((none:Option (BitVec 16)).getD 0#16)) (u16 0#16)=some (vb false):=by rw [u16_neq]; simp
  obtain ⟨n,m1,m2,m3,m4,m5,m6,m7⟩:=b.make (by omega) hc hal
  simp only [n0,hne,ht3,c0,lo3,k1,stdZ]
  have hdir:sp.dir.i=2#16:=by rw [<- hSp]; rfl
  have hnm:sp.name=[c]:=by rw [<- hSp]
  have hdm:sp.dir.m=(atP s).m:=by rw [<- hSp]
  refine S.f78 hE h3 b.bt.wf sp (by rw [hnm]; simp) 1#8 [] (by decide) co fun H10 h10 =>?_
  rw [hdir,hnm,hdm] at *
  rw [m1]
  simp only [ne_eq,not_true,if_false]
  have h12:=h10.box (PlaceD.cells ⟨(atP s).m,n⟩)
  have h12:WkO [boxR TB [ptr w 0],boxR H10.next (PlaceD.cells ⟨(atP s).m,n⟩)] H0 (H10.new (.cells (PlaceD.cells ⟨(atP s).m,n⟩) none)) w (T.make 2#16 [c] 1#8 []).1 bM nx:=h12
  simp only [allocW_eq,st2,i0,ne0,stdZ]
  generalize H10.next=B22 at *
  generalize H10.new (.cells (PlaceD.cells ⟨(atP s).m,n⟩) none)=H12 at *
  generalize (T.make 2#16 [c] 1#8 []).1=T1 at *
  have b22:=fun {H':AH} {T':Tr} (h:WkO [boxR TB [ptr w 0],boxR B22 (PlaceD.cells ⟨(atP s).m,n⟩)] H0 H' w T' bM nx)=>(h.openX (k:=1) rfl).1.holds
  have b22:∀ {H':AH} {T':Tr},WkO [boxR TB [ptr w 0],boxR B22 (PlaceD.cells ⟨(atP s).m,n⟩)] H0 H' w T' bM nx->H'.get B22 = .cells (PlaceD.cells ⟨(atP s).m,n⟩) none:=fun h=>b22 h
  have p0:(PlaceD.cells ⟨(atP s).m,n⟩)[0]? = some (vi (atP s).m):=rfl
  have p1:(PlaceD.cells ⟨(atP s).m,n⟩)[1]? = some (u16 n):=rfl
  obtain ⟨p,q,hw,⟨m,L,hi12,ki⟩,_⟩:=h12.open_
  simp only [tbO h12,c0,hw,b22 h12,p1,stdZ]
  obtain ⟨w1,w2,w3,w4,w5⟩:=BI.write m3 m7 m5 m6 bl hbl
  refine Ino.cWrite hE hi12 m3.bt.wf n 0 bv bl (hb.mono h12.ext) (by omega) ⟨by omega,by omega⟩ (m3.co (by omega)) fun L' H20 u20 =>?_
  have h20:=ki _ _ _ u20
  rw [w1]
  have hal2:alook [c] ((T1.write n 0 bl).1.node 2#16).ents=some n:=by rw [w3]; exact m4
  generalize (T1.write n 0 bl).1=T2 at *
  have ht20:=tbO h20
  have z2:([(.int .i64 0),(.int .u16 0)]:List Value)=PlaceD.zero.cells:=rfl
  have x22:Ext H20 (H20.new (.cells PlaceD.zero.cells none)):=(Ext.refl _).new _
  have hb22:=AH.get_new_self H20 (.cells PlaceD.zero.cells none)
  simp only [ne0,ht20,c0,z2,allocW_eq,stdZ]
  generalize hB35:H20.next=B35 at *
  generalize H20.new (.cells PlaceD.zero.cells none)=H22 at *
  refine S.f42 hE fun H23 e23 =>?_
  have ht23:=(x22.trans e23).cells ht20
  refine ⟨by rw [e23.cells hb22,hb22],by simp only [ht20,ht23,c0,stdZ],?_⟩
  simp only [stdZ]
  have h23:=h20.mono (x22.trans e23)
  refine S.f86 hE h23.at_ w2.bt.wf (Tr.KD.lt w2.bt.kd) topP (pth (!s) c) (hpl _) true fun H24 e24 =>?_
  obtain ⟨_,_,_,_,ok1,_,ok2,_⟩:=paths_ok c hc
  rw [find2 (path_s hc (!s)) (w2.bt.way (!s)) ok1 ok2 w2.bt.k2 hal2 w4]
  have hb24:=(e23.trans e24).cells hb22
  refine ⟨by rw [hb24,hb22],?_⟩
  have hst:=put2 hb24 rfl ⟨(atP (!s)).m,n⟩
  have e25:Ext H20 (H24.put B35 (.cells (PlaceD.cells ⟨(atP (!s)).m,n⟩) none)):=(x22.trans (e23.trans e24)).put (by omega) _
  have hb25:(H24.put B35 (.cells (PlaceD.cells ⟨(atP (!s)).m,n⟩) none)).get B35 = .cells (PlaceD.cells ⟨(atP (!s)).m,n⟩) none:=AH.get_put_self _ _ (AH.lt_cells hb24)
  have r0:(PlaceD.cells ⟨(atP (!s)).m,n⟩)[0]? = some (vi (atP (!s)).m):=rfl
  have r1:(PlaceD.cells ⟨(atP (!s)).m,n⟩)[1]? = some (u16 n):=rfl
  simp only [hst,stdZ]
  generalize H24.put B35 (.cells (PlaceD.cells ⟨(atP (!s)).m,n⟩) none)=H25 at *
  have h25:=h20.mono e25
  have ht25:=tbO h25
  simp only [ht25,c0,hb25,r1,i0,i200,stdZ]
  refine S.f79 hE h25.at_ n 0 200 (by rw [w5]; omega) ⟨by omega,by omega⟩ ⟨by omega,by omega⟩ fun rv H26 e26 rr =>?_
  have hread:readW T2 n 0 200=(bl,0):=by
   unfold readW
   rw [w4,w5,if_neg (by decide),if_neg (by decide),if_neg (by simp)]
   by_cases h0:(bl.length:Int)<=0
   ·rw [if_pos h0]
    have:bl=[]:=List.length_eq_zero_iff.1 (by omega)
    rw [this]
   ·rw [if_neg h0]
    have:min (200:Int).toNat (bl.length - (0:Int).toNat)=bl.length:=by simp; omega
    rw [this]
    simp
  rw [hread] at rr ⊢
  have h26:=h25.mono e26
  have hb26:=e26.cells hb25
  have hbf:=b22 h26
  have s1:=strOf_rows rr
  have s2:=strOf_rows (hb.mono h26.ext)
  have nn:binInt .neq (u16 n) (u16 n)=some (vb false):=by rw [u16_neq]; simp
  have em:binInt .eql (vi (atP (!s)).m) (vi (atP s).m)=some (vb false):=by rw [i64_eql]; simp [(at_ne s).symm]
  have es:binStr .neq (str (bl.map UInt8.ofBitVec)) (str (bl.map UInt8.ofBitVec))=some (vb false):=by rw [binStr_neq]; simp
  have ha:=binStr_add (pth (!s) c) [120] (by simp [pth])
  have lof:∀ {H':AH} {T':Tr},WkO [boxR TB [ptr w 0],boxR B22 (PlaceD.cells ⟨(atP s).m,n⟩)] H0 H' w T' bM nx->loadN 2 (ptr B22 0) H'=some (PlaceD.v ⟨(atP s).m,n⟩):=fun h=>by rw [loadN_ptr,b22 h]; rfl
  simp only [i0,ne0,hb26,hbf,r0,r1,p0,p1,nn,em,s1,s2,es,stdZ]
  simp only [nn,em,hb26,hbf,r0,p0,s1,s2,es,tbO h26,c0,lof h26,s120,ha,spotV_call,stdZ]
  refine S.spot hE h26.at_ (tbO h26) w2.bt.wf (Tr.KD.lt w2.bt.kd) (pth (!s) c++[120]) (hplx _) fun H49 e49 =>?_
  rw [spotx_s w2.bt hc (!s)]
  have h49:=h26.mono e49
  refine ⟨by simp [lof h26,lof h49],by simp [tbO h26,tbO h49],?_⟩
  simp only [stdZ]
  refine S.f77 hE h49 w2.bt.wf ⟨(atP s).m,n⟩ ⟨atP (!s),[c,120],(alook [c,120] (T2.node 2#16).ents).getD 0#16⟩ (by simp) (w2.co (by omega)) fun H50 h50 =>?_
  have hlk:linkW T2 ⟨(atP s).m,n⟩ ⟨atP (!s),[c,120],(alook [c,120] (T2.node 2#16).ents).getD 0#16⟩=(T2,18):=by
   unfold linkW
   rw [if_pos (at_ne s)]
  rw [hlk] at h50 ⊢
  have ne18:binInt .neq (vi 18) (vi 18)=some (vb false):=rfl
  simp only [i18,ne18,tbO h50,c0,s120,ha,spotV_call,stdZ]
  refine S.spot hE h50.at_ (tbO h50) w2.bt.wf (Tr.KD.lt w2.bt.kd) (pth s c) (hpl _) fun H58 e58 =>?_
  rw [spot_s w2.bt hc s,hal2]
  have h58:=h50.mono e58
  refine ⟨by simp [tbO h50,tbO h58],?_⟩
  simp only [spotV_call,stdZ]
  refine S.spot hE h58.at_ (tbO h58) w2.bt.wf (Tr.KD.lt w2.bt.kd) (pth (!s) c++[120]) (hplx _) fun H59 e59 =>?_
  rw [spotx_s w2.bt hc (!s)]
  have h59:=h58.mono e59
  refine ⟨by simp [tbO h50,tbO h59],?_⟩
  simp only [stdZ]
  refine S.f81 hE h59 w2.bt.wf ⟨atP s,[c],(some n).getD 0#16⟩ ⟨atP (!s),[c,120],(alook [c,120] (T2.node 2#16).ents).getD 0#16⟩ (by simp) (w2.co (by omega)) fun H60 h60 =>?_
  have hrn:renameW T2 bM ⟨atP s,[c],(some n).getD 0#16⟩ ⟨atP (!s),[c,120],(alook [c,120] (T2.node 2#16).ents).getD 0#16⟩=(T2,18):=by
   unfold renameW
   refine (if_neg (show ¬ n=0#16 from m2)).trans (if_pos (at_ne s))
  rw [hrn] at h60 ⊢
  have h60:WkO ([boxR TB [ptr w 0]]++[boxR B22 (PlaceD.cells ⟨(atP s).m,n⟩)]) H0 H60 w T2 bM nx:=h60
  simp only [i18,ne18,hii,stdZ]
  exact next _ _ h60.drop w2
end
end Go.AM
end
section
namespace Go.AM
set_option maxRecDepth 20000
section
variable {X:List Res} {E:Sy} {H H' H0:AH} {Q:Value->AH->Prop} {w TB:Nat} {T:Tr} {M:List MntD} {nx:Int} {v:Value} {c:UInt8}
def bPaths:List (List UInt8):=[[47,97],[47,98],[47,97,47,100]]
def bSpots:List SpotD:=[⟨topP,[97],0#16⟩,⟨topP,[98],0#16⟩,⟨⟨0,2#16⟩,[100],0#16⟩]
def bTree:Nat->Tr
 | 0=>Tr.new 40
 | j+1=>((bTree j).make ((bSpots.getD j SpotD.zero).dir.i) (bSpots.getD j SpotD.zero).name 2#8 []).1
theorem bTree_facts:∀ j,j<3->(spottedW (bTree j) tab0 topP (bPaths.getD j []))=(bSpots.getD j SpotD.zero,0)/\((bTree j).make ((bSpots.getD j SpotD.zero).dir.i) (bSpots.getD j SpotD.zero).name 2#8 []).2.2=0/\(bTree j).CO:=by
 intro j hj
 have:j=0\/j=1\/j=2:=by omega
 rcases this with rfl | rfl | rfl <;> decide +kernel
theorem bTree_wf:∀ j,(bTree j).WF/\(bTree j).KD/\(bTree j).Tidy
 | 0=>⟨Tr.new_wf 40,Tr.KD.new 40,Tr.Tidy.new 40⟩
 | j+1=>by
  obtain ⟨a,b,c⟩:=bTree_wf j
  exact ⟨a.make _ _ _ _,b.make keeps_KD _ _ _ _,c.make _ _ _ _⟩
theorem bTree_bt:BI (bTree 3) 0:=by
 obtain ⟨a,b,c⟩:=bTree_wf 3
 refine ⟨⟨a,b,c,by decide +kernel,by decide +kernel,by decide +kernel,by decide +kernel,by decide +kernel,by decide +kernel,?_⟩,by decide +kernel,by decide +kernel,by decide +kernel,by decide +kernel,by decide +kernel⟩
 have h:nmC.all (fun c=>decide (alook [c] ((bTree 3).node 2#16).ents=none))=true:=by decide +kernel
 intro c hc k hk
 have:=List.all_eq_true.1 h c hc
 rw [decide_eq_true_iff] at this
 rw [this] at hk
 exact nomatch hk
theorem six (k:BitVec 8):UInt8.ofBitVec (109#8+k % 6#8)∈nmC:=by
 have h:(k % 6#8).toNat<6:=by rw [BitVec.toNat_umod]; exact Nat.mod_lt _ (by decide)
 generalize k % 6#8=x at *
 have:x=0#8\/x=1#8\/x=2#8\/x=3#8\/x=4#8\/x=5#8:=by
  have e:x=BitVec.ofNat 8 x.toNat:=by simp
  have:x.toNat=0\/x.toNat=1\/x.toNat=2\/x.toNat=3\/x.toNat=4\/x.toNat=5:=by omega
  rcases this with h | h | h | h | h | h <;> rw [h] at e <;> subst e <;> simp
 rcases this with rfl | rfl | rfl | rfl | rfl | rfl <;> decide
theorem binds_l2 (hE:Fold E) (h:WkO [boxR TB [ptr w 0]] H0 H w T bM nx) (b:BI T 0) {bv lv:Value} {bl ll:List (BitVec 8)} (hb:Rows H0 1 bv (byteR bl)) (hbl:bl.length<=100) (hl:Rows H0 1 lv (byteR ll)) (hQ:∀ H',Q (vb true) H') :
  LoopL (fun l H X0=>F.f44_l2 E Q (nth l 0) (nth l 1) (nth l 2) (nth l 3) (nth l 4) (nth l 5) H X0) [bv,ptr TB 0,spotV E TB,lv,vi ll.length,(.int .i64 0)] H:=by
 have i0:(.int .i64 0:Value)=vi ((0:Nat):Int):=rfl
 rw [i0]
 refine LoopL.count 20 (fun i ls H'=>∃ T',ls=[bv,ptr TB 0,spotV E TB,lv,vi ll.length,vi i]/\WkO [boxR TB [ptr w 0]] H0 H' w T' bM nx/\BI T' i) ?_ ⟨T,rfl,h,b⟩
 rintro i _ H1 X0 hi hX ⟨T1,rfl,h1,b1⟩
 rcases Nat.lt_or_ge i ll.length with hil | hil
 rotate_left
 ·have s:=lss_f (show ¬ i<ll.length by omega)
  simp only [F.f44_l2,s,stdZ]
  exact binds_j1 hE h1 (by omega) b1 hQ
 have s:=lss_t hil
 obtain ⟨bb,o,p1,p2⟩:=(hl.mono h1.ext).ix (i:=i) (by rw [byteR,List.length_map]; exact hil)
 have hrw:(byteR ll)[i]'(by rw [byteR,List.length_map]; exact hil)=[u8 ll[i]]:=by simp [byteR]
 rw [hrw] at p2
 have p3:(H1.get bb).cell o=some (u8 ll[i]):=by have:=row_at p2 (j:=0) (by omega); simpa using this
 generalize ll[i]=k at *
 rcases Nat.lt_or_ge i 20 with hi20 | hi20
 rotate_left
 ·have hge:binInt .geq (vi (i:Int)) (.int .i64 20)=some (vb true):=by
   show binInt .geq (vi (i:Int)) (vi 20)=_
   rw [i64_geq]; simp; omega
  simp only [F.f44_l2,s,p1,p3,hge,stdZ]
  exact binds_j1 hE h1 (by omega) b1 hQ
 have hX:=hX hi20
 have hge:binInt .geq (vi (i:Int)) (.int .i64 20)=some (vb false):=by
  show binInt .geq (vi (i:Int)) (vi 20)=_
  rw [i64_geq]; simp; omega
 have hm6:binInt .rem (u8 k) (.int .u8 6)=some (u8 (k % 6#8)):=u8_rem k 6#8 (by decide)
 have hm2:binInt .rem (u8 k) (.int .u8 2)=some (u8 (k % 2#8)):=u8_rem k 2#8 (by decide)
 have ha:binInt .add (.int .u8 109) (u8 (k % 6#8))=some (u8 (109#8+k % 6#8)):=u8_add 109#8 _
 have hbS:buildS 1 1 #[(.int .u8 0)] [(0,u8 (109#8+k % 6#8))]=some (.cells [u8 (109#8+k % 6#8)] none,mkSlc 1 1):=buildS_one 1 [u8 0#8] [u8 (109#8+k % 6#8)] rfl rfl
 have hr:Rows (H1.new (.cells [u8 (109#8+k % 6#8)] none)) 1 (slc H1.next 0 1 1) (byteR [109#8+k % 6#8]):=Rows.made (rows:=[[u8 (109#8+k % 6#8)]]) (AH.get_new_self _ _) (.inl rfl) rfl (by simp)
 have hso:=strOf_rows hr
 have hc:=six k
 have e1:(List.map UInt8.ofBitVec [109#8+k % 6#8])=[UInt8.ofBitVec (109#8+k % 6#8)]:=rfl
 rw [e1] at hso
 generalize UInt8.ofBitVec (109#8+k % 6#8)=c at *
 have sa:(.string ⟨#[47,97,47]⟩:Value)=str [47,97,47]:=rfl
 have sb:(.string ⟨#[47,98,47]⟩:Value)=str [47,98,47]:=rfl
 have a1:binStr .add (str [47,97,47]) (str [c])=some (str (pth false c)):=binStr_add [47,97,47] [c] (by simp)
 have a2:binStr .add (str [47,98,47]) (str [c])=some (str (pth true c)):=binStr_add [47,98,47] [c] (by simp)
 have h2:=h1.mono ((Ext.refl H1).new (.cells [u8 (109#8+k % 6#8)] none))
 have k1:(.int .u8 1:Value)=u8 1#8:=rfl
 simp only [F.f44_l2,s,p1,p3,hge,hm6,ha,hbS,AM.mk_some,mkSlc_eq,hso,sa,sb,a1,a2,hm2,k1,u8_eql,stdZ]
 by_cases hk:k % 2#8=1#8
 ·simp only [hk,decide_true,stdZ]
  exact binds_j2 hE h2 hi20 b1 hb hbl hc true fun T' H' h' b'=>hX _ _ ⟨T',rfl,h',b'⟩
 ·simp only [hk,decide_false,stdZ]
  exact binds_j2 hE h2 hi20 b1 hb hbl hc false fun T' H' h' b'=>hX _ _ ⟨T',rfl,h',b'⟩
theorem S.f44 (hE:Fold E) (lv bv:Value) (ll bl:List (BitVec 8)) (hl:Rows H 1 lv (byteR ll)) (hb:Rows H 1 bv (byteR bl)) (hbm:bl.length<2 ^ 63) (hQ:∀ H',Q (vb true) H'):E.call (E.fid i.f44) [lv,bv] H Q:=by
 apply hE.f44
 simp only [F.f44]
 refine S.f43 hE fun H1 e1 =>?_
 have hlb:AM.lenSlc bv=some (vi bl.length):=by have:=hb.lenSlc; rw [byteR,List.length_map] at this; exact this
 have hll:AM.lenSlc lv=some (vi ll.length):=by have:=hl.lenSlc; rw [byteR,List.length_map] at this; exact this
 have i100:(.int .i64 100:Value)=vi 100:=rfl
 simp only [hlb,i100,stdZ]
 by_cases hbl:bl.length<=100
 rotate_left
 ·have s:binInt .gtr (vi (bl.length:Int)) (vi 100)=some (vb true):=by rw [i64_gtr]; simp; omega
  simp only [s,stdZ]
  exact hQ _
 have s:binInt .gtr (vi (bl.length:Int)) (vi 100)=some (vb false):=by rw [i64_gtr]; simp; omega
 simp only [s,stdZ]
 refine S.f84 hE 40 fun w H2 h2 =>?_
 have h2:=h2.less e1
 have h4:=h2.box [ptr w 0]
 have h4:WkO [boxR H2.next [ptr w 0]] H (H2.new (.cells [ptr w 0] none)) w (Tr.new 40) tab0 1:=h4
 have hst:store1 (ptr H2.next 0) (ptr w 0) (H2.new (.cells [(.pointer none)] none))=some (H2.new (.cells [ptr w 0] none)):=by
  rw [store1_ptr,if_pos (show plain1 (ptr w 0)=true from rfl),AH.get_new_self]
  exact congrArg some (AH.new_put _ _ _)
 have hbS:buildS 3 1 #[(.string ⟨#[]⟩)] [(0,(.string ⟨#[47,97]⟩)),(1,(.string ⟨#[47,98]⟩)),(2,(.string ⟨#[47,97,47,100]⟩))]=some (.cells (bPaths.map str) none,mkSlc 3 3):=buildS_full 3 1 [str []] _ (bPaths.map str) rfl rfl rfl rfl (by intro v hv; obtain ⟨x,_,rfl⟩:=List.mem_map.1 hv; rfl)
 have hsv:(.func (.func (E.fid i.f45)) #[] #[ptr H2.next 0]:Value)=spotV E H2.next:=rfl
 simp only [allocW_eq,hst,hsv,hbS,AM.mk_some,mkSlc_eq,stdZ]
 generalize H2.next=TB at *
 generalize H2.new (.cells [ptr w 0] none)=H4 at *
 have x5:Ext H4 (H4.new (.cells (bPaths.map str) none)):=(Ext.refl _).new _
 have hr:Rows (H4.new (.cells (bPaths.map str) none)) 1 (slc H4.next 0 3 3) (strR bPaths):=Rows.made (rows:=strR bPaths) (AH.get_new_self _ _) (.inl rfl) rfl (by simp [strR])
 have h5:=h4.frz x5
 have h5:WkO [boxR TB [ptr w 0],frR H4.next (H4.new (.cells (bPaths.map str) none))] H (H4.new (.cells (bPaths.map str) none)) w (Tr.new 40) tab0 1:=h5
 have hfr:FreshV H4.next (slc H4.next 0 3 3):=fun b hb=>by
  have:H4.next=b:=by simpa [blk] using hb
  omega
 have hrz:=hr.since hfr
 have hl3:AM.lenSlc (slc H4.next 0 3 3)=some (vi ((3:Nat):Int)):=hr.lenSlc
 have i0:(.int .i64 0:Value)=vi ((0:Nat):Int):=rfl
 have c0:([ptr w 0]:List Value)[0]? = some (ptr w 0):=rfl
 have k2:(.int .u8 2:Value)=u8 2#8:=rfl
 have z2:([(.int .i64 0),(.int .u16 0)]:List Value)=PlaceD.zero.cells:=rfl
 have ne0:binInt .neq (vi 0) (vi ((0:Nat):Int))=some (vb false):=neq_f 0
 have hms:mkSlc 3 3 H4.next=slc H4.next 0 3 3:=rfl
 simp only [hl3,stdZ]
 rw [i0,hms]
 generalize slc H4.next 0 3 3=pv at *
 generalize H4.next=nn at *
 generalize H4.new (.cells (bPaths.map str) none)=K5 at *
 have tb2:∀ {H':AH} {T':Tr} {M':List MntD} {n':Int} {Y:List Res},WkO (boxR TB [ptr w 0] :: Y) H H' w T' M' n'->H'.get TB = .cells [ptr w 0] none:=fun h=>tbO h
 refine LoopL.count 3 (fun j ls H'=>ls=[lv,bv,ptr TB 0,spotV E TB,pv,vi ((3:Nat):Int),vi j]/\WkO [boxR TB [ptr w 0],frR nn K5] H H' w (bTree j) tab0 1) ?_ ⟨rfl,h5⟩
 rintro j _ H6 X0 hj hX ⟨rfl,h6⟩
 have ht6:=tbO h6
 obtain ⟨wf,kd,ti⟩:=bTree_wf j
 have r6:Rows H6 1 pv (strR bPaths):=hrz.sub (h6.since (k:=1) rfl)
 rcases Nat.lt_or_ge j 3 with hj3 | hj3
 ·have hX:=hX hj3
  have sj:=lss_t hj3
  have hjj:=i64_inc (i:=j) (by omega)
  obtain ⟨f1,f2,f3⟩:=bTree_facts j hj3
  obtain ⟨b,o,p1,p2,_⟩:=ix_strR r6 (i:=j) hj3
  have hget:bPaths[j]=bPaths.getD j []:=by rw [List.getD_eq_getElem?_getD,List.getElem?_eq_getElem (show j<bPaths.length from hj3)]; rfl
  rw [hget] at p2
  have hpl:(bPaths.getD j []).length<2 ^ 63:=by
   have:j=0\/j=1\/j=2:=by omega
   rcases this with rfl | rfl | rfl <;> decide
  have hsl:(bSpots.getD j SpotD.zero).name.length<2 ^ 63:=by
   have:j=0\/j=1\/j=2:=by omega
   rcases this with rfl | rfl | rfl <;> decide
  have h7:=h6.box PlaceD.zero.cells
  have h7:WkO ([boxR TB [ptr w 0],frR nn K5]++[boxR H6.next PlaceD.zero.cells]) H (H6.new (.cells PlaceD.zero.cells none)) w (bTree j) tab0 1:=h7
  have x7:Ext H6 (H6.new (.cells PlaceD.zero.cells none)):=(Ext.refl _).new _
  simp only [F.f44_l1,sj,p1,p2,ht6,c0,z2,allocW_eq,spotV_call,stdZ]
  generalize hB7:H6.next=B7 at *
  generalize H6.new (.cells PlaceD.zero.cells none)=H7 at *
  have hb7:=h7.held
  have ht7:=x7.cells ht6
  refine S.spot hE h7.at_ ht7 wf (Tr.KD.lt kd) (bPaths.getD j []) hpl fun H8 e8 =>?_
  rw [f1]
  have h8:=h7.mono e8
  refine ⟨by rw [h8.held,hb7],by simp only [ht6,e8.cells ht7,c0,stdZ],?_⟩
  simp only [k2,stdZ]
  refine S.f78 hE h8 wf (bSpots.getD j SpotD.zero) hsl 2#8 [] (by decide) f3 fun H9 h9 =>?_
  rw [f2]
  refine ⟨by rw [h9.held,hb7],?_⟩
  simp only [ne_eq,not_true,if_false,i0,ne0,put2 h9.held rfl,hjj,stdZ]
  exact hX _ _ ⟨by rw [wrap_i64 (by omega) (by omega)]; rfl,(h9.put _).drop⟩
 ·have hj3:j=3:=by omega
  subst hj3
  have sj:=lss_f (show ¬ 3<3 by omega)
  have sa:(.string ⟨#[47,97]⟩:Value)=str [47,97]:=rfl
  have sb:(.string ⟨#[47,98]⟩:Value)=str [47,98]:=rfl
  have f1:findW (bTree 3) tab0 topP [47,97] true=(⟨0,2#16⟩,0):=by decide +kernel
  have f2:findW (bTree 3) tab0 topP [47,98] true=(⟨0,3#16⟩,0):=by decide +kernel
  have f3:(bindW (bTree 3) tab0 1 ⟨0,2#16⟩ ⟨0,3#16⟩).M=bM:=by decide +kernel
  have f4:(bindW (bTree 3) tab0 1 ⟨0,2#16⟩ ⟨0,3#16⟩).e=0:=by decide +kernel
  have hbt:=bTree_bt
  generalize bTree 3=T3 at *
  have x7:Ext H6 (H6.new (.cells PlaceD.zero.cells none)):=(Ext.refl _).new _
  have hb7:=AH.get_new_self H6 (.cells PlaceD.zero.cells none)
  simp only [F.f44_l1,sj,ht6,c0,z2,allocW_eq,stdZ]
  generalize hB7:H6.next=B7 at *
  generalize hH7:H6.new (.cells PlaceD.zero.cells none)=H7 at *
  refine S.f42 hE fun H8 e8 =>?_
  have ht8:=(x7.trans e8).cells ht6
  refine ⟨by rw [e8.cells hb7,hb7],by simp only [ht6,ht8,c0,stdZ],?_⟩
  simp only [sa,stdZ]
  refine S.f86 hE (h6.mono (x7.trans e8)).at_ wf (Tr.KD.lt kd) topP [47,97] (by decide) true fun H9 e9 =>?_
  rw [f1]
  have hb9:=(e8.trans e9).cells hb7
  refine ⟨by rw [hb9,hb7],?_⟩
  have hst9:=put2 hb9 rfl ⟨0,2#16⟩
  have g7:Has H6 H6 H7 [boxR B7 PlaceD.zero.cells]:=by rw [<- hH7,<- hB7]; exact (Has.start (Ext.refl H6)).newbox PlaceD.zero.cells
  have g10:=(g7.grow (e8.trans e9)).put (k:=0) (b:=B7) rfl (PlaceD.cells ⟨0,2#16⟩)
  have g10:Has H6 H6 (H9.put B7 (.cells (PlaceD.cells ⟨0,2#16⟩) none)) [boxR B7 (PlaceD.cells ⟨0,2#16⟩)]:=g10
  simp only [hst9,stdZ]
  generalize H9.put B7 (.cells (PlaceD.cells ⟨0,2#16⟩) none)=H10 at *
  have ht10:=g10.ext.cells ht6
  have x11:Ext H10 (H10.new (.cells PlaceD.zero.cells none)):=(Ext.refl _).new _
  have hb11:=AH.get_new_self H10 (.cells PlaceD.zero.cells none)
  have g11:=g10.newbox PlaceD.zero.cells
  have g11:Has H6 H6 (H10.new (.cells PlaceD.zero.cells none)) [boxR B7 (PlaceD.cells ⟨0,2#16⟩),boxR H10.next PlaceD.zero.cells]:=g11
  simp only [ht10,c0,z2,allocW_eq,stdZ]
  generalize H10.next=B11 at *
  generalize H10.new (.cells PlaceD.zero.cells none)=H11 at *
  refine S.f42 hE fun H12 e12 =>?_
  have ht12:=(x11.trans e12).cells ht10
  refine ⟨by rw [e12.cells hb11,hb11],by simp only [ht10,ht12,c0,stdZ],?_⟩
  simp only [sb,stdZ]
  refine S.f86 hE (h6.mono (g11.ext.trans e12)).at_ wf (Tr.KD.lt kd) topP [47,98] (by decide) true fun H13 e13 =>?_
  rw [f2]
  have hb13:=(e12.trans e13).cells hb11
  refine ⟨by rw [hb13,hb11],?_⟩
  have hst13:=put2 hb13 rfl ⟨0,3#16⟩
  have g14:=(g11.grow (e12.trans e13)).put (k:=1) (b:=B11) rfl (PlaceD.cells ⟨0,3#16⟩)
  have g14:Has H6 H6 (H13.put B11 (.cells (PlaceD.cells ⟨0,3#16⟩) none)) [boxR B7 (PlaceD.cells ⟨0,2#16⟩),boxR B11 (PlaceD.cells ⟨0,3#16⟩)]:=g14
  simp only [hst13,stdZ]
  generalize H13.put B11 (.cells (PlaceD.cells ⟨0,3#16⟩) none)=H14 at *
  have ht14:=g14.ext.cells ht6
  have l1:loadN 2 (ptr B7 0) H14=some (PlaceD.v ⟨0,2#16⟩):=by rw [loadN_ptr,g14.box (k:=0) (b:=B7) rfl]; rfl
  have l2:loadN 2 (ptr B11 0) H14=some (PlaceD.v ⟨0,3#16⟩):=by rw [loadN_ptr,g14.box (k:=1) (b:=B11) rfl]; rfl
  have h14:=h6.mono g14.ext
  simp only [ht14,c0,l1,l2,stdZ]
  have tok:TabOk (bindT tab0 1 2#16 ⟨0,3#16⟩).T (bindT tab0 1 2#16 ⟨0,3#16⟩).nx:=(pinv0.bind 2#16 ⟨0,3#16⟩).ok (by omega)
  refine S.f76 hE h14 ⟨0,2#16⟩ ⟨0,3#16⟩ tok fun H15 h15 =>?_
  rw [f3] at h15
  rw [f4]
  have ne00:binInt .neq (vi ((0:Nat):Int)) (vi ((0:Nat):Int))=some (vb false):=neq_f _
  simp only [i0,ne0,ne00,hll,stdZ]
  have h15:WkO ([boxR TB [ptr w 0]]++[frR nn K5]) H H15 w T3 bM _:=h15
  exact binds_l2 hE h15.drop hbt hb hbl hl hQ
theorem S.law_VfsBinds (hE:Fold E) (args:List Value) (ha:ArgsSV H [.slice 1 (.int .u8),.slice 1 (.int .u8)] args) (hQ:∀ H',Q (vb true) H'):E.call (E.fid i.f44) args H Q:=by
 obtain ⟨v1,_,rfl,h1,ha⟩:=ha.cons_inv
 obtain ⟨v2,_,rfl,h2,ha⟩:=ha.cons_inv
 obtain rfl:=ha.nil_inv
 obtain ⟨l,q1,q2⟩:=ArgSV.u8s' h1
 obtain ⟨l2,r1,r2⟩:=ArgSV.u8s' h2
 refine S.f44 hE v1 v2 l l2 ?_ ?_ r2 hQ
 ·simpa [Vals,byteR,List.map_map,Function.comp_def] using q1
 ·simpa [Vals,byteR,List.map_map,Function.comp_def] using r1
end
end Go.AM
end
