/- THE FUNCTIONS, AS THE ABSTRACT MACHINE SEES THEM: written by program (gen2.py). -/
import Derived.Test.YtbpbjfemnpojoaaGreatDoorCb05cA1
set_option linter.all false
set_option linter.unusedVariables false
namespace Go.AM
abbrev LK:=List Value->AH->Prop
abbrev VK:=Value->AH->Prop
abbrev gO(g:Value)(w:Bool)(o:Option Value)(H:AH)(K:VK):Prop:=gd g w (λk=>opt o λv=>k v H) H K
abbrev gV(g:Value)(w:Bool)(x:Value)(H:AH)(K:VK):Prop:=gd g w (λk=>k x H) H K
@[congr] theorem aPH{g g':Value}{w:Bool}{o:Option Value}{H:AH}{K:VK}(h:g=g'):gO g w o H K=gO g' w o H K:=by rw[h]
@[congr] theorem aPz{g g':Value}{w:Bool}{x:Value}{H:AH}{K:VK}(h:g=g'):gV g w x H K=gV g' w x H K:=by rw[h]
abbrev G0(c:cJ)(i:Nat)(F:AH->VK->Prop):Prop:=∀  H Q,F  H Q->c i [] H Q
abbrev G1(c:cJ)(i:Nat)(F:Value->AH->VK->Prop):Prop:=∀ x0 H Q,F x0 H Q->c i [x0] H Q
abbrev G2(c:cJ)(i:Nat)(F:Value->Value->AH->VK->Prop):Prop:=∀ x0 x1 H Q,F x0 x1 H Q->c i [x0,x1] H Q
abbrev G3(c:cJ)(i:Nat)(F:Value->Value->Value->AH->VK->Prop):Prop:=∀ x0 x1 x2 H Q,F x0 x1 x2 H Q->c i [x0,x1,x2] H Q
abbrev G4(c:cJ)(i:Nat)(F:Value->Value->Value->Value->AH->VK->Prop):Prop:=∀ x0 x1 x2 x3 H Q,F x0 x1 x2 x3 H Q->c i [x0,x1,x2,x3] H Q
abbrev G5(c:cJ)(i:Nat)(F:Value->Value->Value->Value->Value->AH->VK->Prop):Prop:=∀ x0 x1 x2 x3 x4 H Q,F x0 x1 x2 x3 x4 H Q->c i [x0,x1,x2,x3,x4] H Q
abbrev G6(c:cJ)(i:Nat)(F:Value->Value->Value->Value->Value->Value->AH->VK->Prop):Prop:=∀ x0 x1 x2 x3 x4 x5 H Q,F x0 x1 x2 x3 x4 x5 H Q->c i [x0,x1,x2,x3,x4,x5] H Q
abbrev lp1(B:Value->AH->LK->Prop)(l:List Value)(H:AH):Prop:=aZ (λl H X=>B (nth l 0) H X) l H
abbrev lp3(B:Value->Value->Value->AH->LK->Prop)(l:List Value)(H:AH):Prop:=aZ (λl H X=>B (nth l 0) (nth l 1) (nth l 2) H X) l H
abbrev lp4(B:Value->Value->Value->Value->AH->LK->Prop)(l:List Value)(H:AH):Prop:=aZ (λl H X=>B (nth l 0) (nth l 1) (nth l 2) (nth l 3) H X) l H
abbrev lp5(B:Value->Value->Value->Value->Value->AH->LK->Prop)(l:List Value)(H:AH):Prop:=aZ (λl H X=>B (nth l 0) (nth l 1) (nth l 2) (nth l 3) (nth l 4) H X) l H
abbrev lp6(B:Value->Value->Value->Value->Value->Value->AH->LK->Prop)(l:List Value)(H:AH):Prop:=aZ (λl H X=>B (nth l 0) (nth l 1) (nth l 2) (nth l 3) (nth l 4) (nth l 5) H X) l H
abbrev lp7(B:Value->Value->Value->Value->Value->Value->Value->AH->LK->Prop)(l:List Value)(H:AH):Prop:=aZ (λl H X=>B (nth l 0) (nth l 1) (nth l 2) (nth l 3) (nth l 4) (nth l 5) (nth l 6) H X) l H
abbrev lp8(B:Value->Value->Value->Value->Value->Value->Value->Value->AH->LK->Prop)(l:List Value)(H:AH):Prop:=aZ (λl H X=>B (nth l 0) (nth l 1) (nth l 2) (nth l 3) (nth l 4) (nth l 5) (nth l 6) (nth l 7) H X) l H
abbrev lp9(B:Value->Value->Value->Value->Value->Value->Value->Value->Value->AH->LK->Prop)(l:List Value)(H:AH):Prop:=aZ (λl H X=>B (nth l 0) (nth l 1) (nth l 2) (nth l 3) (nth l 4) (nth l 5) (nth l 6) (nth l 7) (nth l 8) H X) l H
abbrev aOG(B:Value->Value->Value->Value->Value->Value->Value->Value->Value->Value->AH->LK->Prop)(l:List Value)(H:AH):Prop:=aZ (λl H X=>B (nth l 0) (nth l 1) (nth l 2) (nth l 3) (nth l 4) (nth l 5) (nth l 6) (nth l 7) (nth l 8) (nth l 9) H X) l H
abbrev aPD(B:Value->Value->Value->Value->Value->Value->Value->Value->Value->Value->Value->AH->LK->Prop)(l:List Value)(H:AH):Prop:=aZ (λl H X=>B (nth l 0) (nth l 1) (nth l 2) (nth l 3) (nth l 4) (nth l 5) (nth l 6) (nth l 7) (nth l 8) (nth l 9) (nth l 10) H X) l H
abbrev aP4(B:Value->Value->Value->Value->Value->Value->Value->Value->Value->Value->Value->Value->AH->LK->Prop)(l:List Value)(H:AH):Prop:=aZ (λl H X=>B (nth l 0) (nth l 1) (nth l 2) (nth l 3) (nth l 4) (nth l 5) (nth l 6) (nth l 7) (nth l 8) (nth l 9) (nth l 10) (nth l 11) H X) l H
abbrev aOj(B:Value->Value->Value->Value->Value->Value->Value->Value->Value->Value->Value->Value->Value->AH->LK->Prop)(l:List Value)(H:AH):Prop:=aZ (λl H X=>B (nth l 0) (nth l 1) (nth l 2) (nth l 3) (nth l 4) (nth l 5) (nth l 6) (nth l 7) (nth l 8) (nth l 9) (nth l 10) (nth l 11) (nth l 12) H X) l H
abbrev T0:Type:=Sy->Value->AH->VK->Prop
abbrev T1:Type:=Sy->Value->Value->AH->VK->Prop
abbrev T2:Type:=Sy->VK->Value->Value->Value->Value->Value->AH->LK->Prop
abbrev T3:Type:=Sy->VK->Value->Value->Value->Value->AH->LK->Prop
abbrev T4:Type:=Sy->Value->Value->Value->Value->AH->VK->Prop
abbrev T5:Type:=Sy->VK->Value->Value->Value->Value->Value->Value->AH->LK->Prop
abbrev T6:Type:=Sy->VK->Value->Value->Value->AH->LK->Prop
abbrev T7:Type:=Sy->Value->Value->Value->Value->Value->AH->VK->Prop
abbrev T8:Type:=Sy->Value->Value->Value->AH->VK->Prop
abbrev T9:Type:=Sy->VK->Value->Value->AH->Prop
abbrev T10:Type:=Sy->AH->VK->Prop
abbrev T11:Type:=Sy->VK->Value->Value->Value->Value->Value->Value->Value->AH->LK->Prop
abbrev T12:Type:=Sy->VK->Value->Value->Value->AH->Prop
abbrev T13:Type:=Sy->VK->LK->Value->Value->Value->Value->Value->Value->Value->Value->Value->AH->LK->Prop
abbrev T14:Type:=Sy->VK->LK->Value->Value->Value->Value->Value->Value->Value->Value->AH->Prop
abbrev T15:Type:=Sy->VK->LK->Value->Value->Value->Value->Value->Value->AH->LK->Prop
abbrev T16:Type:=Sy->VK->LK->Value->Value->Value->Value->Value->AH->LK->Prop
abbrev T17:Type:=Sy->VK->LK->Value->Value->Value->Value->Value->Value->AH->Prop
abbrev T18:Type:=Sy->VK->LK->Value->Value->Value->Value->Value->Value->Value->Value->Value->AH->Prop
abbrev T19:Type:=Sy->VK->LK->Value->Value->Value->Value->Value->Value->Value->AH->Prop
abbrev T20:Type:=Sy->VK->LK->Value->Value->Value->Value->Value->Value->Value->AH->LK->Prop
abbrev T21:Type:=Sy->VK->Value->Value->Value->Value->AH->Prop
abbrev T22:Type:=Sy->VK->Value->Value->Value->Value->Value->Value->Value->Value->AH->LK->Prop
abbrev T23:Type:=Sy->VK->LK->Value->Value->Value->Value->Value->Value->Value->Value->AH->LK->Prop
abbrev T24:Type:=Sy->VK->Value->AH->LK->Prop
abbrev T25:Type:=Sy->VK->LK->Value->Value->Value->Value->Value->Value->Value->Value->Value->Value->AH->Prop
def F.f87_l2(E:Sy)(Q:VK)(X0:LK)(t2 t3 t9 t11 t12 t14 t20 t41 t42 t43 t147 t148 t149:Value)(H:AH)(X1:LK):Prop :=
 opt (aA .lss t149 t148) λv1=>ifB v1 (
 opt (aI 9 t147 t149) λv2=>opt (aE 9 v2 H) λv3=>bI [(.int .u32 0),(.int .u32 0),(.int .u64 0),(.int .u64 0),(.int .u64 0),(.int .u64 0),(.int .u64 0),(.int .u64 0),(.int .u64 0)] H λv4 H1=>opt (aH 9 v4 v3 H1) λH2=>opt (aE 9 v4 H2) λv5=>E.call 10 [t12,v5] H2 λv6 H3=>opt (ext v6 0) λv7=>opt (ext v6 1) λv8=>opt (aE 6 t11 H3) λv9=>opt (aE 9 v4 H3) λv10=>E.call 18 [v9,v10] H3 λv11 H4=>opt (aA .neq v7 v11) λv12=>gV v12 false v8 H4 λv13 H5=>gV v12 false t14 H5 λv14 H6=>gO v12 false (lenSlc v14) H6 λv15 H7=>gO v12 false (aA .gtr v13 v15) H7 λv16 H8=>opt (pick v12 (.bool true) v16) λv17=>ifB v17 (
 Q (.bool false) H8) (
 opt (aA .add t149 (vi 1)) λv18=>X1 [t2,t3,t9,t11,t12,t14,t20,t41,t42,t43,t147,t148,v18] H8)) (
 opt (aE 6 t11 H) λv19=>E.call 19 [v19,t12,t20] H λv20 H9=>opt (ext v20 0) λv21=>opt (ext v20 1) λv22=>bI [(.int .u32 0),(.int .u32 0),(.int .u64 0),(.int .u64 0),(.int .u64 0),(.int .u64 0),(.int .u64 0),(.int .u64 0),(.int .u64 0)] H9 λv23 H10=>opt (aH 9 v23 v21 H10) λH11=>ifB v22 (
 Q (.bool false) H11) (
 opt (aA .add t43 (vi 1)) λv24=>X0 [t2,t3,t9,t41,t42,v24] H11))
def F.f87_l1:T5:=λE Q t2 t3 t9 t41 t42 t43 H X0 =>
 opt (aA .lss t43 t42) λv1=>ifB v1 (
 opt (aI 6 t41 t43) λv2=>opt (aE 6 v2 H) λv3=>bI [(.string ⟨#[]⟩),(.int .u32 0),(.slice none 0 0),(.int .u16 0),(.slice none 0 0),(.slice none 0 0)] H λv4 H1=>opt (aH 6 v4 v3 H1) λH2=>opt (aE 6 v4 H2) λv5=>E.call 8 [v5,t9] H2 λv6 H3=>opt (ext v6 0) λv7=>opt (ext v6 1) λv8=>opt (aE 6 v4 H3) λv9=>E.call 12 [v9,t9] H3 λv10 H4=>opt (ext v10 0) λv11=>opt (ext v10 1) λv12=>opt (aE 6 v4 H4) λv13=>E.call 13 [v13,t9] H4 λv14 H5=>opt (ext v14 0) λv15=>opt (ext v14 1) λv16=>opt (aE 6 v4 H5) λv17=>E.call 14 [v17,t9] H5 λv18 H6=>opt (aA .neq v18 (vi 0)) λv19=>ifB v19 (
 opt (aA .neq v8 v18) λv20=>gV v20 false v12 H6 λv21 H7=>gV v20 false v18 H7 λv22 H8=>gO v20 false (aA .neq v21 v22) H8 λv23 H9=>opt (pick v20 (.bool true) v23) λv24=>gV v24 false v16 H9 λv25 H10=>gV v24 false v18 H10 λv26 H11=>gO v24 false (aA .neq v25 v26) H11 λv27 H12=>opt (pick v24 (.bool true) v27) λv28=>gV v28 false v7 H12 λv29 H13=>gO v28 false (eW iU .neq v29 (.pointer none)) H13 λv30 H14=>opt (pick v28 (.bool true) v30) λv31=>gV v31 false v11 H14 λv32 H15=>gO v31 false (lenSlc v32) H15 λv33 H16=>gV v31 false v15 H16 λv34 H17=>gO v31 false (lenSlc v34) H17 λv35 H18=>gO v31 false (aA .add v33 v35) H18 λv36 H19=>gO v31 false (aA .gtr v36 (vi 0)) H19 λv37 H20=>opt (pick v31 (.bool true) v37) λv38=>ifB v38 (
 Q (.bool false) H20) (
 opt (aA .add t43 (vi 1)) λv39=>X0 [t2,t3,t9,t41,t42,v39] H20)) (
 opt (aA .neq v8 (vi 0)) λv40=>ifB v40 (
 opt (aA .neq v8 (vi 205)) λv41=>gV v41 false v12 H6 λv42 H21=>gO v41 false (aA .neq v42 (vi 205)) H21 λv43 H22=>opt (pick v41 (.bool true) v43) λv44=>gV v44 false v16 H22 λv45 H23=>gO v44 false (aA .neq v45 (vi 205)) H23 λv46 H24=>opt (pick v44 (.bool true) v46) λv47=>ifB v47 (
 Q (.bool false) H24) (
 opt (aA .add t43 (vi 1)) λv48=>X0 [t2,t3,t9,t41,t42,v48] H24)) (
 opt (aA .neq v12 (vi 0)) λv49=>gV v49 false v11 H6 λv50 H25=>gO v49 false (lenSlc v50) H25 λv51 H26=>gV v49 false v7 H26 λv52 H27=>gd v49 false (λk=>E.call 15 [v52] H27 λv h=>k v h) H27 λv53 H28=>gO v49 false (aA .neq v51 v53) H28 λv54 H29=>opt (pick v49 (.bool true) v54) λv55=>gV v55 false v16 H29 λv56 H30=>gO v55 false (aA .eql v56 (vi 0)) H30 λv57 H31=>gV v55 false v57 H31 λv58 H32=>gV v58 true v15 H32 λv59 H33=>gO v58 true (lenSlc v59) H33 λv60 H34=>gV v58 true v11 H34 λv61 H35=>gO v58 true (lenSlc v61) H35 λv62 H36=>gO v58 true (aA .lss v60 v62) H36 λv63 H37=>gO v55 false (pick v58 v63 (.bool false)) H37 λv64 H38=>opt (pick v55 (.bool true) v64) λv65=>gV v65 false v16 H38 λv66 H39=>gO v65 false (aA .neq v66 (vi 0)) H39 λv67 H40=>gV v65 false v67 H40 λv68 H41=>gV v68 true v16 H41 λv69 H42=>gO v68 true (aA .neq v69 (vi 205)) H42 λv70 H43=>gO v65 false (pick v68 v70 (.bool false)) H43 λv71 H44=>opt (pick v65 (.bool true) v71) λv72=>ifB v72 (
 Q (.bool false) H44) (
 E.call 16 [v11] H44 λv73 H45=>bI [vi 0,vi 0] H45 λv74 H46=>opt (aH 2 v74 v73 H46) λH47=>opt (aE 2 v74 H47) λv75=>opt (aK [(0,1),(1,1)] #[vi 0,vi 0] []) λv76=>opt (iE [0,0] .neq v75 v76) λv77=>ifB v77 (
 Q (.bool false) H47) (
 opt (aE 6 v4 H47) λv78=>opt (aE 6 v4 H47) λv79=>E.call 9 [v78,t2,t3] H47 λv80 H48=>aE 6 v4 H48=aE 6 v4 H47 /\
 E.call 17 [v79] H48 λv81 H49=>gN (app 9 64 v80 v81 H49) λv82 H50=>opt (lenSlc v82) λv83=>aOj (F.f87_l2 E Q X0) [t2,t3,t9,v4,v7,v11,v82,t41,t42,t43,v82,v83,vi 0] H50))))) (
 Q (.bool true) H)
def F.f87:T4:=λE x0 x1 x2 x3 H Q =>
 mk (eQ x0) H λv1 H1=>mk (eQ x1) H1 λv2 H2=>E.call 5 [] H2 λv3 H3=>opt (un .not v3) λv4=>ifB v4 (
 Q (.bool false) H3) (
 opt (aE 6 v1 H3) λv5=>E.call 11 [v5] H3 λv6 H4=>opt (un .not v6) λv7=>gV v7 false x2 H4 λv8 H5=>gO v7 false (lenSlc v8) H5 λv9 H6=>gO v7 false (aA .gtr v9 (vi 20)) H6 λv10 H7=>opt (pick v7 (.bool true) v10) λv11=>ifB v11 (
 Q (.bool true) H7) (
 E.call 6 [] H7 λv12 H8=>opt (aE 6 v1 H8) λv13=>opt (aE 8 v2 H8) λv14=>E.call 7 [v14] H8 λv15 H9=>aE 6 v1 H9=aE 6 v1 H8 /\
 mk (bO 2 6 #[(.string ⟨#[]⟩),(.int .u32 0),(.slice none 0 0),(.int .u16 0),(.slice none 0 0),(.slice none 0 0)] [(0,v13),(1,v15)]) H9 λv16 H10=>opt (lenSlc v16) λv17=>lp6 (F.f87_l1 E Q) [x2,x3,v12,v16,v17,vi 0] H10))

def F.f86:T10:=λE H Q =>
 opt (aK [(0,1),(1,1),(2,1),(3,1),(4,1),(5,1)] #[(.string ⟨#[]⟩),(.int .u32 0),(.slice none 0 0),(.int .u16 0),(.slice none 0 0),(.slice none 0 0)] [(0,(.string ⟨#[112]⟩)),(1,(.int .u32 2147418112))]) λv1=>E.call 6 [] H λv2 H1=>E.call 8 [v1,v2] H1 λv3 H2=>opt (ext v3 0) λv4=>opt (ext v3 1) λv5=>opt (aA .eql v5 (vi 0)) λv6=>gV v6 true v4 H2 λv7 H3=>gd v6 true (λk=>E.call 15 [v7] H3 λv h=>k v h) H3 λv8 H4=>gO v6 true (aA .eql v8 (vi 5)) H4 λv9 H5=>opt (pick v6 v9 (.bool false)) λv10=>Q v10 H5

def F.f81_l2:T3:=λE Q t1 t20 t21 t22 H X0 =>
 opt (aA .lss t22 t21) λv1=>ifB v1 (
 opt (aI 2 t20 t22) λv2=>opt (aE 2 v2 H) λv3=>bI [(.string ⟨#[]⟩),(.int .u16 0)] H λv4 H1=>opt (aH 2 v4 v3 H1) λH2=>opt (aB v4 0) λv5=>opt (aD v5 H2) λv6=>opt (fV v6) λv7=>opt (aA .gtr v7 (vi 200)) λv8=>ifB v8 (
 Q (.bool false) H2) (
 opt (aA .add t22 (vi 1)) λv9=>X0 [t1,t20,t21,v9] H2)) (
 opt (aB t1 2) λv10=>opt (aD v10 H) λv11=>opt (lenSlc v11) λv12=>opt (aA .leq v12 (vi 80)) λv13=>gO v13 true (aB t1 4) H λv14 H3=>gO v13 true (aD v14 H3) H3 λv15 H4=>gO v13 true (lenSlc v15) H4 λv16 H5=>gO v13 true (aA .leq v16 (vi 50)) H5 λv17 H6=>opt (pick v13 v17 (.bool false)) λv18=>gO v18 true (aB t1 5) H6 λv19 H7=>gO v18 true (aD v19 H7) H7 λv20 H8=>gO v18 true (lenSlc v20) H8 λv21 H9=>gO v18 true (aA .leq v21 (vi 50)) H9 λv22 H10=>opt (pick v18 v22 (.bool false)) λv23=>gO v23 true (aB t1 0) H10 λv24 H11=>gO v23 true (aD v24 H11) H11 λv25 H12=>gO v23 true (fV v25) H12 λv26 H13=>gO v23 true (aA .leq v26 (vi 100)) H13 λv27 H14=>opt (pick v23 v27 (.bool false)) λv28=>Q v28 H14)
def F.f81_l1:T3:=λE Q t1 t8 t9 t10 H X0 =>
 opt (aA .lss t10 t9) λv1=>ifB v1 (
 opt (aI 3 t8 t10) λv2=>opt (aE 3 v2 H) λv3=>bI [(.int .u32 0),(.int .u32 0),(.slice none 0 0)] H λv4 H1=>opt (aH 3 v4 v3 H1) λH2=>opt (aB v4 2) λv5=>opt (aD v5 H2) λv6=>opt (lenSlc v6) λv7=>opt (aA .gtr v7 (vi 20)) λv8=>ifB v8 (
 Q (.bool false) H2) (
 opt (aA .add t10 (vi 1)) λv9=>X0 [t1,t8,t9,v9] H2)) (
 opt (aB t1 4) λv10=>opt (aD v10 H) λv11=>opt (lenSlc v11) λv12=>lp4 (F.f81_l2 E Q) [t1,v11,v12,vi 0] H)
def F.f81:T0:=λE x0 H Q =>
 mk (eQ x0) H λv1 H1=>opt (aB v1 2) λv2=>opt (aD v2 H1) λv3=>opt (lenSlc v3) λv4=>lp4 (F.f81_l1 E Q) [v1,v3,v4,vi 0] H1

def F.f72:T10:=λE H Q =>
 opt (aK [(0,3),(3,1),(4,1),(5,1),(6,1)] #[(.int .u32 0),(.int .i32 0),(.int .u32 0),(.map none),(.map none),vi 0,vi 0] []) λv1=>mk (eQ v1) H λv2 H1=>Q v2 H1

def F.f82_l2:T11:=λE Q t2 t4 t11 t16 t131 t132 t133 H X0 =>
 opt (aA .lss t133 t132) λv1=>ifB v1 (
 opt (aI 1 t131 t133) λv2=>opt (aD v2 H) λv3=>opt (aA .rem v3 (.int .u8 4)) λv4=>opt (aA .add (.int .u8 80) v4) λv5=>opt (aS .u16 v5) λv6=>fQ E.call t11 [t133,(.int .u16 49152)] H λv7 H1=>opt (look 0 (.bool false) false t16 v6 H1) λv8=>opt (un .not v8) λv9=>gV v9 true v7 H1 λv10 H2=>gO v9 true (aA .neq v10 (.int .u16 0)) H2 λv11 H3=>opt (pick v9 v11 (.bool false)) λv12=>ifB v12 (
 opt (eO 0 t16 v6 (.bool true) H3) λH4=>opt (aB t4 5) λv13=>opt (aD v13 H4) λv14=>opt (aK [(0,1),(1,1)] #[(.int .u16 0),(.int .u16 0)] [(0,v6),(1,v7)]) λv15=>mk (bO 1 2 #[(.int .u16 0),(.int .u16 0)] [(0,v15)]) H4 λv16 H5=>gN (app 2 4 v14 v16 H5) λv17 H6=>opt (aB t4 5) λv18=>opt (bD v18 v17 H6) λH7=>opt (aA .add t133 (vi 1)) λv19=>X0 [t2,t4,t11,t16,t131,t132,v19] H7) (
 opt (aA .add t133 (vi 1)) λv20=>X0 [t2,t4,t11,t16,t131,t132,v20] H3)) (
 opt (aE 6 t4 H) λv21=>opt (aH 6 t2 v21 H) λH8=>opt (aE 6 t2 H8) λv22=>Q v22 H8)
def F.f82_l1:T22:=λE Q t1 t2 t4 t10 t11 t92 t93 t94 H X0 =>
 opt (aA .lss t94 t93) λv1=>ifB v1 (
 opt (aI 1 t92 t94) λv2=>opt (aD v2 H) λv3=>E.call 24 [] H λv4 H1=>opt (aS .i64 v3) λv5=>E.call 24 [] H1 λv6 H2=>opt (lenSlc v6) λv7=>opt (aA .rem v5 v7) λv8=>opt (aI 1 v4 v8) λv9=>opt (aD v9 H2) λv10=>fQ E.call t11 [t94,(.int .u16 2047)] H2 λv11 H3=>opt (look 1 (.bool false) false t10 v10 H3) λv12=>opt (un .not v12) λv13=>gV v13 true v11 H3 λv14 H4=>gO v13 true (aA .neq v14 (.int .u16 0)) H4 λv15 H5=>opt (pick v13 v15 (.bool false)) λv16=>ifB v16 (
 opt (eO 1 t10 v10 (.bool true) H5) λH6=>opt (aB t4 4) λv17=>opt (aD v17 H6) λv18=>opt (aK [(0,1),(1,1)] #[(.string ⟨#[]⟩),(.int .u16 0)] [(0,v10),(1,v11)]) λv19=>mk (bO 1 2 #[(.string ⟨#[]⟩),(.int .u16 0)] [(0,v19)]) H6 λv20 H7=>gN (app 2 24 v18 v20 H7) λv21 H8=>opt (aB t4 4) λv22=>opt (bD v22 v21 H8) λH9=>opt (aA .add t94 (vi 1)) λv23=>X0 [t1,t2,t4,t10,t11,t92,t93,v23] H9) (
 opt (aA .add t94 (vi 1)) λv24=>X0 [t1,t2,t4,t10,t11,t92,t93,v24] H5)) (
 pD H λv25 H10=>opt (aB t1 7) λv26=>opt (aD v26 H10) λv27=>opt (lenSlc v27) λv28=>lp7 (F.f82_l2 E Q) [t2,t4,t11,v25,v27,v28,vi 0] H10)
def F.f82_j1:T12:=λE Q t1 t2 t4 H =>
 pD H λv1 H1=>opt (some (.func (.func 23) #[] #[t1,t4])) λv2=>opt (aB t1 5) λv3=>opt (aD v3 H1) λv4=>opt (lenSlc v4) λv5=>lp8 (F.f82_l1 E Q) [t1,t2,t4,v1,v2,v4,v5,vi 0] H1
def F.f82_l4(E:Sy)(Q:VK)(X0:LK)(t1 t2 t3 t4 t7 t38 t39 t40 t65 t66 t67:Value)(H:AH)(X1:LK):Prop :=
 opt (aA .lss t67 t66) λv1=>ifB v1 (
 opt (aI 4 t65 t67) λv2=>opt (aE 4 v2 H) λv3=>bI [(.int .u8 0),(.int .u8 0),(.int .u8 0),(.int .u8 0)] H λv4 H1=>opt (aH 4 v4 v3 H1) λH2=>opt (aA .lss t67 (vi 4)) λv5=>ifB v5 (
 opt (aB t7 2) λv6=>opt (aD v6 H2) λv7=>opt (aE 4 v4 H2) λv8=>E.call 22 [v8] H2 λv9 H3=>aD v6 H3=aD v6 H2 /\
 mk (bO 1 4 #[vi 0,(.int .u8 0),(.int .u64 0),(.int .u64 0)] [(0,v9)]) H3 λv10 H4=>gN (app 4 32 v7 v10 H4) λv11 H5=>opt (aB t7 2) λv12=>opt (bD v12 v11 H5) λH6=>opt (aA .add t67 (vi 1)) λv13=>X1 [t1,t2,t3,t4,t7,t38,t39,t40,t65,t66,v13] H6) (
 opt (aA .add t67 (vi 1)) λv14=>X1 [t1,t2,t3,t4,t7,t38,t39,t40,t65,t66,v14] H2)) (
 opt (aB t4 2) λv15=>opt (aD v15 H) λv16=>opt (aE 3 t7 H) λv17=>mk (bO 1 3 #[(.int .u32 0),(.int .u32 0),(.slice none 0 0)] [(0,v17)]) H λv18 H7=>gN (app 3 32 v16 v18 H7) λv19 H8=>opt (aB t4 2) λv20=>opt (bD v20 v19 H8) λH9=>opt (aA .add t40 (vi 1)) λv21=>X0 [t1,t2,t3,t4,t38,t39,v21] H9)
def F.f82_l3:T11:=λE Q t1 t2 t3 t4 t38 t39 t40 H X0 =>
 opt (aA .lss t40 t39) λv1=>ifB v1 (
 opt (aI 4 t38 t40) λv2=>opt (aE 4 v2 H) λv3=>bI [(.int .u8 0),(.int .u8 0),(.int .u8 0),(.slice none 0 0)] H λv4 H1=>opt (aH 4 v4 v3 H1) λH2=>opt (aA .geq t40 (vi 12)) λv5=>ifB v5 (
 F.f82_j1 E Q t1 t2 t4 H2) (
 opt (aB v4 0) λv6=>opt (aD v6 H2) λv7=>opt (aS .i64 v7) λv8=>opt (lenSlc t3) λv9=>opt (aA .rem v8 v9) λv10=>opt (aI 3 t3 v10) λv11=>opt (aB v11 0) λv12=>opt (aD v12 H2) λv13=>opt (aS .u32 v13) λv14=>opt (aB v4 1) λv15=>opt (aD v15 H2) λv16=>opt (aB v4 2) λv17=>opt (aD v17 H2) λv18=>bI [(.int .u32 0),(.int .u32 0),(.slice none 0 0)] H2 λv19 H3=>E.call 21 [v16,v18] H3 λv20 H4=>H4.get H2.next=H3.get H2.next /\
 aD v12 H4=aD v12 H2 /\
 aD v6 H4=aD v6 H2 /\
 opt (aK [(0,1),(1,1),(2,1)] #[(.int .u32 0),(.int .u32 0),(.slice none 0 0)] [(0,v14),(1,v20)]) λv21=>opt (aH 3 v19 v21 H4) λH5=>opt (aB v4 3) λv22=>opt (aD v22 H5) λv23=>opt (lenSlc v23) λv24=>aPD (F.f82_l4 E Q X0) [t1,t2,t3,t4,v19,t38,t39,t40,v23,v24,vi 0] H5)) (
 F.f82_j1 E Q t1 t2 t4 H)
def F.f82:T0:=λE x0 H Q =>
 mk (eQ x0) H λv1 H1=>bI [(.string ⟨#[]⟩),(.int .u32 0),(.slice none 0 0),(.int .u16 0),(.slice none 0 0),(.slice none 0 0)] H1 λv2 H2=>E.call 20 [] H2 λv3 H3=>mk (bO 3 1 #[(.string ⟨#[]⟩)] [(0,(.string ⟨#[112]⟩)),(1,(.string ⟨#[112,111,108,45,49]⟩)),(2,(.string ⟨#[120,95,121]⟩))]) H3 λv4 H4=>opt (aB v1 0) λv5=>opt (aD v5 H4) λv6=>opt (aA .rem v6 (.int .u8 3)) λv7=>opt (aI 1 v4 v7) λv8=>opt (aD v8 H4) λv9=>opt (aB v1 1) λv10=>opt (aD v10 H4) λv11=>opt (aB v1 2) λv12=>opt (aD v12 H4) λv13=>opt (aB v1 4) λv14=>opt (aD v14 H4) λv15=>opt (aA .and v15 (.int .u16 51199)) λv16=>bI [(.string ⟨#[]⟩),(.int .u32 0),(.slice none 0 0),(.int .u16 0),(.slice none 0 0),(.slice none 0 0)] H4 λv17 H5=>E.call 21 [v11,v13] H5 λv18 H6=>H6.get H4.next=H5.get H4.next /\
 aD v14 H6=aD v14 H4 /\
 aD v8 H6=aD v8 H4 /\
 aD v5 H6=aD v5 H4 /\
 H6.get H3.next=H4.get H3.next /\
 opt (aK [(0,1),(1,1),(2,1),(3,1),(4,1),(5,1)] #[(.string ⟨#[]⟩),(.int .u32 0),(.slice none 0 0),(.int .u16 0),(.slice none 0 0),(.slice none 0 0)] [(0,v9),(1,v18),(3,v16)]) λv19=>opt (aH 6 v17 v19 H6) λH7=>opt (aB v1 3) λv20=>opt (aD v20 H7) λv21=>opt (lenSlc v21) λv22=>lp7 (F.f82_l3 E Q) [v1,v2,v3,v17,v21,v22,vi 0] H7

def F.f12:T1:=λE x0 x1 H Q =>
 mk (eQ x0) H λv1 H1=>opt (aE 6 v1 H1) λv2=>E.call 12 [v2,x1] H1 λv3 H2=>opt (ext v3 0) λv4=>opt (ext v3 1) λv5=>opt (aA .neq v5 (vi 0)) λv6=>ifB v6 (
 Q (.tuple #[(.pointer none),v5]) H2) (
 E.call 25 [v4] H2 λv7 H3=>opt (ext v7 0) λv8=>opt (ext v7 1) λv9=>bI [vi 0,vi 0] H3 λv10 H4=>opt (aH 2 v10 v9 H4) λH5=>opt (aE 2 v10 H5) λv11=>opt (aK [(0,1),(1,1)] #[vi 0,vi 0] []) λv12=>opt (iE [0,0] .neq v11 v12) λv13=>ifB v13 (
 opt (aB v10 1) λv14=>opt (aD v14 H5) λv15=>Q (.tuple #[(.pointer none),v15]) H5) (
 Q (.tuple #[v8,vi 0]) H5))

def F.f13:T1:=λE x0 x1 H Q =>
 mk (eQ x0) H λv1 H1=>opt (aE 6 v1 H1) λv2=>E.call 14 [v2,x1] H1 λv3 H2=>opt (aA .neq v3 (vi 0)) λv4=>ifB v4 (
 Q (.tuple #[(.slice none 0 0),v3]) H2) (
 opt (aE 6 v1 H2) λv5=>E.call 30 [v5] H2 λv6 H3=>E.call 29 [v6] H3 λv7 H4=>E.call 28 [v7] H4 λv8 H5=>E.call 32 [v8] H5 λv9 H6=>E.call 31 [v9] H6 λv10 H7=>opt (ext v10 0) λv11=>opt (ext v10 1) λv12=>E.call 31 [v8] H7 λv13 H8=>opt (ext v13 0) λv14=>opt (ext v13 1) λv15=>opt (aA .neq v12 (vi 0)) λv16=>gV v16 false v15 H8 λv17 H9=>gO v16 false (aA .eql v17 (vi 0)) H9 λv18 H10=>gV v16 false v18 H10 λv19 H11=>gV v19 true v14 H11 λv20 H12=>gO v19 true (lenSlc v20) H12 λv21 H13=>gV v19 true v11 H13 λv22 H14=>gO v19 true (lenSlc v22) H14 λv23 H15=>gO v19 true (aA .lss v21 v23) H15 λv24 H16=>gO v16 false (pick v19 v24 (.bool false)) H16 λv25 H17=>opt (pick v16 (.bool true) v25) λv26=>ifB v26 (
 Q (.tuple #[v14,v15]) H17) (
 Q (.tuple #[v11,vi 0]) H17))

def F.f15:T1:=λE x0 x1 H Q =>
 mk (eQ x0) H λv1 H1=>opt (aE 6 v1 H1) λv2=>E.call 14 [v2,x1] H1 λv3 H2=>opt (aA .neq v3 (vi 0)) λv4=>ifB v4 (
 Q (.tuple #[(.slice none 0 0),v3]) H2) (
 opt (aE 6 v1 H2) λv5=>E.call 30 [v5] H2 λv6 H3=>E.call 29 [v6] H3 λv7 H4=>E.call 31 [v7] H4 λv8 H5=>opt (ext v8 0) λv9=>opt (ext v8 1) λv10=>Q (.tuple #[v9,v10]) H5)

def F.f91_l1:T2:=λE Q t1 t2 t45 t46 t47 H X0 =>
 opt (aA .lss t47 t46) λv1=>ifB v1 (
 opt (aI 3 t45 t47) λv2=>opt (aE 3 v2 H) λv3=>bI [(.int .u32 0),(.int .u32 0),(.slice none 0 0)] H λv4 H1=>opt (aH 3 v4 v3 H1) λH2=>opt (aE 3 v4 H2) λv5=>E.call 36 [v5,t1] H2 λv6 H3=>opt (aA .neq v6 (vi 0)) λv7=>ifB v7 (
 Q v6 H3) (
 opt (aA .add t47 (vi 1)) λv8=>X0 [t1,t2,t45,t46,v8] H3)) (
 opt (aE 6 t2 H) λv9=>E.call 37 [v9] H λv10 H4=>opt (aA .neq v10 (vi 0)) λv11=>ifB v11 (
 Q v10 H4) (
 opt (aE 6 t2 H4) λv12=>E.call 38 [v12] H4 λv13 H5=>Q v13 H5))
def F.f91:T1:=λE x0 x1 H Q =>
 mk (eQ x0) H λv1 H1=>opt (eW iU .eql x1 (.pointer none)) λv2=>ifB v2 (
 Q (vi 201) H1) (
 opt (aB v1 0) λv3=>opt (aD v3 H1) λv4=>E.call 33 [v4] H1 λv5 H2=>opt (un .not v5) λv6=>ifB v6 (
 Q (vi 202) H2) (
 opt (aB v1 1) λv7=>opt (aD v7 H2) λv8=>E.call 34 [v8] H2 λv9 H3=>opt (un .not v9) λv10=>ifB v10 (
 Q (vi 210) H3) (
 opt (aB v1 2) λv11=>opt (aD v11 H3) λv12=>opt (lenSlc v12) λv13=>opt (aA .gtr v13 (vi 64)) λv14=>gO v14 false (aB v1 4) H3 λv15 H4=>gO v14 false (aD v15 H4) H4 λv16 H5=>gO v14 false (lenSlc v16) H5 λv17 H6=>gO v14 false (aA .gtr v17 (vi 32)) H6 λv18 H7=>opt (pick v14 (.bool true) v18) λv19=>gO v19 false (aB v1 5) H7 λv20 H8=>gO v19 false (aD v20 H8) H8 λv21 H9=>gO v19 false (lenSlc v21) H9 λv22 H10=>gO v19 false (aA .gtr v22 (vi 32)) H10 λv23 H11=>opt (pick v19 (.bool true) v23) λv24=>ifB v24 (
 Q (vi 205) H11) (
 opt (aB v1 3) λv25=>opt (aD v25 H11) λv26=>E.call 35 [v26] H11 λv27 H12=>opt (un .not v27) λv28=>ifB v28 (
 Q (vi 204) H12) (
 opt (aB v1 2) λv29=>opt (aD v29 H12) λv30=>opt (lenSlc v30) λv31=>lp5 (F.f91_l1 E Q) [x1,v1,v30,v31,vi 0] H12)))))

def F.f143:T0:=λE x0 H Q =>
 opt (eW iU .eql x0 (.pointer none)) λv1=>ifB v1 (
 Q (vi 0) H) (
 opt (aO x0) λv2=>opt (aB v2 0) λv3=>opt (aD v3 H) λv4=>opt (lenSlc v4) λv5=>Q v5 H)

def F.f0_l1:T2:=λE Q t0 t2 t17 t18 t19 H X0 =>
 opt (aA .lss t19 t18) λv1=>ifB v1 (
 opt (aI 4 t17 t19) λv2=>opt (aE 4 v2 H) λv3=>bI [(.int .u16 0),(.int .u8 0),(.int .u8 0),(.int .u32 0)] H λv4 H1=>opt (aH 4 v4 v3 H1) λH2=>opt (aE 4 v4 H2) λv5=>opt (lenSlc t0) λv6=>E.call 39 [v5,t19,v6] H2 λv7 H3=>opt (aA .neq v7 (vi 0)) λv8=>ifB v8 (
 opt (aK [(0,1),(1,1)] #[vi 0,vi 0] [(0,t19),(1,v7)]) λv9=>opt (aH 2 t2 v9 H3) λH4=>opt (aE 2 t2 H4) λv10=>Q v10 H4) (
 opt (aA .add t19 (vi 1)) λv11=>X0 [t0,t2,t17,t18,v11] H3)) (
 opt (lenSlc t0) λv12=>opt (aA .sub v12 (vi 1)) λv13=>opt (aI 4 t0 v13) λv14=>opt (aE 4 v14 H) λv15=>E.call 40 [v15] H λv16 H5=>opt (un .not v16) λv17=>ifB v17 (
 opt (aK [(0,1),(1,1)] #[vi 0,vi 0] [(0,v13),(1,(vi 209))]) λv18=>opt (aH 2 t2 v18 H5) λH6=>opt (aE 2 t2 H6) λv19=>Q v19 H6) (
 E.call 41 [t0] H5 λv20 H7=>opt (aH 2 t2 v20 H7) λH8=>opt (aE 2 t2 H8) λv21=>Q v21 H8))
def F.f0:T0:=λE x0 H Q =>
 bI [vi 0,vi 0] H λv1 H1=>opt (lenSlc x0) λv2=>opt (aA .eql v2 (vi 0)) λv3=>ifB v3 (
 opt (aK [(0,1),(1,1)] #[vi 0,vi 0] [(0,(vi 0)),(1,(vi 203))]) λv4=>opt (aH 2 v1 v4 H1) λH2=>opt (aE 2 v1 H2) λv5=>Q v5 H2) (
 opt (lenSlc x0) λv6=>opt (aA .gtr v6 (vi 4096)) λv7=>ifB v7 (
 opt (aK [(0,1),(1,1)] #[vi 0,vi 0] [(0,(vi 4096)),(1,(vi 205))]) λv8=>opt (aH 2 v1 v8 H1) λH3=>opt (aE 2 v1 H3) λv9=>Q v9 H3) (
 opt (lenSlc x0) λv10=>lp5 (F.f0_l1 E Q) [x0,v1,x0,v10,vi 0] H1))

def F.f85_l2(E:Sy)(Q:VK)(X0:LK)(t3 t7 t9 t11 t17 t18 t19 t48 t49 t50:Value)(H:AH)(X1:LK):Prop :=
 opt (aA .lss t50 t49) λv1=>ifB v1 (
 opt (aI 4 t48 t50) λv2=>opt (aE 4 v2 H) λv3=>bI [vi 0,(.int .u8 0),(.int .u64 0),(.int .u64 0)] H λv4 H1=>opt (aH 4 v4 v3 H1) λH2=>opt (aB v4 0) λv5=>opt (aD v5 H2) λv6=>opt (aA .geq v6 (vi 0)) λv7=>gO v7 true (aB v4 0) H2 λv8 H3=>gO v7 true (aD v8 H3) H3 λv9 H4=>gO v7 true (aA .leq v9 (vi 5)) H4 λv10 H5=>opt (pick v7 v10 (.bool false)) λv11=>ifB v11 (
 opt (aB v4 0) λv12=>opt (aD v12 H5) λv13=>opt (aB v4 3) λv14=>opt (aD v14 H5) λv15=>opt (aA .quo t9 (.int .u8 16)) λv16=>opt (aA .rem v16 (.int .u8 3)) λv17=>opt (aS .u64 v17) λv18=>opt (aA .add v15 v18) λv19=>opt (aA .rem t50 (vi 2)) λv20=>opt (aS .u64 v20) λv21=>opt (aA .rem t9 (.int .u8 2)) λv22=>opt (aS .u64 v22) λv23=>opt (aA .mul v21 v23) λv24=>opt (aA .sub v19 v24) λv25=>opt (aB t11 3) λv26=>opt (oQ 6 1 v26 v13) λv27=>opt (bD v27 v25 H5) λH6=>opt (aA .add t50 (vi 1)) λv28=>X1 [t3,t7,t9,t11,t17,t18,t19,t48,t49,v28] H6) (
 opt (aA .add t50 (vi 1)) λv29=>X1 [t3,t7,t9,t11,t17,t18,t19,t48,t49,v29] H5)) (
 opt (aE 9 t11 H) λv30=>mk (bO 1 9 #[(.int .u32 0),(.int .u32 0),(.int .u64 0),(.int .u64 0),(.int .u64 0),(.int .u64 0),(.int .u64 0),(.int .u64 0),(.int .u64 0)] [(0,v30)]) H λv31 H7=>gN (app 9 64 t7 v31 H7) λv32 H8=>opt (aA .add t19 (vi 1)) λv33=>X0 [t3,v32,t17,t18,v33] H8)
def F.f85_l1:T2:=λE Q t3 t7 t17 t18 t19 H X0 =>
 opt (aA .lss t19 t18) λv1=>ifB v1 (
 opt (aI 1 t17 t19) λv2=>opt (aD v2 H) λv3=>opt (aA .geq t19 (vi 30)) λv4=>gO v4 false (aB t3 2) H λv5 H1=>gO v4 false (aD v5 H1) H1 λv6 H2=>gO v4 false (lenSlc v6) H2 λv7 H3=>gO v4 false (aA .eql v7 (vi 0)) H3 λv8 H4=>opt (pick v4 (.bool true) v8) λv9=>ifB v9 (
 Q t7 H4) (
 opt (aB t3 2) λv10=>opt (aD v10 H4) λv11=>opt (aS .i64 v3) λv12=>opt (aB t3 2) λv13=>opt (aD v13 H4) λv14=>opt (lenSlc v14) λv15=>opt (aA .rem v12 v15) λv16=>opt (aI 3 v11 v16) λv17=>opt (aE 3 v17 H4) λv18=>bI [(.int .u32 0),(.int .u32 0),(.slice none 0 0)] H4 λv19 H5=>opt (aH 3 v19 v18 H5) λH6=>opt (aB v19 0) λv20=>opt (aD v20 H6) λv21=>opt (aS .u64 v3) λv22=>opt (aK [(0,1),(1,1),(2,1),(3,6)] #[(.int .u32 0),(.int .u32 0),(.int .u64 0),(.int .u64 0),(.int .u64 0),(.int .u64 0),(.int .u64 0),(.int .u64 0),(.int .u64 0)] [(0,v21),(1,(.int .u32 3221225534)),(2,v22)]) λv23=>bI [(.int .u32 0),(.int .u32 0),(.int .u64 0),(.int .u64 0),(.int .u64 0),(.int .u64 0),(.int .u64 0),(.int .u64 0),(.int .u64 0)] H6 λv24 H7=>opt (aH 9 v24 v23 H7) λH8=>opt (aB v19 2) λv25=>opt (aD v25 H8) λv26=>opt (lenSlc v26) λv27=>aOG (F.f85_l2 E Q X0) [t3,t7,v3,v24,t17,t18,t19,v26,v27,vi 0] H8)) (
 Q t7 H)
def F.f85:T8:=λE x0 x1 x2 H Q =>
 mk (eQ x0) H λv1 H1=>mk (bO 0 9 #[(.int .u32 0),(.int .u32 0),(.int .u64 0),(.int .u64 0),(.int .u64 0),(.int .u64 0),(.int .u64 0),(.int .u64 0),(.int .u64 0)] []) H1 λv2 H2=>gN (app 9 64 v2 x1 H2) λv3 H3=>opt (lenSlc x2) λv4=>lp5 (F.f85_l1 E Q) [v1,v3,x2,v4,vi 0] H3

def F.f11_l4(E:Sy)(Q:VK)(X0 X1:LK)(t3 t6 t10 t18 t19 t20 t54 t55 t56 t83 t84 t85:Value)(H:AH)(X2:LK):Prop :=
 opt (aA .lss t85 t84) λv1=>ifB v1 (
 opt (aI 1 t83 t85) λv2=>opt (aD v2 H) λv3=>opt (aE 9 t6 H) λv4=>bI [(.int .u32 0),(.int .u32 0),(.int .u64 0),(.int .u64 0),(.int .u64 0),(.int .u64 0),(.int .u64 0),(.int .u64 0),(.int .u64 0)] H λv5 H1=>opt (aH 9 v5 v4 H1) λH2=>opt (aB t10 0) λv6=>opt (aD v6 H2) λv7=>opt (aB v5 3) λv8=>opt (oQ 6 1 v8 v7) λv9=>opt (bD v9 v3 H2) λH3=>opt (aE 9 v5 H3) λv10=>mk (bO 1 9 #[(.int .u32 0),(.int .u32 0),(.int .u64 0),(.int .u64 0),(.int .u64 0),(.int .u64 0),(.int .u64 0),(.int .u64 0),(.int .u64 0)] [(0,v10)]) H3 λv11 H4=>gN (app 9 64 t3 v11 H4) λv12 H5=>opt (aA .add t85 (vi 1)) λv13=>X2 [v12,t6,t10,t18,t19,t20,t54,t55,t56,t83,t84,v13] H5) (
 opt (aA .add t56 (vi 1)) λv14=>X1 [t3,t6,t18,t19,t20,t54,t55,v14] H)
def F.f11_l3:T23:=λE Q X0 t3 t6 t18 t19 t20 t54 t55 t56 H X1 =>
 opt (aA .lss t56 t55) λv1=>ifB v1 (
 opt (aI 4 t54 t56) λv2=>opt (aE 4 v2 H) λv3=>bI [vi 0,(.int .u8 0),(.int .u64 0),(.int .u64 0)] H λv4 H1=>opt (aH 4 v4 v3 H1) λH2=>opt (aB v4 0) λv5=>opt (aD v5 H2) λv6=>opt (aA .lss v6 (vi 0)) λv7=>gO v7 false (aB v4 0) H2 λv8 H3=>gO v7 false (aD v8 H3) H3 λv9 H4=>gO v7 false (aA .gtr v9 (vi 5)) H4 λv10 H5=>opt (pick v7 (.bool true) v10) λv11=>ifB v11 (
 opt (aA .add t56 (vi 1)) λv12=>X1 [t3,t6,t18,t19,t20,t54,t55,v12] H5) (
 opt (aB v4 3) λv13=>opt (aD v13 H5) λv14=>opt (aA .sub v14 (.int .u64 1)) λv15=>opt (aB v4 3) λv16=>opt (aD v16 H5) λv17=>opt (aA .add v17 (.int .u64 1)) λv18=>opt (aB v4 3) λv19=>opt (aD v19 H5) λv20=>opt (aA .xor v20 (.int .u64 4294967296)) λv21=>opt (aB v4 3) λv22=>opt (aD v22 H5) λv23=>opt (aB v4 2) λv24=>opt (aD v24 H5) λv25=>opt (un .xor v25) λv26=>opt (aA .or v23 v26) λv27=>mk (bO 5 1 #[(.int .u64 0)] [(0,v15),(1,v18),(2,v21),(3,v27),(4,(.int .u64 0))]) H5 λv28 H6=>opt (lenSlc v28) λv29=>aP4 (F.f11_l4 E Q X0 X1) [t3,t6,v4,t18,t19,t20,t54,t55,t56,v28,v29,vi 0] H6)) (
 opt (aA .add t20 (vi 1)) λv30=>X0 [t3,t18,t19,v30] H)
def F.f11_l2:T13:=λE Q X0 t3 t5 t6 t18 t19 t20 t28 t29 t30 H X1 =>
 opt (aA .lss t30 t29) λv1=>ifB v1 (
 opt (aI 4 t28 t30) λv2=>opt (aE 4 v2 H) λv3=>bI [vi 0,(.int .u8 0),(.int .u64 0),(.int .u64 0)] H λv4 H1=>opt (aH 4 v4 v3 H1) λH2=>opt (aB v4 0) λv5=>opt (aD v5 H2) λv6=>opt (aA .geq v6 (vi 0)) λv7=>gO v7 true (aB v4 0) H2 λv8 H3=>gO v7 true (aD v8 H3) H3 λv9 H4=>gO v7 true (aA .leq v9 (vi 5)) H4 λv10 H5=>opt (pick v7 v10 (.bool false)) λv11=>ifB v11 (
 opt (aB v4 0) λv12=>opt (aD v12 H5) λv13=>opt (aB v4 3) λv14=>opt (aD v14 H5) λv15=>opt (aB t6 3) λv16=>opt (oQ 6 1 v16 v13) λv17=>opt (bD v17 v15 H5) λH6=>opt (aA .add t30 (vi 1)) λv18=>X1 [t3,t5,t6,t18,t19,t20,t28,t29,v18] H6) (
 opt (aA .add t30 (vi 1)) λv19=>X1 [t3,t5,t6,t18,t19,t20,t28,t29,v19] H5)) (
 opt (aE 9 t6 H) λv20=>mk (bO 1 9 #[(.int .u32 0),(.int .u32 0),(.int .u64 0),(.int .u64 0),(.int .u64 0),(.int .u64 0),(.int .u64 0),(.int .u64 0),(.int .u64 0)] [(0,v20)]) H λv21 H7=>gN (app 9 64 t3 v21 H7) λv22 H8=>opt (aB t5 2) λv23=>opt (aD v23 H8) λv24=>opt (lenSlc v24) λv25=>lp8 (F.f11_l3 E Q X0) [v22,t6,t18,t19,t20,v24,v25,vi 0] H8)
def F.f11_l1:T3:=λE Q t3 t18 t19 t20 H X0 =>
 opt (aA .lss t20 t19) λv1=>ifB v1 (
 opt (aI 3 t18 t20) λv2=>opt (aE 3 v2 H) λv3=>bI [(.int .u32 0),(.int .u32 0),(.slice none 0 0)] H λv4 H1=>opt (aH 3 v4 v3 H1) λH2=>opt (aB v4 0) λv5=>opt (aD v5 H2) λv6=>opt (aK [(0,1),(1,1),(2,1),(3,6)] #[(.int .u32 0),(.int .u32 0),(.int .u64 0),(.int .u64 0),(.int .u64 0),(.int .u64 0),(.int .u64 0),(.int .u64 0),(.int .u64 0)] [(1,(.int .u32 3221225534)),(0,v6)]) λv7=>bI [(.int .u32 0),(.int .u32 0),(.int .u64 0),(.int .u64 0),(.int .u64 0),(.int .u64 0),(.int .u64 0),(.int .u64 0),(.int .u64 0)] H2 λv8 H3=>opt (aH 9 v8 v7 H3) λH4=>opt (aB v4 2) λv9=>opt (aD v9 H4) λv10=>opt (lenSlc v10) λv11=>lp9 (F.f11_l2 E Q X0) [t3,v4,v8,t18,t19,t20,v10,v11,vi 0] H4) (
 Q t3 H)
def F.f11:T0:=λE x0 H Q =>
 mk (eQ x0) H λv1 H1=>opt (aK [(0,1),(1,1),(2,1),(3,6)] #[(.int .u32 0),(.int .u32 0),(.int .u64 0),(.int .u64 0),(.int .u64 0),(.int .u64 0),(.int .u64 0),(.int .u64 0),(.int .u64 0)] [(1,(.int .u32 3221225534))]) λv2=>opt (aK [(0,1),(1,1),(2,1),(3,6)] #[(.int .u32 0),(.int .u32 0),(.int .u64 0),(.int .u64 0),(.int .u64 0),(.int .u64 0),(.int .u64 0),(.int .u64 0),(.int .u64 0)] [(1,(.int .u32 3221225535))]) λv3=>mk (bO 2 9 #[(.int .u32 0),(.int .u32 0),(.int .u64 0),(.int .u64 0),(.int .u64 0),(.int .u64 0),(.int .u64 0),(.int .u64 0),(.int .u64 0)] [(0,v2),(1,v3)]) H1 λv4 H2=>opt (aB v1 2) λv5=>opt (aD v5 H2) λv6=>opt (lenSlc v6) λv7=>lp4 (F.f11_l1 E Q) [v4,v6,v7,vi 0] H2

def F.f144_l1:T6:=λE Q t0 t6 t7 H X0 =>
 opt (aB t6 29) λv1=>opt (aD v1 H) λv2=>opt (un .not v2) λv3=>gO v3 true (aB t6 18) H λv4 H1=>gO v3 true (aD v4 H1) H1 λv5 H2=>gV v3 true t0 H2 λv6 H3=>gO v3 true (aO v6) H3 λv7 H4=>gO v3 true (aB v7 0) H4 λv8 H5=>gO v3 true (aD v8 H5) H5 λv9 H6=>gO v3 true (lenSlc v9) H6 λv10 H7=>gO v3 true (aA .lss v5 v10) H7 λv11 H8=>opt (pick v3 v11 (.bool false)) λv12=>ifB v12 (
 opt (aO t0) λv13=>opt (aB v13 0) λv14=>opt (aD v14 H8) λv15=>opt (aB t6 18) λv16=>opt (aD v16 H8) λv17=>opt (aI 4 v15 v17) λv18=>opt (aE 4 v18 H8) λv19=>E.call 26 [t6,v19] H8 λv20 H9=>opt (aA .add t7 (vi 1)) λv21=>X0 [t0,t6,v21] H9) (
 opt (aO t0) λv22=>opt (aB v22 1) λv23=>E.call 27 [v23,vi 1] H8 λv24 H10=>opt (aO t0) λv25=>opt (aB v25 2) λv26=>E.call 27 [v26,t7] H10 λv27 H11=>opt (aB t6 29) λv28=>opt (aD v28 H11) λv29=>opt (un .not v29) λv30=>ifB v30 (
 Q (.tuple #[(.int .u32 2147483648),t7]) H11) (
 opt (aB t6 28) λv31=>opt (aD v31 H11) λv32=>Q (.tuple #[v32,t7]) H11))
def F.f144:T1:=λE x0 x1 H Q =>
 mk (eQ x1) H λv1 H1=>opt (eW iU .eql x0 (.pointer none)) λv2=>ifB v2 (
 Q (.tuple #[(.int .u32 2147483648),vi 0]) H1) (
 opt (aE 9 v1 H1) λv3=>opt (aK [(0,1),(1,1),(2,16),(18,1),(19,9),(28,1),(29,1)] #[(.int .u32 0),(.int .u32 0),(.int .u32 0),(.int .u32 0),(.int .u32 0),(.int .u32 0),(.int .u32 0),(.int .u32 0),(.int .u32 0),(.int .u32 0),(.int .u32 0),(.int .u32 0),(.int .u32 0),(.int .u32 0),(.int .u32 0),(.int .u32 0),(.int .u32 0),(.int .u32 0),vi 0,(.int .u32 0),(.int .u32 0),(.int .u64 0),(.int .u64 0),(.int .u64 0),(.int .u64 0),(.int .u64 0),(.int .u64 0),(.int .u64 0),(.int .u32 0),(.bool false)] [(4,v3)]) λv4=>bI [(.int .u32 0),(.int .u32 0),(.int .u32 0),(.int .u32 0),(.int .u32 0),(.int .u32 0),(.int .u32 0),(.int .u32 0),(.int .u32 0),(.int .u32 0),(.int .u32 0),(.int .u32 0),(.int .u32 0),(.int .u32 0),(.int .u32 0),(.int .u32 0),(.int .u32 0),(.int .u32 0),vi 0,(.int .u32 0),(.int .u32 0),(.int .u64 0),(.int .u64 0),(.int .u64 0),(.int .u64 0),(.int .u64 0),(.int .u64 0),(.int .u64 0),(.int .u32 0),(.bool false)] H1 λv5 H2=>opt (aH 30 v5 v4 H2) λH3=>lp3 (F.f144_l1 E Q) [x0,v5,vi 0] H3)

def F.f71_l1:T5:=λE Q t3 t5 t6 t15 t16 t17 H X0 =>
 opt (aA .lss t17 t16) λv1=>ifB v1 (
 opt (aI 3 t15 t17) λv2=>opt (aE 3 v2 H) λv3=>bI [(.int .u32 0),(.int .u32 0),(.slice none 0 0)] H λv4 H1=>opt (aH 3 v4 v3 H1) λH2=>opt (aE 3 v4 H2) λv5=>opt (aE 9 t3 H2) λv6=>E.call 42 [v5,v6] H2 λv7 H3=>opt (un .not v7) λv8=>ifB v8 (
 opt (aA .add t17 (vi 1)) λv9=>X0 [t3,t5,t6,t15,t16,v9] H3) (
 ifB t6 (
 opt (aB v4 1) λv10=>opt (aD v10 H3) λv11=>E.call 43 [t5,v11] H3 λv12 H4=>opt (aA .add t17 (vi 1)) λv13=>X0 [t3,v12,t6,t15,t16,v13] H4) (
 opt (aB v4 1) λv14=>opt (aD v14 H3) λv15=>opt (aA .add t17 (vi 1)) λv16=>X0 [t3,v15,(.bool true),t15,t16,v16] H3))) (
 Q t5 H)
def F.f71:T1:=λE x0 x1 H Q =>
 mk (eQ x0) H λv1 H1=>mk (eQ x1) H1 λv2 H2=>opt (aB v2 1) λv3=>opt (aD v3 H2) λv4=>opt (aA .neq v4 (.int .u32 3221225534)) λv5=>ifB v5 (
 Q (.int .u32 2147483648) H2) (
 opt (aB v1 1) λv6=>opt (aD v6 H2) λv7=>opt (aB v1 2) λv8=>opt (aD v8 H2) λv9=>opt (lenSlc v9) λv10=>lp6 (F.f71_l1 E Q) [v2,v7,(.bool false),v9,v10,vi 0] H2)

def F.f10_l1:T5:=λE Q t1 t6 t8 t15 t16 t17 H X0 =>
 opt (aA .lss t17 t16) λv1=>ifB v1 (
 opt (aI 9 t15 t17) λv2=>opt (aE 9 v2 H) λv3=>bI [(.int .u32 0),(.int .u32 0),(.int .u64 0),(.int .u64 0),(.int .u64 0),(.int .u64 0),(.int .u64 0),(.int .u64 0),(.int .u64 0)] H λv4 H1=>opt (aH 9 v4 v3 H1) λH2=>opt (aE 9 v4 H2) λv5=>E.call 10 [t1,v5] H2 λv6 H3=>opt (ext v6 0) λv7=>opt (ext v6 1) λv8=>opt (aE 2 t8 H3) λv9=>opt (aE 9 v4 H3) λv10=>E.call 44 [v9,v10] H3 λv11 H4=>opt (aA .neq v7 v11) λv12=>ifB v12 (
 opt (aE 9 v4 H4) λv13=>opt (aH 9 t6 v13 H4) λH5=>opt (aE 9 t6 H5) λv14=>Q (.tuple #[v14,(.bool true)]) H5) (
 opt (aA .add t17 (vi 1)) λv15=>X0 [t1,t6,t8,t15,t16,v15] H4)) (
 opt (aK [(0,1),(1,1),(2,1),(3,6)] #[(.int .u32 0),(.int .u32 0),(.int .u64 0),(.int .u64 0),(.int .u64 0),(.int .u64 0),(.int .u64 0),(.int .u64 0),(.int .u64 0)] []) λv16=>opt (aH 9 t6 v16 H) λH6=>opt (aE 9 t6 H6) λv17=>Q (.tuple #[v17,(.bool false)]) H6)
def F.f10:T8:=λE x0 x1 x2 H Q =>
 mk (eQ x0) H λv1 H1=>bI [(.int .u32 0),(.int .u32 0),(.int .u64 0),(.int .u64 0),(.int .u64 0),(.int .u64 0),(.int .u64 0),(.int .u64 0),(.int .u64 0)] H1 λv2 H2=>opt (aE 6 v1 H2) λv3=>E.call 30 [v3] H2 λv4 H3=>bI [(.slice none 0 0),(.int .u32 0)] H3 λv5 H4=>opt (aH 2 v5 v4 H4) λH5=>opt (lenSlc x2) λv6=>lp6 (F.f10_l1 E Q) [x1,v2,v5,x2,v6,vi 0] H5

def F.f88:T10:=λE H Q =>
 opt (aK [(0,1),(1,1),(2,1)] #[vi 0,(.string ⟨#[]⟩),vi 0] [(0,(vi 0)),(1,(.string ⟨#[114,101,97,100]⟩)),(2,(vi 2))]) λv1=>opt (aK [(0,1),(1,1),(2,1)] #[vi 0,(.string ⟨#[]⟩),vi 0] [(0,(vi 1)),(1,(.string ⟨#[119,114,105,116,101]⟩)),(2,(vi 2))]) λv2=>opt (aK [(0,1),(1,1),(2,1)] #[vi 0,(.string ⟨#[]⟩),vi 0] [(0,(vi 2)),(1,(.string ⟨#[111,112,101,110]⟩)),(2,(vi 2))]) λv3=>opt (aK [(0,1),(1,1),(2,1)] #[vi 0,(.string ⟨#[]⟩),vi 0] [(0,(vi 3)),(1,(.string ⟨#[99,108,111,115,101]⟩)),(2,(vi 1))]) λv4=>opt (aK [(0,1),(1,1),(2,1)] #[vi 0,(.string ⟨#[]⟩),vi 0] [(0,(vi 4)),(1,(.string ⟨#[115,116,97,116]⟩)),(2,(vi 1))]) λv5=>opt (aK [(0,1),(1,1),(2,1)] #[vi 0,(.string ⟨#[]⟩),vi 0] [(0,(vi 8)),(1,(.string ⟨#[115,101,101,107]⟩)),(2,(vi 2))]) λv6=>opt (aK [(0,1),(1,1),(2,1)] #[vi 0,(.string ⟨#[]⟩),vi 0] [(0,(vi 32)),(1,(.string ⟨#[100,117,112]⟩)),(2,(vi 1))]) λv7=>opt (aK [(0,1),(1,1),(2,1)] #[vi 0,(.string ⟨#[]⟩),vi 0] [(0,(vi 39)),(1,(.string ⟨#[112,105,100]⟩)),(2,(vi 0))]) λv8=>opt (aK [(0,1),(1,1),(2,1)] #[vi 0,(.string ⟨#[]⟩),vi 0] [(0,(vi 41)),(1,(.string ⟨#[115,111,99,107,101,116]⟩)),(2,(vi 0))]) λv9=>opt (aK [(0,1),(1,1),(2,1)] #[vi 0,(.string ⟨#[]⟩),vi 0] [(0,(vi 42)),(1,(.string ⟨#[99,111,110,110,101,99,116]⟩)),(2,(vi 2))]) λv10=>opt (aK [(0,1),(1,1),(2,1)] #[vi 0,(.string ⟨#[]⟩),vi 0] [(0,(vi 49)),(1,(.string ⟨#[98,105,110,100]⟩)),(2,(vi 2))]) λv11=>opt (aK [(0,1),(1,1),(2,1)] #[vi 0,(.string ⟨#[]⟩),vi 0] [(0,(vi 50)),(1,(.string ⟨#[108,105,115,116,101,110]⟩)),(2,(vi 1))]) λv12=>opt (aK [(0,1),(1,1),(2,1)] #[vi 0,(.string ⟨#[]⟩),vi 0] [(0,(vi 57)),(1,(.string ⟨#[102,111,114,107]⟩)),(2,(vi 0))]) λv13=>opt (aK [(0,1),(1,1),(2,1)] #[vi 0,(.string ⟨#[]⟩),vi 0] [(0,(vi 60)),(1,(.string ⟨#[101,120,105,116]⟩)),(2,(vi 1))]) λv14=>opt (aK [(0,1),(1,1),(2,1)] #[vi 0,(.string ⟨#[]⟩),vi 0] [(0,(vi 77)),(1,(.string ⟨#[116,114,117,110,99,97,116,101]⟩)),(2,(vi 2))]) λv15=>opt (aK [(0,1),(1,1),(2,1)] #[vi 0,(.string ⟨#[]⟩),vi 0] [(0,(vi 78)),(1,(.string ⟨#[114,101,97,100,100,105,114]⟩)),(2,(vi 1))]) λv16=>opt (aK [(0,1),(1,1),(2,1)] #[vi 0,(.string ⟨#[]⟩),vi 0] [(0,(vi 79)),(1,(.string ⟨#[99,119,100]⟩)),(2,(vi 0))]) λv17=>opt (aK [(0,1),(1,1),(2,1)] #[vi 0,(.string ⟨#[]⟩),vi 0] [(0,(vi 80)),(1,(.string ⟨#[99,104,100,105,114]⟩)),(2,(vi 1))]) λv18=>opt (aK [(0,1),(1,1),(2,1)] #[vi 0,(.string ⟨#[]⟩),vi 0] [(0,(vi 82)),(1,(.string ⟨#[114,101,110,97,109,101]⟩)),(2,(vi 2))]) λv19=>opt (aK [(0,1),(1,1),(2,1)] #[vi 0,(.string ⟨#[]⟩),vi 0] [(0,(vi 83)),(1,(.string ⟨#[109,107,100,105,114]⟩)),(2,(vi 1))]) λv20=>opt (aK [(0,1),(1,1),(2,1)] #[vi 0,(.string ⟨#[]⟩),vi 0] [(0,(vi 84)),(1,(.string ⟨#[114,109,100,105,114]⟩)),(2,(vi 1))]) λv21=>opt (aK [(0,1),(1,1),(2,1)] #[vi 0,(.string ⟨#[]⟩),vi 0] [(0,(vi 86)),(1,(.string ⟨#[108,105,110,107]⟩)),(2,(vi 2))]) λv22=>opt (aK [(0,1),(1,1),(2,1)] #[vi 0,(.string ⟨#[]⟩),vi 0] [(0,(vi 87)),(1,(.string ⟨#[117,110,108,105,110,107]⟩)),(2,(vi 1))]) λv23=>opt (aK [(0,1),(1,1),(2,1)] #[vi 0,(.string ⟨#[]⟩),vi 0] [(0,(vi 88)),(1,(.string ⟨#[115,121,109,108,105,110,107]⟩)),(2,(vi 2))]) λv24=>opt (aK [(0,1),(1,1),(2,1)] #[vi 0,(.string ⟨#[]⟩),vi 0] [(0,(vi 89)),(1,(.string ⟨#[114,101,97,100,108,105,110,107]⟩)),(2,(vi 1))]) λv25=>opt (aK [(0,1),(1,1),(2,1)] #[vi 0,(.string ⟨#[]⟩),vi 0] [(0,(vi 157)),(1,(.string ⟨#[112,114,99,116,108]⟩)),(2,(vi 1))]) λv26=>opt (aK [(0,1),(1,1),(2,1)] #[vi 0,(.string ⟨#[]⟩),vi 0] [(0,(vi 165)),(1,(.string ⟨#[109,111,117,110,116]⟩)),(2,(vi 2))]) λv27=>opt (aK [(0,1),(1,1),(2,1)] #[vi 0,(.string ⟨#[]⟩),vi 0] [(0,(vi 166)),(1,(.string ⟨#[117,109,111,117,110,116]⟩)),(2,(vi 1))]) λv28=>opt (aK [(0,1),(1,1),(2,1)] #[vi 0,(.string ⟨#[]⟩),vi 0] [(0,(vi 317)),(1,(.string ⟨#[115,101,99,99,111,109,112]⟩)),(2,(vi 1))]) λv29=>opt (aK [(0,1),(1,1),(2,1)] #[vi 0,(.string ⟨#[]⟩),vi 0] [(0,(vi 446)),(1,(.string ⟨#[114,101,115,116,114,105,99,116]⟩)),(2,(vi 1))]) λv30=>mk (bO 30 3 #[vi 0,(.string ⟨#[]⟩),vi 0] [(0,v1),(1,v2),(2,v3),(3,v4),(4,v5),(5,v6),(6,v7),(7,v8),(8,v9),(9,v10),(10,v11),(11,v12),(12,v13),(13,v14),(14,v15),(15,v16),(16,v17),(17,v18),(18,v19),(19,v20),(20,v21),(21,v22),(22,v23),(23,v24),(24,v25),(25,v26),(26,v27),(27,v28),(28,v29),(29,v30)]) H λv31 H1=>Q v31 H1

def F.f78:T1:=λE x0 x1 H Q =>
 opt (aA .rem x0 (.int .u8 4)) λv1=>opt (aA .eql v1 (.int .u8 0)) λv2=>ifB v2 (
 Q (.int .u32 2147483648) H) (
 opt (aA .eql v1 (.int .u8 1)) λv3=>ifB v3 (
 opt (aS .i64 x1) λv4=>opt (aA .add (vi 1) v4) λv5=>E.call 45 [v5] H λv6 H1=>Q v6 H1) (
 opt (aA .eql v1 (.int .u8 2)) λv7=>ifB v7 (
 Q (.int .u32 2147221504) H) (
 Q (.int .u32 2147418112) H)))

def F.f79:T0:=λE x0 H Q =>
 mk (eQ x0) H λv1 H1=>bI [vi 0,(.int .u8 0),(.int .u64 0),(.int .u64 0)] H1 λv2 H2=>E.call 46 [] H2 λv3 H3=>opt (aB v1 0) λv4=>opt (aD v4 H3) λv5=>opt (aA .rem v5 (.int .u8 6)) λv6=>opt (aS .i64 v6) λv7=>opt (aB v1 1) λv8=>opt (aD v8 H3) λv9=>opt (aA .rem v9 (.int .u8 7)) λv10=>opt (aA .add (.int .u8 1) v10) λv11=>opt (aB v1 3) λv12=>opt (aD v12 H3) λv13=>opt (aS .i64 v13) λv14=>opt (lenSlc v3) λv15=>opt (aA .rem v14 v15) λv16=>opt (aI 1 v3 v16) λv17=>opt (aD v17 H3) λv18=>opt (aK [(0,1),(1,1),(2,1),(3,1)] #[vi 0,(.int .u8 0),(.int .u64 0),(.int .u64 0)] [(0,v7),(1,v11),(3,v18)]) λv19=>bI [vi 0,(.int .u8 0),(.int .u64 0),(.int .u64 0)] H3 λv20 H4=>opt (aH 4 v20 v19 H4) λH5=>opt (aB v20 1) λv21=>opt (aD v21 H5) λv22=>opt (aA .eql v22 (.int .u8 7)) λv23=>ifB v23 (
 opt (aB v1 2) λv24=>opt (aD v24 H5) λv25=>opt (aS .i64 v25) λv26=>opt (lenSlc v3) λv27=>opt (aA .sub v27 (vi 1)) λv28=>opt (aA .rem v26 v28) λv29=>opt (aA .add (vi 1) v29) λv30=>opt (aI 1 v3 v30) λv31=>opt (aD v31 H5) λv32=>opt (aB v20 2) λv33=>opt (bD v33 v32 H5) λH6=>opt (aB v20 3) λv34=>opt (aD v34 H6) λv35=>opt (aB v20 2) λv36=>opt (aD v36 H6) λv37=>opt (aA .and v35 v37) λv38=>opt (aB v20 3) λv39=>opt (bD v39 v38 H6) λH7=>opt (aE 4 v20 H7) λv40=>opt (aH 4 v2 v40 H7) λH8=>opt (aE 4 v2 H8) λv41=>Q v41 H8) (
 opt (aE 4 v20 H5) λv42=>opt (aH 4 v2 v42 H5) λH9=>opt (aE 4 v2 H9) λv43=>Q v43 H9)

def F.f83:T4:=λE x0 x1 x2 x3 H Q =>
 opt (aB x2 6) λv1=>opt (aD v1 H) λv2=>opt (lenSlc v2) λv3=>opt (aA .geq x0 v3) λv4=>ifB v4 (
 opt (aB x3 3) λv5=>opt (aD v5 H) λv6=>opt (aA .and v6 x1) λv7=>Q v7 H) (
 opt (aB x2 6) λv8=>opt (aD v8 H) λv9=>opt (aI 1 v9 x0) λv10=>opt (aD v10 H) λv11=>opt (aB x3 3) λv12=>opt (aD v12 H) λv13=>opt (aA .and v11 v13) λv14=>opt (aA .and v14 x1) λv15=>Q v15 H)

def F.f80:T10:=λE H Q =>
 mk (bO 6 1 #[(.string ⟨#[]⟩)] [(0,(.string ⟨#[47]⟩)),(1,(.string ⟨#[47,97]⟩)),(2,(.string ⟨#[47,97,47,98]⟩)),(3,(.string ⟨#[47,102]⟩)),(4,(.string ⟨#[47,97,47,103]⟩)),(5,(.string ⟨#[47,99]⟩))]) H λv1 H1=>Q v1 H1

def F.f145:T0:=λE x0 H Q =>
 bI [vi 0,vi 0] H λv1 H1=>E.call 16 [x0] H1 λv2 H2=>bI [vi 0,vi 0] H2 λv3 H3=>opt (aH 2 v3 v2 H3) λH4=>opt (aE 2 v3 H4) λv4=>opt (aK [(0,1),(1,1)] #[vi 0,vi 0] []) λv5=>opt (iE [0,0] .neq v4 v5) λv6=>ifB v6 (
 opt (aE 2 v3 H4) λv7=>opt (aH 2 v1 v7 H4) λH5=>opt (aE 2 v1 H5) λv8=>Q (.tuple #[(.pointer none),v8]) H5) (
 mk (bO 0 4 #[(.int .u16 0),(.int .u8 0),(.int .u8 0),(.int .u32 0)] []) H4 λv9 H6=>gN (app 4 8 v9 x0 H6) λv10 H7=>opt (aK [(0,1),(1,1),(2,1)] #[(.slice none 0 0),vi 0,vi 0] [(0,v10)]) λv11=>mk (eQ v11) H7 λv12 H8=>opt (aK [(0,1),(1,1)] #[vi 0,vi 0] []) λv13=>opt (aH 2 v1 v13 H8) λH9=>opt (aE 2 v1 H9) λv14=>Q (.tuple #[v12,v14]) H9)

def F.f30_l2:T6:=λE Q t2 t3 t32 H X0 =>
 xC t32 H λv1 H1=>opt (ext v1 0) λv2=>ifB v2 (
 opt (vS t32 H1) λv3=>opt (ext v3 0) λv4=>opt (ext v3 1) λv5=>E.call 62 [v5,(.func (.func 63) #[] #[])] H1 λv6 H2=>opt (aB t3 0) λv7=>opt (aD v7 H2) λv8=>E.call 66 [v5] H2 λv9 H3=>aD v7 H3=aD v7 H2 /\
 opt (aK [(0,1),(1,1)] #[(.int .u32 0),(.slice none 0 0)] [(0,v4),(1,v9)]) λv10=>mk (bO 1 2 #[(.int .u32 0),(.slice none 0 0)] [(0,v10)]) H3 λv11 H4=>gN (app 2 32 v8 v11 H4) λv12 H5=>opt (aB t3 0) λv13=>opt (bD v13 v12 H5) λH6=>X0 [t2,t3,t32] H6) (
 opt (aB t3 0) λv14=>opt (aD v14 H1) λv15=>E.call 67 [v15,(.func (.func 68) #[] #[])] H1 λv16 H7=>opt (aE 2 t3 H7) λv17=>opt (aH 2 t2 v17 H7) λH8=>opt (aE 2 t2 H8) λv18=>Q v18 H8)
def F.f30_l1:T5:=λE Q t2 t3 t4 t14 t15 t16 H X0 =>
 opt (aA .lss t16 t15) λv1=>ifB v1 (
 opt (aI 3 t14 t16) λv2=>opt (aE 3 v2 H) λv3=>bI [(.int .u32 0),(.int .u32 0),(.slice none 0 0)] H λv4 H1=>opt (aH 3 v4 v3 H1) λH2=>opt (aB v4 0) λv5=>opt (aD v5 H2) λv6=>opt (aB v4 0) λv7=>opt (aD v7 H2) λv8=>opt (look 0 (.slice none 0 0) false t4 v8 H2) λv9=>opt (aE 3 v4 H2) λv10=>mk (bO 1 3 #[(.int .u32 0),(.int .u32 0),(.slice none 0 0)] [(0,v10)]) H2 λv11 H3=>gN (app 3 32 v9 v11 H3) λv12 H4=>aD v5 H4=aD v5 H2 /\
 opt (eO 0 t4 v6 v12 H4) λH5=>opt (aA .add t16 (vi 1)) λv13=>X0 [t2,t3,t4,t14,t15,v13] H5) (
 mk (wT t4 H) H λv14 H6=>lp3 (F.f30_l2 E Q) [t2,t3,v14] H6)
def F.f30:T0:=λE x0 H Q =>
 mk (eQ x0) H λv1 H1=>bI [(.slice none 0 0),(.int .u32 0)] H1 λv2 H2=>opt (aB v1 1) λv3=>opt (aD v3 H2) λv4=>opt (aK [(0,1),(1,1)] #[(.slice none 0 0),(.int .u32 0)] [(1,v4)]) λv5=>bI [(.slice none 0 0),(.int .u32 0)] H2 λv6 H3=>opt (aH 2 v6 v5 H3) λH4=>pD H4 λv7 H5=>opt (aB v1 2) λv8=>opt (aD v8 H5) λv9=>opt (lenSlc v9) λv10=>lp6 (F.f30_l1 E Q) [v2,v6,v7,v9,v10,vi 0] H5

def F.f58_l2:T2:=λE Q t3 t6 t70 t71 t72 H X0 =>
 opt (aA .lss t72 t71) λv1=>ifB v1 (
 opt (aI 2 t70 t72) λv2=>opt (aE 2 v2 H) λv3=>bI [(.int .u32 0),(.slice none 0 0)] H λv4 H1=>opt (aH 2 v4 v3 H1) λH2=>opt (aO t3) λv5=>opt (aB v5 0) λv6=>opt (aB v4 0) λv7=>opt (aD v7 H2) λv8=>opt (look 0 (vi 0) false t6 v8 H2) λv9=>E.call 57 [v6,v9] H2 λv10 H3=>opt (aB v4 1) λv11=>opt (aD v11 H3) λv12=>E.call 59 [t3,v12] H3 λv13 H4=>opt (aA .add t72 (vi 1)) λv14=>X0 [t3,t6,t70,t71,v14] H4) (
 E.call 60 [t3] H λv15 H5=>opt (aO t3) λv16=>opt (aB v16 0) λv17=>E.call 61 [v17] H5 λv18 H6=>Q v18 H6)
def F.f58_l1:T5:=λE Q t1 t3 t6 t45 t46 t47 H X0 =>
 opt (aA .lss t47 t46) λv1=>ifB v1 (
 opt (aI 2 t45 t47) λv2=>opt (aE 2 v2 H) λv3=>bI [(.int .u32 0),(.slice none 0 0)] H λv4 H1=>opt (aH 2 v4 v3 H1) λH2=>opt (aB v4 0) λv5=>opt (aD v5 H2) λv6=>opt (aO t3) λv7=>opt (aB v7 0) λv8=>E.call 53 [v8] H2 λv9 H3=>aD v5 H3=aD v5 H2 /\
 opt (eO 0 t6 v6 v9 H3) λH4=>opt (aA .add t47 (vi 1)) λv10=>X0 [t1,t3,t6,t45,t46,v10] H4) (
 opt (aO t3) λv11=>opt (aB v11 0) λv12=>E.call 55 [(.int .u32 0)] H λv13 H5=>E.call 54 [v12,v13] H5 λv14 H6=>opt (aB t1 0) λv15=>opt (aD v15 H6) λv16=>E.call 58 [t3,v16,t6] H6 λv17 H7=>opt (aB t1 0) λv18=>opt (aD v18 H7) λv19=>opt (lenSlc v19) λv20=>lp5 (F.f58_l2 E Q) [t3,t6,v19,v20,vi 0] H7)
def F.f58:T0:=λE x0 H Q =>
 mk (eQ x0) H λv1 H1=>pD H1 λv2 H2=>opt (aK [(0,2),(2,1),(3,1),(4,1)] #[(.slice none 0 0),vi 0,vi 0,(.map none),(.slice none 0 0)] [(2,v2)]) λv3=>mk (eQ v3) H2 λv4 H3=>opt (aB v1 1) λv5=>opt (aD v5 H3) λv6=>E.call 52 [v4,v6] H3 λv7 H4=>opt (aO v4) λv8=>opt (aB v8 2) λv9=>opt (bD v9 v7 H4) λH5=>opt (aO v4) λv10=>opt (aB v10 0) λv11=>E.call 52 [v4,(.int .u32 2147483648)] H5 λv12 H6=>E.call 53 [v11] H6 λv13 H7=>opt (aO v4) λv14=>opt (aB v14 0) λv15=>E.call 55 [(.int .u32 4)] H7 λv16 H8=>E.call 54 [v15,v16] H8 λv17 H9=>opt (aO v4) λv18=>opt (aB v18 0) λv19=>E.call 56 [v19,(.int .u16 16),(.int .u32 3221225534),v13,v12] H9 λv20 H10=>opt (aO v4) λv21=>opt (aB v21 0) λv22=>E.call 57 [v22,v13] H10 λv23 H11=>pD H11 λv24 H12=>opt (aB v1 0) λv25=>opt (aD v25 H12) λv26=>opt (lenSlc v26) λv27=>lp6 (F.f58_l1 E Q) [v1,v4,v24,v26,v27,vi 0] H12

def F.f14_j1:T17:=λE Q X0 t3 t4 t6 t7 t8 t9 H =>
 opt (aE 7 t6 H) λv1=>mk (bO 1 7 #[(.int .u8 0),vi 0,vi 0,(.int .u16 0),(.int .u8 0),(.int .u8 0),(.int .u32 0)] [(0,v1)]) H λv2 H1=>gN (app 7 32 t3 v2 H1) λv3 H2=>opt (aA .add t9 (vi 1)) λv4=>X0 [v3,t4,t7,t8,v4] H2
def F.f14_l1:T2:=λE Q t3 t4 t7 t8 t9 H X0 =>
 opt (aA .lss t9 t8) λv1=>ifB v1 (
 opt (aI 7 t7 t9) λv2=>opt (aE 7 v2 H) λv3=>bI [(.int .u8 0),vi 0,vi 0,(.int .u16 0),(.int .u8 0),(.int .u8 0),(.int .u32 0)] H λv4 H1=>opt (aH 7 v4 v3 H1) λH2=>opt (aB v4 0) λv5=>opt (aD v5 H2) λv6=>opt (aA .eql v6 (.int .u8 1)) λv7=>ifB v7 (
 opt (aK [(0,1),(1,1)] #[(.bool false),(.int .u32 0)] []) λv8=>opt (aH 2 t4 v8 H2) λH3=>F.f14_j1 E Q X0 t3 t4 v4 t7 t8 t9 H3) (
 opt (aB v4 0) λv9=>opt (aD v9 H2) λv10=>opt (aA .eql v10 (.int .u8 2)) λv11=>gO v11 true (aB v4 3) H2 λv12 H4=>gO v11 true (aB v12 0) H4 λv13 H5=>gO v11 true (aD v13 H5) H5 λv14 H6=>gO v11 true (aA .eql v14 (.int .u16 32)) H6 λv15 H7=>opt (pick v11 v15 (.bool false)) λv16=>ifB v16 (
 opt (aE 2 t4 H7) λv17=>opt (aB v4 3) λv18=>opt (aB v18 3) λv19=>opt (aD v19 H7) λv20=>opt (aK [(0,1),(1,1)] #[(.bool false),(.int .u32 0)] [(0,(.bool true)),(1,v20)]) λv21=>opt (iE [2,0] .eql v17 v21) λv22=>ifB v22 (
 opt (aA .add t9 (vi 1)) λv23=>X0 [t3,t4,t7,t8,v23] H7) (
 opt (aB v4 3) λv24=>opt (aB v24 3) λv25=>opt (aD v25 H7) λv26=>opt (aK [(0,1),(1,1)] #[(.bool false),(.int .u32 0)] [(0,(.bool true)),(1,v26)]) λv27=>opt (aH 2 t4 v27 H7) λH8=>F.f14_j1 E Q X0 t3 t4 v4 t7 t8 t9 H8)) (
 opt (aB v4 0) λv28=>opt (aD v28 H7) λv29=>opt (aA .eql v29 (.int .u8 2)) λv30=>ifB v30 (
 opt (aK [(0,1),(1,1)] #[(.bool false),(.int .u32 0)] []) λv31=>opt (aH 2 t4 v31 H7) λH9=>F.f14_j1 E Q X0 t3 t4 v4 t7 t8 t9 H9) (
 F.f14_j1 E Q X0 t3 t4 v4 t7 t8 t9 H7)))) (
 Q t3 H)
def F.f14:T0:=λE x0 H Q =>
 bI [(.bool false),(.int .u32 0)] H λv1 H1=>opt (lenSlc x0) λv2=>lp5 (F.f14_l1 E Q) [(.slice none 0 0),v1,x0,v2,vi 0] H1

def F.f48_l1:T24:=λE Q t0 H X0 =>
 E.call 71 [t0] H λv1 H1=>opt (lenSlc v1) λv2=>opt (lenSlc t0) λv3=>opt (aA .eql v2 v3) λv4=>ifB v4 (
 Q v1 H1) (
 X0 [v1] H1)
def F.f48:T0:=λE x0 H Q =>
 lp1 (F.f48_l1 E Q) [x0] H

def F.f47_l2:T6:=λE Q t4 t7 t8 H X0 =>
 opt (aA .geq t8 (vi 0)) λv1=>ifB v1 (
 opt (aO t4) λv2=>opt (aB v2 0) λv3=>opt (aD v3 H) λv4=>opt (aI 4 v4 t8) λv5=>opt (aE 4 v5 H) λv6=>mk (bO 1 4 #[(.int .u16 0),(.int .u8 0),(.int .u8 0),(.int .u32 0)] [(0,v6)]) H λv7 H1=>gN (app 4 8 t7 v7 H1) λv8 H2=>opt (aA .sub t8 (vi 1)) λv9=>X0 [t4,v8,v9] H2) (
 Q (.tuple #[t7,vi 0]) H)
def F.f47_l1:T6:=λE Q t0 t4 t5 H X0 =>
 opt (aA .geq t5 (vi 0)) λv1=>ifB v1 (
 opt (aI 7 t0 t5) λv2=>opt (aE 7 v2 H) λv3=>E.call 70 [t4,v3] H λv4 H1=>opt (aA .neq v4 (vi 0)) λv5=>ifB v5 (
 Q (.tuple #[(.slice none 0 0),v4]) H1) (
 opt (aO t4) λv6=>opt (aB v6 0) λv7=>opt (aD v7 H1) λv8=>opt (lenSlc v8) λv9=>opt (aA .gtr v9 (vi 4096)) λv10=>ifB v10 (
 Q (.tuple #[(.slice none 0 0),vi 205]) H1) (
 opt (aA .sub t5 (vi 1)) λv11=>X0 [t0,t4,v11] H1))) (
 opt (aO t4) λv12=>opt (aB v12 0) λv13=>opt (aD v13 H) λv14=>opt (lenSlc v14) λv15=>mk (sW 4 8 #[(.int .u16 0),(.int .u8 0),(.int .u8 0),(.int .u32 0)] (vi 0) v15) H λv16 H2=>opt (aO t4) λv17=>opt (aB v17 0) λv18=>opt (aD v18 H2) λv19=>opt (lenSlc v19) λv20=>opt (aA .sub v20 (vi 1)) λv21=>lp3 (F.f47_l2 E Q) [t4,v16,v21] H2)
def F.f47:T0:=λE x0 H Q =>
 pD H λv1 H1=>opt (aK [(0,1),(1,1)] #[(.slice none 0 0),(.map none)] [(1,v1)]) λv2=>mk (eQ v2) H1 λv3 H2=>opt (lenSlc x0) λv4=>opt (aA .sub v4 (vi 1)) λv5=>lp3 (F.f47_l1 E Q) [x0,v3,v5] H2

def F.f76_l1:T24:=λE Q t24 H X0 =>
 gN (rV t24 H) λv1 H1=>opt (ext v1 0) λv2=>ifB v2 (
 opt (ext v1 2) λv3=>opt (aA .lss v3 (.int .i32 97)) λv4=>gV v4 false v3 H1 λv5 H2=>gO v4 false (aA .gtr v5 (.int .i32 122)) H2 λv6 H3=>opt (pick v4 (.bool true) v6) λv7=>gV v7 true v3 H3 λv8 H4=>gO v7 true (aA .lss v8 (.int .i32 48)) H4 λv9 H5=>gV v7 true v9 H5 λv10 H6=>gV v10 false v3 H6 λv11 H7=>gO v10 false (aA .gtr v11 (.int .i32 57)) H7 λv12 H8=>gO v7 true (pick v10 (.bool true) v12) H8 λv13 H9=>opt (pick v7 v13 (.bool false)) λv14=>gV v14 true v3 H9 λv15 H10=>gO v14 true (aA .neq v15 (.int .i32 45)) H10 λv16 H11=>opt (pick v14 v16 (.bool false)) λv17=>gV v17 true v3 H11 λv18 H12=>gO v17 true (aA .neq v18 (.int .i32 95)) H12 λv19 H13=>opt (pick v17 v19 (.bool false)) λv20=>ifB v20 (
 Q (.bool false) H13) (
 X0 [t24] H13)) (
 Q (.bool true) H1)
def F.f76:T0:=λE x0 H Q =>
 opt (fV x0) λv1=>opt (aA .lss v1 (vi 1)) λv2=>gV v2 false x0 H λv3 H1=>gO v2 false (fV v3) H1 λv4 H2=>gO v2 false (aA .gtr v4 (vi 14)) H2 λv5 H3=>opt (pick v2 (.bool true) v5) λv6=>gV v6 false x0 H3 λv7 H4=>gO v6 false (iY v7 (vi 0)) H4 λv8 H5=>gO v6 false (aA .lss v8 (.int .u8 97)) H5 λv9 H6=>opt (pick v6 (.bool true) v9) λv10=>gV v10 false x0 H6 λv11 H7=>gO v10 false (iY v11 (vi 0)) H7 λv12 H8=>gO v10 false (aA .gtr v12 (.int .u8 122)) H8 λv13 H9=>opt (pick v10 (.bool true) v13) λv14=>ifB v14 (
 Q (.bool false) H9) (
 mk (aAa x0) H9 λv15 H10=>lp1 (F.f76_l1 E Q) [v15] H10)

def F.f96_j1:T9:=λE Q t0 t5 H =>
 ifB t5 (
 Q (.bool true) H) (
 opt (aA .and t0 (.int .u32 65535)) λv1=>E.call 72 [t0] H λv2 H1=>opt (aA .eql v2 (.int .u32 327680)) λv3=>gV v3 true v1 H1 λv4 H2=>gO v3 true (aA .geq v4 (.int .u32 1)) H2 λv5 H3=>opt (pick v3 v5 (.bool false)) λv6=>gV v6 true v1 H3 λv7 H4=>gO v6 true (aA .leq v7 (.int .u32 4095)) H4 λv8 H5=>opt (pick v6 v8 (.bool false)) λv9=>Q v9 H5)
def F.f96:T0:=λE x0 H Q =>
 opt (aA .eql x0 (.int .u32 2147483648)) λv1=>ifB v1 (
 F.f96_j1 E Q x0 v1 H) (
 opt (aA .eql x0 (.int .u32 2147221504)) λv2=>ifB v2 (
 F.f96_j1 E Q x0 v2 H) (
 opt (aA .eql x0 (.int .u32 2147418112)) λv3=>F.f96_j1 E Q x0 v3 H))

def F.f107:T0:=λE x0 H Q =>
 opt (aA .andNot x0 (.int .u16 51199)) λv1=>opt (aA .eql v1 (.int .u16 0)) λv2=>Q v2 H

def F.f95_l1:T6:=λE Q t28 t29 t30 H X0 =>
 opt (aA .lss t30 t29) λv1=>ifB v1 (
 opt (aI 4 t28 t30) λv2=>opt (aE 4 v2 H) λv3=>bI [vi 0,(.int .u8 0),(.int .u64 0),(.int .u64 0)] H λv4 H1=>opt (aH 4 v4 v3 H1) λH2=>opt (aE 4 v4 H2) λv5=>E.call 74 [v5] H2 λv6 H3=>opt (aA .neq v6 (vi 0)) λv7=>ifB v7 (
 Q v6 H3) (
 opt (aA .add t30 (vi 1)) λv8=>X0 [t28,t29,v8] H3)) (
 Q (vi 0) H)
def F.f95:T1:=λE x0 x1 H Q =>
 mk (eQ x0) H λv1 H1=>opt (aB v1 0) λv2=>opt (aD v2 H1) λv3=>E.call 73 [x1,v3] H1 λv4 H2=>opt (ext v4 0) λv5=>opt (ext v4 1) λv6=>bI [(.int .u32 0),(.string ⟨#[]⟩),vi 0] H2 λv7 H3=>opt (aH 3 v7 v5 H3) λH4=>opt (un .not v6) λv8=>ifB v8 (
 Q (vi 38) H4) (
 opt (aB v1 1) λv9=>opt (aD v9 H4) λv10=>E.call 34 [v10] H4 λv11 H5=>opt (un .not v11) λv12=>ifB v12 (
 Q (vi 210) H5) (
 opt (aB v1 2) λv13=>opt (aD v13 H5) λv14=>opt (lenSlc v14) λv15=>opt (aA .gtr v15 (vi 6)) λv16=>ifB v16 (
 Q (vi 205) H5) (
 opt (aB v1 2) λv17=>opt (aD v17 H5) λv18=>opt (lenSlc v18) λv19=>lp3 (F.f95_l1 E Q) [v18,v19,vi 0] H5)))

def F.f93_l1:T2:=λE Q t1 t3 t8 t9 t10 H X0 =>
 opt (aA .lss t10 t9) λv1=>ifB v1 (
 opt (aI 2 t8 t10) λv2=>opt (aE 2 v2 H) λv3=>bI [(.string ⟨#[]⟩),(.int .u16 0)] H λv4 H1=>opt (aH 2 v4 v3 H1) λH2=>opt (aB v4 0) λv5=>opt (aD v5 H2) λv6=>E.call 75 [v6] H2 λv7 H3=>opt (un .not v7) λv8=>ifB v8 (
 Q (vi 203) H3) (
 opt (aE 6 t1 H3) λv9=>opt (aB v4 1) λv10=>opt (aD v10 H3) λv11=>E.call 76 [v9,v11,(.int .u16 2047)] H3 λv12 H4=>opt (un .not v12) λv13=>ifB v13 (
 Q (vi 204) H4) (
 opt (aB v4 0) λv14=>opt (aD v14 H4) λv15=>opt (look 1 (.bool false) false t3 v15 H4) λv16=>ifB v16 (
 Q (vi 206) H4) (
 opt (aB v4 0) λv17=>opt (aD v17 H4) λv18=>opt (eO 1 t3 v18 (.bool true) H4) λH5=>opt (aA .add t10 (vi 1)) λv19=>X0 [t1,t3,t8,t9,v19] H5)))) (
 Q (vi 0) H)
def F.f93:T0:=λE x0 H Q =>
 mk (eQ x0) H λv1 H1=>pD H1 λv2 H2=>opt (aB v1 4) λv3=>opt (aD v3 H2) λv4=>opt (lenSlc v4) λv5=>lp5 (F.f93_l1 E Q) [v1,v2,v4,v5,vi 0] H2

def F.f94_l1:T2:=λE Q t1 t3 t8 t9 t10 H X0 =>
 opt (aA .lss t10 t9) λv1=>ifB v1 (
 opt (aI 2 t8 t10) λv2=>opt (aE 2 v2 H) λv3=>bI [(.int .u16 0),(.int .u16 0)] H λv4 H1=>opt (aH 2 v4 v3 H1) λH2=>opt (aE 6 t1 H2) λv5=>opt (aB v4 1) λv6=>opt (aD v6 H2) λv7=>E.call 76 [v5,v7,(.int .u16 49152)] H2 λv8 H3=>opt (un .not v8) λv9=>ifB v9 (
 Q (vi 204) H3) (
 opt (aB v4 0) λv10=>opt (aD v10 H3) λv11=>opt (look 0 (.bool false) false t3 v11 H3) λv12=>ifB v12 (
 Q (vi 206) H3) (
 opt (aB v4 0) λv13=>opt (aD v13 H3) λv14=>opt (eO 0 t3 v14 (.bool true) H3) λH4=>opt (aA .add t10 (vi 1)) λv15=>X0 [t1,t3,t8,t9,v15] H4))) (
 Q (vi 0) H)
def F.f94:T0:=λE x0 H Q =>
 mk (eQ x0) H λv1 H1=>pD H1 λv2 H2=>opt (aB v1 5) λv3=>opt (aD v3 H2) λv4=>opt (lenSlc v4) λv5=>lp5 (F.f94_l1 E Q) [v1,v2,v4,v5,vi 0] H2

def F.f3:T8:=λE x0 x1 x2 H Q =>
 mk (eQ x0) H λv1 H1=>opt (aA .sub x2 x1) λv2=>opt (aA .sub v2 (vi 1)) λv3=>opt (aB v1 0) λv4=>opt (aD v4 H1) λv5=>E.call 77 [v5] H1 λv6 H2=>opt (un .not v6) λv7=>ifB v7 (
 Q (vi 208) H2) (
 opt (aB v1 0) λv8=>opt (aD v8 H2) λv9=>opt (aA .eql v9 (.int .u16 5)) λv10=>gO v10 true (aB v1 3) H2 λv11 H3=>gO v10 true (aD v11 H3) H3 λv12 H4=>gO v10 true (aS .u64 v12) H4 λv13 H5=>gV v10 true v3 H5 λv14 H6=>gO v10 true (aS .u64 v14) H6 λv15 H7=>gO v10 true (aA .geq v13 v15) H7 λv16 H8=>opt (pick v10 v16 (.bool false)) λv17=>ifB v17 (
 Q (vi 207) H8) (
 opt (aB v1 0) λv18=>opt (aD v18 H8) λv19=>E.call 47 [v19] H8 λv20 H9=>opt (aA .eql v20 (.int .u16 5)) λv21=>gO v21 true (aB v1 0) H9 λv22 H10=>gO v21 true (aD v22 H10) H10 λv23 H11=>gO v21 true (aA .neq v23 (.int .u16 5)) H11 λv24 H12=>opt (pick v21 v24 (.bool false)) λv25=>gO v25 true (aB v1 1) H12 λv26 H13=>gO v25 true (aD v26 H13) H13 λv27 H14=>gO v25 true (aB v1 2) H14 λv28 H15=>gO v25 true (aD v28 H15) H15 λv29 H16=>gO v25 true (oV max2 [v27,v29]) H16 λv30 H17=>gO v25 true (aS .i64 v30) H17 λv31 H18=>gV v25 true v3 H18 λv32 H19=>gO v25 true (aA .geq v31 v32) H19 λv33 H20=>opt (pick v25 v33 (.bool false)) λv34=>ifB v34 (
 Q (vi 207) H20) (
 opt (aB v1 0) λv35=>opt (aD v35 H20) λv36=>opt (aA .eql v36 (.int .u16 32)) λv37=>gO v37 true (aB v1 3) H20 λv38 H21=>gO v37 true (aD v38 H21) H21 λv39 H22=>gO v37 true (aA .rem v39 (.int .u32 4)) H22 λv40 H23=>gO v37 true (aA .neq v40 (.int .u32 0)) H23 λv41 H24=>gV v37 true v41 H24 λv42 H25=>gO v42 false (aB v1 3) H25 λv43 H26=>gO v42 false (aD v43 H26) H26 λv44 H27=>gO v42 false (aA .gtr v44 (.int .u32 60)) H27 λv45 H28=>gO v37 true (pick v42 (.bool true) v45) H28 λv46 H29=>opt (pick v37 v46 (.bool false)) λv47=>ifB v47 (
 Q (vi 204) H29) (
 opt (aB v1 0) λv48=>opt (aD v48 H29) λv49=>E.call 78 [v49] H29 λv50 H30=>gO v50 true (aB v1 3) H30 λv51 H31=>gO v50 true (aD v51 H31) H31 λv52 H32=>gO v50 true (aA .geq v52 (.int .u32 16)) H32 λv53 H33=>opt (pick v50 v53 (.bool false)) λv54=>ifB v54 (
 Q (vi 204) H33) (
 opt (aB v1 0) λv55=>opt (aD v55 H33) λv56=>opt (aA .eql v56 (.int .u16 52)) λv57=>gO v57 true (aB v1 3) H33 λv58 H34=>gO v57 true (aD v58 H34) H34 λv59 H35=>gO v57 true (aA .eql v59 (.int .u32 0)) H35 λv60 H36=>opt (pick v57 v60 (.bool false)) λv61=>ifB v61 (
 Q (vi 204) H36) (
 opt (aB v1 0) λv62=>opt (aD v62 H36) λv63=>opt (aA .eql v63 (.int .u16 100)) λv64=>gO v64 false (aB v1 0) H36 λv65 H37=>gO v64 false (aD v65 H37) H37 λv66 H38=>gO v64 false (aA .eql v66 (.int .u16 116)) H38 λv67 H39=>opt (pick v64 (.bool true) v67) λv68=>gO v68 true (aB v1 3) H39 λv69 H40=>gO v68 true (aD v69 H40) H40 λv70 H41=>gO v68 true (aA .geq v70 (.int .u32 32)) H41 λv71 H42=>opt (pick v68 v71 (.bool false)) λv72=>ifB v72 (
 Q (vi 204) H42) (
 Q (vi 0) H42)))))))

def F.f1:T0:=λE x0 H Q =>
 mk (eQ x0) H λv1 H1=>opt (aB v1 0) λv2=>opt (aD v2 H1) λv3=>E.call 47 [v3] H1 λv4 H2=>opt (aA .eql v4 (.int .u16 6)) λv5=>Q v5 H2

def F.f2_l3:T13:=λE Q X0 t2 t3 t7 t24 t25 t26 t58 t59 t60 H X1 =>
 opt (aA .lss t60 t59) λv1=>ifB v1 (
 opt (aI 1 t58 t60) λv2=>opt (aD v2 H) λv3=>opt (aI 1 t3 v3) λv4=>opt (aD v4 H) λv5=>opt (aA .and v5 t7) λv6=>opt (aI 1 t3 v3) λv7=>opt (bD v7 v6 H) λH1=>opt (aA .add t60 (vi 1)) λv8=>X1 [t2,t3,t7,t24,t25,t26,t58,t59,v8] H1) (
 opt (aA .add t26 (vi 1)) λv9=>X0 [t2,t3,t24,t25,v9] H)
def F.f2_j1:T14:=λE Q X0 t2 t3 t5 t6 t7 t24 t25 t26 H =>
 opt (aE 4 t6 H) λv1=>E.call 79 [v1,t5] H λv2 H1=>opt (lenSlc v2) λv3=>lp9 (F.f2_l3 E Q X0) [t2,t3,t7,t24,t25,t26,v2,v3,vi 0] H1
def F.f2_j3:T18:=λE Q X0 t2 t3 t5 t6 t7 t24 t25 t26 t48 H =>
 ifB t48 (
 opt (aB t6 3) λv1=>opt (aD v1 H) λv2=>opt (aA .shl (.int .u16 1) v2) λv3=>opt (aA .or t7 v3) λv4=>F.f2_j1 E Q X0 t2 t3 t5 t6 v4 t24 t25 t26 H) (
 F.f2_j1 E Q X0 t2 t3 t5 t6 t7 t24 t25 t26 H)
def F.f2_j2:T25:=λE Q X0 t2 t3 t5 t6 t7 t24 t25 t26 t36 t37 H =>
 ifB t37 (
 opt (aB t6 3) λv1=>opt (aD v1 H) λv2=>opt (aA .shr t7 v2) λv3=>opt (aA .and v3 (.int .u16 1)) λv4=>opt (aA .eql v4 (.int .u16 0)) λv5=>ifB v5 (
 opt (aK [(0,1),(1,1)] #[vi 0,vi 0] [(0,t5),(1,(vi 2))]) λv6=>opt (aH 2 t2 v6 H) λH1=>opt (aE 2 t2 H1) λv7=>Q v7 H1) (
 F.f2_j1 E Q X0 t2 t3 t5 t6 t7 t24 t25 t26 H)) (
 opt (aA .eql t36 (.int .u16 2)) λv8=>ifB v8 (
 F.f2_j3 E Q X0 t2 t3 t5 t6 t7 t24 t25 t26 v8 H) (
 opt (aA .eql t36 (.int .u16 3)) λv9=>F.f2_j3 E Q X0 t2 t3 t5 t6 t7 t24 t25 t26 v9 H))
def F.f2_l2:T2:=λE Q t2 t3 t24 t25 t26 H X0 =>
 opt (aA .lss t26 t25) λv1=>ifB v1 (
 opt (aI 4 t24 t26) λv2=>opt (aE 4 v2 H) λv3=>bI [(.int .u16 0),(.int .u8 0),(.int .u8 0),(.int .u32 0)] H λv4 H1=>opt (aH 4 v4 v3 H1) λH2=>opt (aI 1 t3 t26) λv5=>opt (aD v5 H2) λv6=>opt (aB v4 0) λv7=>opt (aD v7 H2) λv8=>opt (aA .eql v8 (.int .u16 96)) λv9=>ifB v9 (
 F.f2_j2 E Q X0 t2 t3 t26 v4 v6 t24 t25 t26 v8 v9 H2) (
 opt (aA .eql v8 (.int .u16 97)) λv10=>F.f2_j2 E Q X0 t2 t3 t26 v4 v6 t24 t25 t26 v8 v10 H2)) (
 opt (aK [(0,1),(1,1)] #[vi 0,vi 0] []) λv11=>opt (aH 2 t2 v11 H) λH3=>opt (aE 2 t2 H3) λv12=>Q v12 H3)
def F.f2_l1:T2:=λE Q t0 t2 t3 t14 t15 H X0 =>
 opt (aA .lss t15 t14) λv1=>ifB v1 (
 opt (aI 1 t3 t15) λv2=>opt (bD v2 (.int .u16 65535) H) λH1=>opt (aA .add t15 (vi 1)) λv3=>X0 [t0,t2,t3,t14,v3] H1) (
 opt (aI 1 t3 (vi 0)) λv4=>opt (bD v4 (.int .u16 0) H) λH2=>opt (lenSlc t0) λv5=>lp5 (F.f2_l2 E Q) [t2,t3,t0,v5,vi 0] H2)
def F.f2:T0:=λE x0 H Q =>
 bI [vi 0,vi 0] H λv1 H1=>opt (lenSlc x0) λv2=>mk (sW 1 2 #[(.int .u16 0)] v2 v2) H1 λv3 H2=>opt (lenSlc v3) λv4=>lp5 (F.f2_l1 E Q) [x0,v1,v3,v4,vi 0] H2

def F.f150:T1:=λE x0 x1 H Q =>
 mk (eQ x1) H λv1 H1=>opt (aO x0) λv2=>opt (aB v2 18) λv3=>opt (aD v3 H1) λv4=>opt (aA .add v4 (vi 1)) λv5=>opt (aO x0) λv6=>opt (aB v6 18) λv7=>opt (bD v7 v5 H1) λH2=>opt (aB v1 0) λv8=>opt (aD v8 H2) λv9=>E.call 47 [v9] H2 λv10 H3=>opt (aA .eql v10 (.int .u16 0)) λv11=>ifB v11 (
 opt (aE 4 v1 H3) λv12=>E.call 48 [x0,v12] H3 λv13 H4=>opt (aO x0) λv14=>opt (aB v14 0) λv15=>opt (bD v15 v13 H4) λH5=>Q (.tuple #[]) H5) (
 opt (aA .eql v10 (.int .u16 1)) λv16=>ifB v16 (
 opt (aE 4 v1 H3) λv17=>E.call 48 [x0,v17] H3 λv18 H6=>opt (aO x0) λv19=>opt (aB v19 1) λv20=>opt (bD v20 v18 H6) λH7=>Q (.tuple #[]) H7) (
 opt (aA .eql v10 (.int .u16 2)) λv21=>ifB v21 (
 opt (aB v1 3) λv22=>opt (aD v22 H3) λv23=>opt (aA .rem v23 (.int .u32 16)) λv24=>opt (aO x0) λv25=>opt (aB v25 0) λv26=>opt (aD v26 H3) λv27=>opt (aO x0) λv28=>opt (aB v28 2) λv29=>opt (oQ 16 1 v29 v24) λv30=>opt (bD v30 v27 H3) λH8=>Q (.tuple #[]) H8) (
 opt (aA .eql v10 (.int .u16 3)) λv31=>ifB v31 (
 opt (aB v1 3) λv32=>opt (aD v32 H3) λv33=>opt (aA .rem v33 (.int .u32 16)) λv34=>opt (aO x0) λv35=>opt (aB v35 1) λv36=>opt (aD v36 H3) λv37=>opt (aO x0) λv38=>opt (aB v38 2) λv39=>opt (oQ 16 1 v39 v34) λv40=>opt (bD v40 v37 H3) λH9=>Q (.tuple #[]) H9) (
 opt (aA .eql v10 (.int .u16 4)) λv41=>ifB v41 (
 opt (aE 4 v1 H3) λv42=>E.call 49 [x0,v42] H3 λv43 H10=>Q (.tuple #[]) H10) (
 opt (aA .eql v10 (.int .u16 5)) λv44=>ifB v44 (
 opt (aE 4 v1 H3) λv45=>E.call 50 [x0,v45] H3 λv46 H11=>Q (.tuple #[]) H11) (
 opt (aA .eql v10 (.int .u16 6)) λv47=>ifB v47 (
 opt (aB v1 3) λv48=>opt (aD v48 H3) λv49=>opt (aO x0) λv50=>opt (aB v50 29) λv51=>opt (bD v51 (.bool true) H3) λH12=>aD v48 H12=aD v48 H3 /\
 opt (aO x0) λv52=>opt (aB v52 28) λv53=>opt (bD v53 v49 H12) λH13=>opt (aB v1 0) λv54=>opt (aD v54 H13) λv55=>opt (aA .eql v55 (.int .u16 22)) λv56=>ifB v56 (
 opt (aO x0) λv57=>opt (aB v57 0) λv58=>opt (aD v58 H13) λv59=>opt (aO x0) λv60=>opt (aB v60 28) λv61=>opt (bD v61 v59 H13) λH14=>Q (.tuple #[]) H14) (
 Q (.tuple #[]) H13)) (
 opt (aA .eql v10 (.int .u16 7)) λv62=>ifB v62 (
 opt (aB v1 0) λv63=>opt (aD v63 H3) λv64=>opt (aA .eql v64 (.int .u16 7)) λv65=>ifB v65 (
 opt (aO x0) λv66=>opt (aB v66 0) λv67=>opt (aD v67 H3) λv68=>opt (aO x0) λv69=>opt (aB v69 1) λv70=>opt (bD v70 v68 H3) λH15=>Q (.tuple #[]) H15) (
 opt (aO x0) λv71=>opt (aB v71 1) λv72=>opt (aD v72 H3) λv73=>opt (aO x0) λv74=>opt (aB v74 0) λv75=>opt (bD v75 v73 H3) λH16=>Q (.tuple #[]) H16)) (
 Q (.tuple #[]) H3))))))))

def F.f141:T1:=λE x0 x1 H Q =>
 opt (aO x0) λv1=>opt (aB v1 0) λv2=>E.call 51 [v2,x1] H λv3 H1=>Q v3 H1

def F.f70_l1:T3:=λE Q t3 t13 t14 t15 H X0 =>
 opt (aA .lss t15 t14) λv1=>ifB v1 (
 opt (aI 4 t13 t15) λv2=>opt (aE 4 v2 H) λv3=>bI [vi 0,(.int .u8 0),(.int .u64 0),(.int .u64 0)] H λv4 H1=>opt (aH 4 v4 v3 H1) λH2=>opt (aE 4 v4 H2) λv5=>opt (aE 9 t3 H2) λv6=>E.call 80 [v5,v6] H2 λv7 H3=>opt (un .not v7) λv8=>ifB v8 (
 Q (.bool false) H3) (
 opt (aA .add t15 (vi 1)) λv9=>X0 [t3,t13,t14,v9] H3)) (
 Q (.bool true) H)
def F.f70:T1:=λE x0 x1 H Q =>
 mk (eQ x0) H λv1 H1=>mk (eQ x1) H1 λv2 H2=>opt (aB v1 0) λv3=>opt (aD v3 H2) λv4=>opt (aB v2 0) λv5=>opt (aD v5 H2) λv6=>opt (aA .neq v4 v6) λv7=>ifB v7 (
 Q (.bool false) H2) (
 opt (aB v1 2) λv8=>opt (aD v8 H2) λv9=>opt (lenSlc v9) λv10=>lp4 (F.f70_l1 E Q) [v2,v9,v10,vi 0] H2)

def F.f103:T1:=λE x0 x1 H Q =>
 E.call 81 [x1] H λv1 H1=>E.call 81 [x0] H1 λv2 H2=>opt (aA .gtr v1 v2) λv3=>ifB v3 (
 Q x1 H2) (
 Q x0 H2)

def F.f33_l2:T13:=λE Q X0 t2 t3 t8 t31 t32 t33 t38 t39 t40 H X1 =>
 opt (aA .lss t40 t39) λv1=>ifB v1 (
 opt (aI 4 t38 t40) λv2=>opt (aE 4 v2 H) λv3=>bI [vi 0,(.int .u8 0),(.int .u64 0),(.int .u64 0)] H λv4 H1=>opt (aH 4 v4 v3 H1) λH2=>opt (aE 4 v4 H2) λv5=>opt (aE 9 t3 H2) λv6=>E.call 80 [v5,v6] H2 λv7 H3=>opt (un .not v7) λv8=>ifB v8 (
 opt (aA .add t33 (vi 1)) λv9=>X0 [t2,t3,t31,t32,v9] H3) (
 opt (aA .add t40 (vi 1)) λv10=>X1 [t2,t3,t8,t31,t32,t33,t38,t39,v10] H3)) (
 opt (aB t8 1) λv11=>opt (aD v11 H) λv12=>Q v12 H)
def F.f33_l1:T2:=λE Q t2 t3 t31 t32 t33 H X0 =>
 opt (aA .lss t33 t32) λv1=>ifB v1 (
 opt (aI 2 t31 t33) λv2=>opt (aE 2 v2 H) λv3=>bI [(.slice none 0 0),(.int .u32 0)] H λv4 H1=>opt (aH 2 v4 v3 H1) λH2=>opt (aB v4 0) λv5=>opt (aD v5 H2) λv6=>opt (lenSlc v6) λv7=>lp9 (F.f33_l2 E Q X0) [t2,t3,v4,t31,t32,t33,v6,v7,vi 0] H2) (
 opt (aB t2 1) λv8=>opt (aD v8 H) λv9=>Q v9 H)
def F.f33:T1:=λE x0 x1 H Q =>
 mk (eQ x0) H λv1 H1=>mk (eQ x1) H1 λv2 H2=>opt (aB v2 1) λv3=>opt (aD v3 H2) λv4=>opt (aA .neq v4 (.int .u32 3221225534)) λv5=>ifB v5 (
 Q (.int .u32 2147483648) H2) (
 opt (aB v1 0) λv6=>opt (aD v6 H2) λv7=>opt (aB v2 0) λv8=>opt (aD v8 H2) λv9=>E.call 82 [v7,v9,(.func (.func 83) #[] #[])] H2 λv10 H3=>opt (ext v10 0) λv11=>opt (ext v10 1) λv12=>opt (un .not v12) λv13=>ifB v13 (
 opt (aB v1 1) λv14=>opt (aD v14 H3) λv15=>Q v15 H3) (
 opt (aB v1 0) λv16=>opt (aD v16 H3) λv17=>opt (aI 2 v17 v11) λv18=>opt (aB v18 1) λv19=>opt (aD v19 H3) λv20=>opt (lenSlc v20) λv21=>lp5 (F.f33_l1 E Q) [v1,v2,v20,v21,vi 0] H3))

def F.f99:T0:=λE x0 H Q =>
 opt (oV max2 [x0,vi 0]) λv1=>opt (oV min2 [v1,vi 4095]) λv2=>opt (aS .u32 v2) λv3=>opt (aA .or (.int .u32 327680) v3) λv4=>Q v4 H

def F.f84:T10:=λE H Q =>
 mk (bO 12 1 #[(.int .u64 0)] [(0,(.int .u64 0)),(1,(.int .u64 1)),(2,(.int .u64 2)),(3,(.int .u64 3)),(4,(.int .u64 5)),(5,(.int .u64 255)),(6,(.int .u64 4294967295)),(7,(.int .u64 4294967296)),(8,(.int .u64 4294967297)),(9,(.int .u64 8589934597)),(10,(.int .u64 9223372036854775810)),(11,(.int .u64 18446744073709551615))]) H λv1 H1=>Q v1 H1

def F.f113:T1:=λE x0 x1 H Q =>
 opt (lenSlc x0) λv1=>E.call 91 [x0,v1,x1] H λv2 H1=>Q (.tuple #[]) H1

def F.f31:T1:=λE x0 x1 H Q =>
 mk (eQ x0) H λv1 H1=>mk (eQ x1) H1 λv2 H2=>opt (aB v1 1) λv3=>opt (aD v3 H2) λv4=>opt (aB v2 1) λv5=>opt (aD v5 H2) λv6=>E.call 65 [v4] H2 λv7 H3=>aD v5 H3=aD v5 H2 /\
 E.call 65 [v6] H3 λv8 H4=>E.call 64 [v7,v8] H4 λv9 H5=>Q v9 H5

def F.f36_l1:T3:=λE Q t3 t7 t8 t9 H X0 =>
 opt (aA .lss t9 t8) λv1=>ifB v1 (
 opt (aI 3 t7 t9) λv2=>opt (aE 3 v2 H) λv3=>bI [(.int .u32 0),(.int .u32 0),(.slice none 0 0)] H λv4 H1=>opt (aH 3 v4 v3 H1) λH2=>opt (aB v4 2) λv5=>opt (aD v5 H2) λv6=>opt (aB v4 1) λv7=>opt (aD v7 H2) λv8=>bI [(.slice none 0 0),(.int .u32 0)] H2 λv9 H3=>E.call 94 [v6] H3 λv10 H4=>H4.get H2.next=H3.get H2.next /\
 aD v7 H4=aD v7 H2 /\
 opt (aK [(0,1),(1,1)] #[(.slice none 0 0),(.int .u32 0)] [(0,v10),(1,v8)]) λv11=>opt (aH 2 v9 v11 H4) λH5=>opt (aB v9 0) λv12=>opt (aD v12 H5) λv13=>E.call 95 [v13] H5 λv14 H6=>ifB v14 (
 opt (aA .add t9 (vi 1)) λv15=>X0 [t3,t7,t8,v15] H6) (
 opt (aE 2 v9 H6) λv16=>mk (bO 1 2 #[(.slice none 0 0),(.int .u32 0)] [(0,v16)]) H6 λv17 H7=>gN (app 2 32 t3 v17 H7) λv18 H8=>opt (aB v9 0) λv19=>opt (aD v19 H8) λv20=>opt (lenSlc v20) λv21=>opt (aA .eql v21 (vi 0)) λv22=>ifB v22 (
 Q v18 H8) (
 opt (aA .add t9 (vi 1)) λv23=>X0 [v18,t7,t8,v23] H8))) (
 Q t3 H)
def F.f36:T0:=λE x0 H Q =>
 opt (lenSlc x0) λv1=>lp4 (F.f36_l1 E Q) [(.slice none 0 0),x0,v1,vi 0] H

def F.f112:T1:=λE x0 x1 H Q =>
 opt (lenSlc x0) λv1=>opt (aS .u64 v1) λv2=>E.call 97 [v2] H λv3 H1=>E.call 96 [x0,vi 0,v1,v3,x1] H1 λv4 H2=>Q (.tuple #[]) H2

def F.f32:T1:=λE x0 x1 H Q =>
 mk (eQ x0) H λv1 H1=>mk (eQ x1) H1 λv2 H2=>opt (aB v1 0) λv3=>opt (aD v3 H2) λv4=>opt (aB v2 0) λv5=>opt (aD v5 H2) λv6=>E.call 69 [v4,v6] H2 λv7 H3=>Q v7 H3

def F.f59:T1:=λE x0 x1 H Q =>
 opt (aO x0) λv1=>opt (aB v1 3) λv2=>opt (aD v2 H) λv3=>opt (look 0 (vi 0) true v3 x1 H) λv4=>opt (ext v4 0) λv5=>opt (ext v4 1) λv6=>ifB v6 (
 Q v5 H) (
 opt (aO x0) λv7=>opt (aB v7 0) λv8=>E.call 53 [v8] H λv9 H1=>opt (aO x0) λv10=>opt (aB v10 3) λv11=>opt (aD v11 H1) λv12=>opt (eO 0 v12 x1 v9 H1) λH2=>opt (aO x0) λv13=>opt (aB v13 4) λv14=>opt (aD v14 H2) λv15=>mk (bO 1 1 #[(.int .u32 0)] [(0,x1)]) H2 λv16 H3=>gN (app 1 4 v15 v16 H3) λv17 H4=>opt (aO x0) λv18=>opt (aB v18 4) λv19=>opt (bD v19 v17 H4) λH5=>Q v9 H5)

def F.f43:T0:=λE x0 H Q =>
 opt (eW iU .eql x0 (.pointer none)) λv1=>ifB v1 (
 Q (vi 0) H) (
 opt (aO x0) λv2=>opt (aB v2 1) λv3=>opt (aD v3 H) λv4=>opt (aA .add v4 (vi 1)) λv5=>opt (aO x0) λv6=>opt (aB v6 1) λv7=>opt (bD v7 v5 H) λH1=>opt (aO x0) λv8=>opt (aB v8 1) λv9=>opt (aD v9 H1) λv10=>Q v10 H1)

def F.f19:T0:=λE x0 H Q =>
 bI [(.int .u16 0),(.int .u8 0),(.int .u8 0),(.int .u32 0)] H λv1 H1=>opt (aK [(0,1),(1,1),(2,1),(3,1)] #[(.int .u16 0),(.int .u8 0),(.int .u8 0),(.int .u32 0)] [(0,(.int .u16 32)),(3,x0)]) λv2=>opt (aH 4 v1 v2 H1) λH2=>opt (aE 4 v1 H2) λv3=>Q v3 H2

def F.f45:T1:=λE x0 x1 H Q =>
 mk (eQ x1) H λv1 H1=>opt (aE 4 v1 H1) λv2=>opt (aK [(0,1),(1,1),(2,1),(3,4)] #[(.int .u8 0),vi 0,vi 0,(.int .u16 0),(.int .u8 0),(.int .u8 0),(.int .u32 0)] [(0,(.int .u8 2)),(3,v2)]) λv3=>E.call 86 [x0,v3] H1 λv4 H2=>Q (.tuple #[]) H2

def F.f42:T7:=λE x0 x1 x2 x3 x4 H Q =>
 E.call 87 [x1,x2,(.int .u8 0),(.int .u8 0)] H λv1 H1=>opt (aK [(0,1),(1,1),(2,1),(3,4)] #[(.int .u8 0),vi 0,vi 0,(.int .u16 0),(.int .u8 0),(.int .u8 0),(.int .u32 0)] [(0,(.int .u8 3)),(1,x3),(2,x4),(3,v1)]) λv2=>E.call 86 [x0,v2] H1 λv3 H2=>Q (.tuple #[]) H2

def F.f41:T1:=λE x0 x1 H Q =>
 opt (aK [(0,1),(1,1),(2,1),(3,4)] #[(.int .u8 0),vi 0,vi 0,(.int .u16 0),(.int .u8 0),(.int .u8 0),(.int .u32 0)] [(0,(.int .u8 1)),(1,x1)]) λv1=>E.call 86 [x0,v1] H λv2 H1=>Q (.tuple #[]) H1

def F.f61:T8:=λE x0 x1 x2 H Q =>
 opt (lenSlc x1) λv1=>opt (aA .eql v1 (vi 0)) λv2=>ifB v2 (
 opt (aO x0) λv3=>opt (aB v3 0) λv4=>opt (aO x0) λv5=>opt (aB v5 2) λv6=>opt (aD v6 H) λv7=>E.call 88 [v4,v7] H λv8 H1=>Q (.tuple #[]) H1) (
 opt (aA .eql v1 (vi 1)) λv9=>ifB v9 (
 opt (aO x0) λv10=>opt (aB v10 0) λv11=>opt (aI 2 x1 (vi 0)) λv12=>opt (aB v12 0) λv13=>opt (aD v13 H) λv14=>opt (aI 2 x1 (vi 0)) λv15=>opt (aB v15 0) λv16=>opt (aD v16 H) λv17=>opt (look 0 (vi 0) false x2 v17 H) λv18=>opt (aO x0) λv19=>opt (aB v19 2) λv20=>opt (aD v20 H) λv21=>E.call 56 [v11,(.int .u16 16),v14,v18,v21] H λv22 H2=>Q (.tuple #[]) H2) (
 opt (lenSlc x1) λv23=>opt (aA .quo v23 (vi 2)) λv24=>opt (aO x0) λv25=>opt (aB v25 0) λv26=>opt (aO x0) λv27=>opt (aB v27 0) λv28=>E.call 53 [v26] H λv29 H3=>E.call 53 [v28] H3 λv30 H4=>opt (aO x0) λv31=>opt (aB v31 0) λv32=>opt (aI 2 x1 v24) λv33=>opt (aB v33 0) λv34=>opt (aD v34 H4) λv35=>E.call 56 [v32,(.int .u16 48),v35,v30,v29] H4 λv36 H5=>opt (aO x0) λv37=>opt (aB v37 0) λv38=>E.call 57 [v38,v29] H5 λv39 H6=>opt (kV 2 x1 none (some v24) none H6) λv40=>E.call 58 [x0,v40,x2] H6 λv41 H7=>opt (aO x0) λv42=>opt (aB v42 0) λv43=>E.call 57 [v43,v30] H7 λv44 H8=>opt (kV 2 x1 (some v24) none none H8) λv45=>E.call 58 [x0,v45,x2] H8 λv46 H9=>Q (.tuple #[]) H9))

def F.f60_l2:T13:=λE Q X0 t0 t5 t6 t10 t11 t12 t21 t22 t23 H X1 =>
 opt (aA .lss t23 t22) λv1=>ifB v1 (
 opt (aI 4 t21 t23) λv2=>opt (aE 4 v2 H) λv3=>bI [vi 0,(.int .u8 0),(.int .u64 0),(.int .u64 0)] H λv4 H1=>opt (aH 4 v4 v3 H1) λH2=>opt (aO t0) λv5=>opt (aB v5 0) λv6=>E.call 53 [v6] H2 λv7 H3=>opt (aE 4 v4 H3) λv8=>E.call 89 [t0,v8,v7,t6] H3 λv9 H4=>opt (aO t0) λv10=>opt (aB v10 0) λv11=>E.call 57 [v11,v7] H4 λv12 H5=>opt (aA .add t23 (vi 1)) λv13=>X1 [t0,t5,t6,t10,t11,t12,t21,t22,v13] H5) (
 opt (aO t0) λv14=>opt (aB v14 0) λv15=>opt (aB t5 1) λv16=>opt (aD v16 H) λv17=>E.call 52 [t0,v17] H λv18 H6=>E.call 88 [v15,v18] H6 λv19 H7=>opt (aO t0) λv20=>opt (aB v20 0) λv21=>E.call 57 [v21,t6] H7 λv22 H8=>opt (aA .add t12 (vi 1)) λv23=>X0 [t0,t10,t11,v23] H8)
def F.f60_l1:T3:=λE Q t0 t10 t11 t12 H X0 =>
 opt (aA .lss t12 t11) λv1=>ifB v1 (
 opt (aI 2 t10 t12) λv2=>opt (aE 2 v2 H) λv3=>bI [(.slice none 0 0),(.int .u32 0)] H λv4 H1=>opt (aH 2 v4 v3 H1) λH2=>opt (aO t0) λv5=>opt (aB v5 0) λv6=>E.call 53 [v6] H2 λv7 H3=>opt (aB v4 0) λv8=>opt (aD v8 H3) λv9=>opt (lenSlc v9) λv10=>lp9 (F.f60_l2 E Q X0) [t0,v4,v7,t10,t11,t12,v9,v10,vi 0] H3) (
 opt (aO t0) λv11=>opt (aB v11 0) λv12=>opt (aO t0) λv13=>opt (aB v13 2) λv14=>opt (aD v14 H) λv15=>E.call 88 [v12,v15] H λv16 H4=>Q (.tuple #[]) H4)
def F.f60:T1:=λE x0 x1 H Q =>
 opt (lenSlc x1) λv1=>lp4 (F.f60_l1 E Q) [x0,x1,v1,vi 0] H

def F.f63_l1:T3:=λE Q t0 t7 t8 t9 H X0 =>
 opt (aA .lss t9 t8) λv1=>ifB v1 (
 opt (aI 1 t7 t9) λv2=>opt (aD v2 H) λv3=>opt (aO t0) λv4=>opt (aB v4 0) λv5=>opt (aO t0) λv6=>opt (aB v6 3) λv7=>opt (aD v7 H) λv8=>opt (look 0 (vi 0) false v8 v3 H) λv9=>E.call 57 [v5,v9] H λv10 H1=>opt (aO t0) λv11=>opt (aB v11 0) λv12=>E.call 90 [v3] H1 λv13 H2=>E.call 54 [v12,v13] H2 λv14 H3=>opt (aA .add t9 (vi 1)) λv15=>X0 [t0,t7,t8,v15] H3) (
 Q (.tuple #[]) H)
def F.f63:T0:=λE x0 H Q =>
 opt (aO x0) λv1=>opt (aB v1 4) λv2=>opt (aD v2 H) λv3=>opt (lenSlc v3) λv4=>lp4 (F.f63_l1 E Q) [x0,v3,v4,vi 0] H

def F.f44:T0:=λE x0 H Q =>
 opt (eW iU .eql x0 (.pointer none)) λv1=>ifB v1 (
 Q (.slice none 0 0) H) (
 mk (bO 0 7 #[(.int .u8 0),vi 0,vi 0,(.int .u16 0),(.int .u8 0),(.int .u8 0),(.int .u32 0)] []) H λv2 H1=>opt (aO x0) λv3=>opt (aB v3 0) λv4=>opt (aD v4 H1) λv5=>gN (app 7 32 v2 v5 H1) λv6 H2=>Q v6 H2)

def F.f55_j1:T19:=λE Q X0 t3 t4 t5 t7 t15 t16 t17 H =>
 opt (aE 7 t7 H) λv1=>mk (bO 1 7 #[(.int .u8 0),vi 0,vi 0,(.int .u16 0),(.int .u8 0),(.int .u8 0),(.int .u32 0)] [(0,v1)]) H λv2 H1=>gN (app 7 32 t5 v2 H1) λv3 H2=>opt (aA .add t17 (vi 1)) λv4=>X0 [t3,t4,v3,t15,t16,v4] H2
def F.f55_j2:T14:=λE Q X0 t4 t5 t8 t9 t11 t56 t57 t58 H =>
 opt (aE 7 t11 H) λv1=>mk (bO 1 7 #[(.int .u8 0),vi 0,vi 0,(.int .u16 0),(.int .u8 0),(.int .u8 0),(.int .u32 0)] [(0,v1)]) H λv2 H1=>gN (app 7 32 t8 v2 H1) λv3 H2=>opt (aA .add t58 (vi 1)) λv4=>X0 [t4,t5,v3,t9,t56,t57,v4] H2
def F.f55_j3:T18:=λE Q X0 t4 t5 t8 t9 t11 t56 t57 t58 t87 H =>
 ifB t87 (
 opt (aA .add t58 (vi 1)) λv1=>X0 [t4,t5,t8,t9,t56,t57,v1] H) (
 opt (aB t11 0) λv2=>opt (aD v2 H) λv3=>opt (aA .eql v3 (.int .u8 4)) λv4=>gO v4 false (aB t11 0) H λv5 H1=>gO v4 false (aD v5 H1) H1 λv6 H2=>gO v4 false (aA .eql v6 (.int .u8 2)) H2 λv7 H3=>gV v4 false v7 H3 λv8 H4=>gO v8 true (aB t11 3) H4 λv9 H5=>gO v8 true (aB v9 0) H5 λv10 H6=>gO v8 true (aD v10 H6) H6 λv11 H7=>gd v8 true (λk=>E.call 47 [v11] H7 λv h=>k v h) H7 λv12 H8=>gO v8 true (aA .eql v12 (.int .u16 6)) H8 λv13 H9=>gO v4 false (pick v8 v13 (.bool false)) H9 λv14 H10=>opt (pick v4 (.bool true) v14) λv15=>F.f55_j2 E Q X0 t4 t5 t8 v15 t11 t56 t57 t58 H10)
def F.f55_l2:T11:=λE Q t4 t5 t8 t9 t56 t57 t58 H X0 =>
 opt (aA .lss t58 t57) λv1=>ifB v1 (
 opt (aI 7 t56 t58) λv2=>opt (aE 7 v2 H) λv3=>bI [(.int .u8 0),vi 0,vi 0,(.int .u16 0),(.int .u8 0),(.int .u8 0),(.int .u32 0)] H λv4 H1=>opt (aH 7 v4 v3 H1) λH2=>opt (aB v4 0) λv5=>opt (aD v5 H2) λv6=>opt (aA .eql v6 (.int .u8 1)) λv7=>ifB v7 (
 opt (aB v4 1) λv8=>opt (aD v8 H2) λv9=>opt (look 0 (.bool false) false t4 v9 H2) λv10=>opt (un .not v10) λv11=>ifB v11 (
 opt (aA .add t58 (vi 1)) λv12=>X0 [t4,t5,t8,t9,t56,t57,v12] H2) (
 F.f55_j2 E Q X0 t4 t5 t8 (.bool false) v4 t56 t57 t58 H2)) (
 ifB t9 (
 F.f55_j3 E Q X0 t4 t5 t8 t9 v4 t56 t57 t58 t9 H2) (
 opt (aB v4 0) λv13=>opt (aD v13 H2) λv14=>opt (aA .eql v14 (.int .u8 4)) λv15=>gV v15 true t5 H2 λv16 H3=>gV v15 true t58 H3 λv17 H4=>gO v15 true (aA .add v17 (vi 1)) H4 λv18 H5=>gO v15 true (kV 7 v16 (some v18) none none H5) H5 λv19 H6=>gO v15 true (aB v4 1) H6 λv20 H7=>gO v15 true (aD v20 H7) H7 λv21 H8=>gd v15 true (λk=>E.call 104 [v19,v21] H8 λv h=>k v h) H8 λv22 H9=>opt (pick v15 v22 (.bool false)) λv23=>F.f55_j3 E Q X0 t4 t5 t8 t9 v4 t56 t57 t58 v23 H9))) (
 Q t8 H)
def F.f55_l1:T5:=λE Q t3 t4 t5 t15 t16 t17 H X0 =>
 opt (aA .lss t17 t16) λv1=>ifB v1 (
 opt (aI 7 t15 t17) λv2=>opt (aE 7 v2 H) λv3=>bI [(.int .u8 0),vi 0,vi 0,(.int .u16 0),(.int .u8 0),(.int .u8 0),(.int .u32 0)] H λv4 H1=>opt (aH 7 v4 v3 H1) λH2=>opt (aB v4 0) λv5=>opt (aD v5 H2) λv6=>opt (aA .eql v6 (.int .u8 4)) λv7=>ifB v7 (
 opt (aB v4 1) λv8=>opt (aD v8 H2) λv9=>E.call 103 [t3,v9] H2 λv10 H3=>opt (aB v4 1) λv11=>opt (bD v11 v10 H3) λH4=>opt (aB v4 1) λv12=>opt (aD v12 H4) λv13=>opt (eO 0 t4 v13 (.bool true) H4) λH5=>F.f55_j1 E Q X0 t3 t4 t5 v4 t15 t16 t17 H5) (
 opt (aA .eql v6 (.int .u8 3)) λv14=>ifB v14 (
 opt (aB v4 1) λv15=>opt (aD v15 H2) λv16=>opt (aB v4 2) λv17=>opt (aD v17 H2) λv18=>E.call 103 [t3,v16] H2 λv19 H6=>aD v17 H6=aD v17 H2 /\
 opt (aB v4 1) λv20=>E.call 103 [t3,v18] H6 λv21 H7=>opt (bD v20 v19 H7) λH8=>opt (aB v4 2) λv22=>opt (bD v22 v21 H8) λH9=>opt (aB v4 1) λv23=>opt (aD v23 H9) λv24=>opt (aB v4 2) λv25=>opt (aD v25 H9) λv26=>opt (eO 0 t4 v24 (.bool true) H9) λH10=>aD v25 H10=aD v25 H9 /\
 opt (eO 0 t4 v26 (.bool true) H10) λH11=>F.f55_j1 E Q X0 t3 t4 t5 v4 t15 t16 t17 H11) (
 F.f55_j1 E Q X0 t3 t4 t5 v4 t15 t16 t17 H2))) (
 opt (lenSlc t5) λv27=>lp7 (F.f55_l2 E Q) [t4,t5,(.slice none 0 0),(.bool false),t5,v27,vi 0] H)
def F.f55:T0:=λE x0 H Q =>
 E.call 102 [x0] H λv1 H1=>pD H1 λv2 H2=>opt (lenSlc x0) λv3=>lp6 (F.f55_l1 E Q) [v1,v2,(.slice none 0 0),x0,v3,vi 0] H2

def F.f54:T1:=λE x0 x1 H Q =>
 mk (eQ x1) H λv1 H1=>opt (aB v1 0) λv2=>opt (aD v2 H1) λv3=>opt (aA .eql v3 (.int .u8 1)) λv4=>ifB v4 (
 opt (aO x0) λv5=>opt (aB v5 1) λv6=>opt (aD v6 H1) λv7=>opt (aB v1 1) λv8=>opt (aD v8 H1) λv9=>opt (look 0 (vi 0) true v7 v9 H1) λv10=>opt (ext v10 0) λv11=>opt (ext v10 1) λv12=>ifB v12 (
 Q (vi 206) H1) (
 opt (aO x0) λv13=>opt (aB v13 1) λv14=>opt (aD v14 H1) λv15=>opt (aB v1 1) λv16=>opt (aD v16 H1) λv17=>opt (aO x0) λv18=>opt (aB v18 0) λv19=>opt (aD v19 H1) λv20=>opt (lenSlc v20) λv21=>opt (eO 0 v15 v17 v21 H1) λH2=>Q (vi 0) H2)) (
 opt (aA .eql v3 (.int .u8 2)) λv22=>ifB v22 (
 opt (aB v1 3) λv23=>opt (aB v23 0) λv24=>opt (aD v24 H1) λv25=>E.call 47 [v25] H1 λv26 H3=>opt (aA .eql v26 (.int .u16 5)) λv27=>ifB v27 (
 Q (vi 210) H3) (
 opt (aO x0) λv28=>opt (aB v28 0) λv29=>opt (aD v29 H3) λv30=>opt (aB v1 3) λv31=>opt (aE 4 v31 H3) λv32=>mk (bO 1 4 #[(.int .u16 0),(.int .u8 0),(.int .u8 0),(.int .u32 0)] [(0,v32)]) H3 λv33 H4=>gN (app 4 8 v30 v33 H4) λv34 H5=>opt (aO x0) λv35=>opt (aB v35 0) λv36=>opt (bD v36 v34 H5) λH6=>Q (vi 0) H6)) (
 opt (aA .eql v3 (.int .u8 4)) λv37=>ifB v37 (
 opt (aB v1 1) λv38=>opt (aD v38 H1) λv39=>E.call 99 [x0,v39] H1 λv40 H7=>opt (ext v40 0) λv41=>opt (ext v40 1) λv42=>opt (un .not v42) λv43=>ifB v43 (
 Q (vi 207) H7) (
 E.call 100 [x0,v41] H7 λv44 H8=>Q (vi 0) H8)) (
 opt (aA .eql v3 (.int .u8 3)) λv45=>ifB v45 (
 opt (aE 7 v1 H1) λv46=>E.call 101 [x0,v46] H1 λv47 H9=>Q v47 H9) (
 Q (vi 210) H1))))

def F.f97_j1:T9:=λE Q t3 t7 H =>
 ifB t7 (
 Q t3 H) (
 Q (.int .u32 2147483648) H)
def F.f97:T0:=λE x0 H Q =>
 opt (aA .andNot x0 (.int .u32 65535)) λv1=>opt (aA .eql v1 (.int .u32 327680)) λv2=>ifB v2 (
 F.f97_j1 E Q v1 v2 H) (
 opt (aA .eql v1 (.int .u32 2147221504)) λv3=>ifB v3 (
 F.f97_j1 E Q v1 v3 H) (
 opt (aA .eql v1 (.int .u32 2147418112)) λv4=>F.f97_j1 E Q v1 v4 H))

def F.f73:T1:=λE x0 x1 H Q =>
 bI [(.int .u32 0),(.string ⟨#[]⟩),vi 0] H λv1 H1=>E.call 105 [x0] H1 λv2 H2=>opt (un .not v2) λv3=>ifB v3 (
 opt (aK [(0,1),(1,1),(2,1)] #[(.int .u32 0),(.string ⟨#[]⟩),vi 0] []) λv4=>opt (aH 3 v1 v4 H2) λH3=>opt (aE 3 v1 H3) λv5=>Q (.tuple #[v5,(.bool false)]) H3) (
 opt (aO x0) λv6=>opt (aB v6 4) λv7=>opt (aD v7 H2) λv8=>opt (look 0 (.agg #[(.int .u32 0),(.string ⟨#[]⟩),vi 0]) true v8 x1 H2) λv9=>opt (ext v9 0) λv10=>opt (ext v9 1) λv11=>bI [(.int .u32 0),(.string ⟨#[]⟩),vi 0] H2 λv12 H4=>opt (aH 3 v12 v10 H4) λH5=>opt (aE 3 v12 H5) λv13=>opt (aH 3 v1 v13 H5) λH6=>opt (aE 3 v1 H6) λv14=>Q (.tuple #[v14,v11]) H6)

def F.f89:T0:=λE x0 H Q =>
 mk (eQ x0) H λv1 H1=>opt (aB v1 0) λv2=>opt (aD v2 H1) λv3=>opt (aA .lss v3 (vi 0)) λv4=>gO v4 false (aB v1 0) H1 λv5 H2=>gO v4 false (aD v5 H2) H2 λv6 H3=>gO v4 false (aA .gtr v6 (vi 5)) H3 λv7 H4=>opt (pick v4 (.bool true) v7) λv8=>ifB v8 (
 Q (vi 204) H4) (
 opt (aB v1 1) λv9=>opt (aD v9 H4) λv10=>opt (aA .lss v10 (.int .u8 1)) λv11=>gO v11 false (aB v1 1) H4 λv12 H5=>gO v11 false (aD v12 H5) H5 λv13 H6=>gO v11 false (aA .gtr v13 (.int .u8 7)) H6 λv14 H7=>opt (pick v11 (.bool true) v14) λv15=>ifB v15 (
 Q (vi 210) H7) (
 opt (aB v1 1) λv16=>opt (aD v16 H7) λv17=>opt (aA .neq v17 (.int .u8 7)) λv18=>gO v18 true (aB v1 2) H7 λv19 H8=>gO v18 true (aD v19 H8) H8 λv20 H9=>gO v18 true (aA .neq v20 (.int .u64 0)) H9 λv21 H10=>opt (pick v18 v21 (.bool false)) λv22=>ifB v22 (
 Q (vi 203) H10) (
 opt (aB v1 1) λv23=>opt (aD v23 H10) λv24=>opt (aA .eql v24 (.int .u8 7)) λv25=>gO v25 true (aB v1 2) H10 λv26 H11=>gO v25 true (aD v26 H11) H11 λv27 H12=>gO v25 true (aA .eql v27 (.int .u64 0)) H12 λv28 H13=>gV v25 true v28 H13 λv29 H14=>gO v29 false (aB v1 3) H14 λv30 H15=>gO v29 false (aD v30 H15) H15 λv31 H16=>gO v29 false (aB v1 2) H16 λv32 H17=>gO v29 false (aD v32 H17) H17 λv33 H18=>gO v29 false (aA .andNot v31 v33) H18 λv34 H19=>gO v29 false (aA .neq v34 (.int .u64 0)) H19 λv35 H20=>gO v25 true (pick v29 (.bool true) v35) H20 λv36 H21=>opt (pick v25 v36 (.bool false)) λv37=>ifB v37 (
 Q (vi 204) H21) (
 Q (vi 0) H21))))

def F.f90_l2:T6:=λE Q t34 t35 t36 H X0 =>
 opt (aA .lss t36 t35) λv1=>ifB v1 (
 opt (aI 1 t34 t36) λv2=>opt (aD v2 H) λv3=>opt (mA .eql v3 (.string ⟨#[]⟩)) λv4=>gV v4 false v3 H λv5 H1=>gO v4 false (mA .eql v5 (.string ⟨#[46]⟩)) H1 λv6 H2=>opt (pick v4 (.bool true) v6) λv7=>gV v7 false v3 H2 λv8 H3=>gO v7 false (mA .eql v8 (.string ⟨#[46,46]⟩)) H3 λv9 H4=>opt (pick v7 (.bool true) v9) λv10=>gV v10 false v3 H4 λv11 H5=>gO v10 false (fV v11) H5 λv12 H6=>gO v10 false (aA .gtr v12 (vi 14)) H6 λv13 H7=>opt (pick v10 (.bool true) v13) λv14=>ifB v14 (
 Q (.bool false) H7) (
 opt (aA .add t36 (vi 1)) λv15=>X0 [t34,t35,v15] H7)) (
 Q (.bool true) H)
def F.f90_l1:T6:=λE Q t0 t22 t23 H X0 =>
 opt (aA .lss t23 t22) λv1=>ifB v1 (
 opt (iY t0 t23) λv2=>E.call 106 [v2] H λv3 H1=>opt (un .not v3) λv4=>ifB v4 (
 Q (.bool false) H1) (
 opt (aA .add t23 (vi 1)) λv5=>X0 [t0,t22,v5] H1)) (
 opt (lN t0 (some (vi 1)) none) λv6=>E.call 107 [v6,(.string ⟨#[47]⟩)] H λv7 H2=>opt (lenSlc v7) λv8=>lp3 (F.f90_l2 E Q) [v7,v8,vi 0] H2)
def F.f90:T0:=λE x0 H Q =>
 opt (fV x0) λv1=>opt (aA .lss v1 (vi 1)) λv2=>gV v2 false x0 H λv3 H1=>gO v2 false (fV v3) H1 λv4 H2=>gO v2 false (aA .gtr v4 (vi 120)) H2 λv5 H3=>opt (pick v2 (.bool true) v5) λv6=>gV v6 false x0 H3 λv7 H4=>gO v6 false (iY v7 (vi 0)) H4 λv8 H5=>gO v6 false (aA .neq v8 (.int .u8 47)) H5 λv9 H6=>opt (pick v6 (.bool true) v9) λv10=>ifB v10 (
 Q (.bool false) H6) (
 opt (mA .eql x0 (.string ⟨#[47]⟩)) λv11=>ifB v11 (
 Q (.bool true) H6) (
 opt (fV x0) λv12=>lp3 (F.f90_l1 E Q) [x0,v12,vi 0] H6))

def F.f92:T8:=λE x0 x1 x2 H Q =>
 mk (eQ x0) H λv1 H1=>opt (aA .neq x1 (.int .u16 0)) λv2=>gO v2 true (aB v1 3) H1 λv3 H2=>gO v2 true (aD v3 H2) H2 λv4 H3=>gV v2 true x1 H3 λv5 H4=>gd v2 true (λk=>E.call 108 [v4,v5] H4 λv h=>k v h) H4 λv6 H5=>opt (pick v2 v6 (.bool false)) λv7=>gV v7 true x2 H5 λv8 H6=>gV v7 true x1 H6 λv9 H7=>gd v7 true (λk=>E.call 108 [v8,v9] H7 λv h=>k v h) H7 λv10 H8=>opt (pick v7 v10 (.bool false)) λv11=>Q v11 H8

def F.f18_j3:T9:=λE Q t0 t44 H =>
 ifB t44 (
 E.call 47 [t0] H λv1 H1=>opt (aA .eql v1 (.int .u16 5)) λv2=>Q v2 H1) (
 Q (.bool false) H)
def F.f18_j2:T9:=λE Q t0 t3 H =>
 opt (aA .or t3 (.int .u16 7)) λv1=>opt (aA .andNot t0 v1) λv2=>opt (aA .eql v2 (.int .u16 16)) λv3=>ifB v3 (
 F.f18_j3 E Q t0 v3 H) (
 opt (aA .eql v2 (.int .u16 32)) λv4=>ifB v4 (
 F.f18_j3 E Q t0 v4 H) (
 opt (aA .eql v2 (.int .u16 48)) λv5=>ifB v5 (
 F.f18_j3 E Q t0 v5 H) (
 opt (aA .eql v2 (.int .u16 64)) λv6=>F.f18_j3 E Q t0 v6 H)))
def F.f18_j4:T12:=λE Q t0 t3 t27 H =>
 ifB t27 (
 E.call 47 [t0] H λv1 H1=>opt (aA .eql v1 (.int .u16 4)) λv2=>ifB v2 (
 Q (.bool true) H1) (
 F.f18_j2 E Q t0 t3 H1)) (
 F.f18_j2 E Q t0 t3 H)
def F.f18_j1:T9:=λE Q t0 t5 H =>
 ifB t5 (
 Q (.bool true) H) (
 opt (aA .and t0 (.int .u16 8)) λv1=>opt (aA .or v1 (.int .u16 7)) λv2=>opt (aA .andNot t0 v2) λv3=>opt (aA .eql v3 (.int .u16 0)) λv4=>ifB v4 (
 F.f18_j4 E Q t0 v1 v4 H) (
 opt (aA .eql v3 (.int .u16 16)) λv5=>ifB v5 (
 F.f18_j4 E Q t0 v1 v5 H) (
 opt (aA .eql v3 (.int .u16 32)) λv6=>ifB v6 (
 F.f18_j4 E Q t0 v1 v6 H) (
 opt (aA .eql v3 (.int .u16 48)) λv7=>ifB v7 (
 F.f18_j4 E Q t0 v1 v7 H) (
 opt (aA .eql v3 (.int .u16 64)) λv8=>ifB v8 (
 F.f18_j4 E Q t0 v1 v8 H) (
 opt (aA .eql v3 (.int .u16 80)) λv9=>ifB v9 (
 F.f18_j4 E Q t0 v1 v9 H) (
 opt (aA .eql v3 (.int .u16 96)) λv10=>ifB v10 (
 F.f18_j4 E Q t0 v1 v10 H) (
 opt (aA .eql v3 (.int .u16 112)) λv11=>ifB v11 (
 F.f18_j4 E Q t0 v1 v11 H) (
 opt (aA .eql v3 (.int .u16 160)) λv12=>F.f18_j4 E Q t0 v1 v12 H)))))))))
def F.f18:T0:=λE x0 H Q =>
 opt (aA .eql x0 (.int .u16 32)) λv1=>ifB v1 (
 F.f18_j1 E Q x0 v1 H) (
 opt (aA .eql x0 (.int .u16 0)) λv2=>ifB v2 (
 F.f18_j1 E Q x0 v2 H) (
 opt (aA .eql x0 (.int .u16 96)) λv3=>ifB v3 (
 F.f18_j1 E Q x0 v3 H) (
 opt (aA .eql x0 (.int .u16 128)) λv4=>ifB v4 (
 F.f18_j1 E Q x0 v4 H) (
 opt (aA .eql x0 (.int .u16 1)) λv5=>ifB v5 (
 F.f18_j1 E Q x0 v5 H) (
 opt (aA .eql x0 (.int .u16 97)) λv6=>ifB v6 (
 F.f18_j1 E Q x0 v6 H) (
 opt (aA .eql x0 (.int .u16 129)) λv7=>ifB v7 (
 F.f18_j1 E Q x0 v7 H) (
 opt (aA .eql x0 (.int .u16 2)) λv8=>ifB v8 (
 F.f18_j1 E Q x0 v8 H) (
 opt (aA .eql x0 (.int .u16 3)) λv9=>ifB v9 (
 F.f18_j1 E Q x0 v9 H) (
 opt (aA .eql x0 (.int .u16 6)) λv10=>ifB v10 (
 F.f18_j1 E Q x0 v10 H) (
 opt (aA .eql x0 (.int .u16 22)) λv11=>ifB v11 (
 F.f18_j1 E Q x0 v11 H) (
 opt (aA .eql x0 (.int .u16 7)) λv12=>ifB v12 (
 F.f18_j1 E Q x0 v12 H) (
 opt (aA .eql x0 (.int .u16 135)) λv13=>ifB v13 (
 F.f18_j1 E Q x0 v13 H) (
 opt (aA .eql x0 (.int .u16 5)) λv14=>ifB v14 (
 F.f18_j1 E Q x0 v14 H) (
 opt (aA .eql x0 (.int .u16 132)) λv15=>F.f18_j1 E Q x0 v15 H))))))))))))))

def F.f16:T0:=λE x0 H Q =>
 opt (aA .and x0 (.int .u16 7)) λv1=>Q v1 H

def F.f4_j1(E:Sy)(Q:VK)(t4:Value)(H:AH):Prop :=
 ifB t4 (
 Q (.bool true) H) (
 Q (.bool false) H)
def F.f4:T0:=λE x0 H Q =>
 opt (aA .eql x0 (.int .u16 96)) λv1=>ifB v1 (
 F.f4_j1 E Q v1 H) (
 opt (aA .eql x0 (.int .u16 97)) λv2=>ifB v2 (
 F.f4_j1 E Q v2 H) (
 opt (aA .eql x0 (.int .u16 2)) λv3=>ifB v3 (
 F.f4_j1 E Q v3 H) (
 opt (aA .eql x0 (.int .u16 3)) λv4=>F.f4_j1 E Q v4 H)))

def F.f5:T1:=λE x0 x1 H Q =>
 mk (eQ x0) H λv1 H1=>opt (aE 4 v1 H1) λv2=>E.call 40 [v2] H1 λv3 H2=>ifB v3 (
 Q (.slice none 0 0) H2) (
 opt (aB v1 0) λv4=>opt (aD v4 H2) λv5=>opt (aA .eql v5 (.int .u16 5)) λv6=>ifB v6 (
 opt (aA .add x1 (vi 1)) λv7=>opt (aB v1 3) λv8=>opt (aD v8 H2) λv9=>opt (aS .i64 v9) λv10=>opt (aA .add v7 v10) λv11=>mk (bO 1 1 #[vi 0] [(0,v11)]) H2 λv12 H3=>Q v12 H3) (
 opt (aB v1 0) λv13=>opt (aD v13 H2) λv14=>E.call 47 [v14] H2 λv15 H4=>opt (aA .eql v15 (.int .u16 5)) λv16=>ifB v16 (
 opt (aA .add x1 (vi 1)) λv17=>opt (aB v1 1) λv18=>opt (aD v18 H4) λv19=>opt (aS .i64 v19) λv20=>opt (aA .add v17 v20) λv21=>opt (aA .add x1 (vi 1)) λv22=>opt (aB v1 2) λv23=>opt (aD v23 H4) λv24=>opt (aS .i64 v24) λv25=>opt (aA .add v22 v25) λv26=>mk (bO 2 1 #[vi 0] [(0,v21),(1,v26)]) H4 λv27 H5=>Q v27 H5) (
 opt (aA .add x1 (vi 1)) λv28=>mk (bO 1 1 #[vi 0] [(0,v28)]) H4 λv29 H6=>Q v29 H6)))

def F.f147:T1:=λE x0 x1 H Q =>
 mk (eQ x1) H λv1 H1=>opt (aB v1 0) λv2=>opt (aD v2 H1) λv3=>opt (aA .andNot v3 (.int .u16 7)) λv4=>opt (aA .eql v4 (.int .u16 32)) λv5=>ifB v5 (
 opt (aO x0) λv6=>opt (aB v6 19) λv7=>opt (aE 9 v7 H1) λv8=>opt (aB v1 3) λv9=>opt (aD v9 H1) λv10=>E.call 84 [v8,v10] H1 λv11 H2=>opt (ext v11 0) λv12=>opt (ext v11 1) λv13=>Q v12 H2) (
 opt (aA .eql v4 (.int .u16 96)) λv14=>ifB v14 (
 opt (aB v1 3) λv15=>opt (aD v15 H1) λv16=>opt (aA .rem v16 (.int .u32 16)) λv17=>opt (aO x0) λv18=>opt (aB v18 2) λv19=>opt (oQ 16 1 v19 v17) λv20=>opt (aD v20 H1) λv21=>Q v21 H1) (
 opt (aA .eql v4 (.int .u16 128)) λv22=>ifB v22 (
 Q (.int .u32 64) H1) (
 opt (aB v1 3) λv23=>opt (aD v23 H1) λv24=>Q v24 H1)))

def F.f149:T1:=λE x0 x1 H Q =>
 mk (eQ x1) H λv1 H1=>opt (aE 4 v1 H1) λv2=>E.call 85 [x0,v2] H1 λv3 H2=>opt (aB v1 0) λv4=>opt (aD v4 H2) λv5=>opt (aA .andNot v5 (.int .u16 15)) λv6=>opt (aA .eql v6 (.int .u16 0)) λv7=>ifB v7 (
 opt (aO x0) λv8=>opt (aB v8 0) λv9=>opt (aD v9 H2) λv10=>opt (aA .add v10 v3) λv11=>opt (aO x0) λv12=>opt (aB v12 0) λv13=>opt (bD v13 v11 H2) λH3=>Q (.tuple #[]) H3) (
 opt (aA .eql v6 (.int .u16 16)) λv14=>ifB v14 (
 opt (aO x0) λv15=>opt (aB v15 0) λv16=>opt (aD v16 H2) λv17=>opt (aA .sub v17 v3) λv18=>opt (aO x0) λv19=>opt (aB v19 0) λv20=>opt (bD v20 v18 H2) λH4=>Q (.tuple #[]) H4) (
 opt (aA .eql v6 (.int .u16 32)) λv21=>ifB v21 (
 opt (aO x0) λv22=>opt (aB v22 0) λv23=>opt (aD v23 H2) λv24=>opt (aA .mul v24 v3) λv25=>opt (aO x0) λv26=>opt (aB v26 0) λv27=>opt (bD v27 v25 H2) λH5=>Q (.tuple #[]) H5) (
 opt (aA .eql v6 (.int .u16 48)) λv28=>ifB v28 (
 opt (aA .eql v3 (.int .u32 0)) λv29=>ifB v29 (
 opt (aO x0) λv30=>opt (aB v30 29) λv31=>opt (bD v31 (.bool true) H2) λH6=>Q (.tuple #[]) H6) (
 opt (aO x0) λv32=>opt (aB v32 0) λv33=>opt (aD v33 H2) λv34=>opt (aA .quo v34 v3) λv35=>opt (aO x0) λv36=>opt (aB v36 0) λv37=>opt (bD v37 v35 H2) λH7=>Q (.tuple #[]) H7)) (
 opt (aA .eql v6 (.int .u16 64)) λv38=>ifB v38 (
 opt (aO x0) λv39=>opt (aB v39 0) λv40=>opt (aD v40 H2) λv41=>opt (aA .or v41 v3) λv42=>opt (aO x0) λv43=>opt (aB v43 0) λv44=>opt (bD v44 v42 H2) λH8=>Q (.tuple #[]) H8) (
 opt (aA .eql v6 (.int .u16 80)) λv45=>ifB v45 (
 opt (aO x0) λv46=>opt (aB v46 0) λv47=>opt (aD v47 H2) λv48=>opt (aA .and v48 v3) λv49=>opt (aO x0) λv50=>opt (aB v50 0) λv51=>opt (bD v51 v49 H2) λH9=>Q (.tuple #[]) H9) (
 opt (aA .eql v6 (.int .u16 160)) λv52=>ifB v52 (
 opt (aO x0) λv53=>opt (aB v53 0) λv54=>opt (aD v54 H2) λv55=>opt (aA .xor v55 v3) λv56=>opt (aO x0) λv57=>opt (aB v57 0) λv58=>opt (bD v58 v56 H2) λH10=>Q (.tuple #[]) H10) (
 opt (aA .eql v6 (.int .u16 96)) λv59=>ifB v59 (
 opt (aO x0) λv60=>opt (aB v60 0) λv61=>opt (aD v61 H2) λv62=>opt (aA .and v3 (.int .u32 31)) λv63=>opt (aA .shl v62 v63) λv64=>opt (aO x0) λv65=>opt (aB v65 0) λv66=>opt (bD v66 v64 H2) λH11=>Q (.tuple #[]) H11) (
 opt (aA .eql v6 (.int .u16 112)) λv67=>ifB v67 (
 opt (aO x0) λv68=>opt (aB v68 0) λv69=>opt (aD v69 H2) λv70=>opt (aA .and v3 (.int .u32 31)) λv71=>opt (aA .shr v70 v71) λv72=>opt (aO x0) λv73=>opt (aB v73 0) λv74=>opt (bD v74 v72 H2) λH12=>Q (.tuple #[]) H12) (
 opt (aA .eql v6 (.int .u16 128)) λv75=>ifB v75 (
 opt (aO x0) λv76=>opt (aB v76 0) λv77=>opt (aD v77 H2) λv78=>opt (un .neg v78) λv79=>opt (aO x0) λv80=>opt (aB v80 0) λv81=>opt (bD v81 v79 H2) λH13=>Q (.tuple #[]) H13) (
 Q (.tuple #[]) H2))))))))))

def F.f146_j1:T12:=λE Q t0 t3 t5 H =>
 ifB t5 (
 opt (aO t0) λv1=>opt (aB v1 18) λv2=>opt (aD v2 H) λv3=>opt (aB t3 1) λv4=>opt (aD v4 H) λv5=>opt (aS .i64 v5) λv6=>opt (aA .add v3 v6) λv7=>opt (aO t0) λv8=>opt (aB v8 18) λv9=>opt (bD v9 v7 H) λH1=>Q (.tuple #[]) H1) (
 opt (aO t0) λv10=>opt (aB v10 18) λv11=>opt (aD v11 H) λv12=>opt (aB t3 2) λv13=>opt (aD v13 H) λv14=>opt (aS .i64 v14) λv15=>opt (aA .add v12 v15) λv16=>opt (aO t0) λv17=>opt (aB v17 18) λv18=>opt (bD v18 v16 H) λH2=>Q (.tuple #[]) H2)
def F.f146:T1:=λE x0 x1 H Q =>
 mk (eQ x1) H λv1 H1=>opt (aE 4 v1 H1) λv2=>E.call 85 [x0,v2] H1 λv3 H2=>opt (aB v1 0) λv4=>opt (aD v4 H2) λv5=>opt (aA .andNot v5 (.int .u16 15)) λv6=>opt (aA .eql v6 (.int .u16 0)) λv7=>ifB v7 (
 opt (aO x0) λv8=>opt (aB v8 18) λv9=>opt (aD v9 H2) λv10=>opt (aB v1 3) λv11=>opt (aD v11 H2) λv12=>opt (aS .i64 v12) λv13=>opt (aA .add v10 v13) λv14=>opt (aO x0) λv15=>opt (aB v15 18) λv16=>opt (bD v16 v14 H2) λH3=>Q (.tuple #[]) H3) (
 opt (aA .eql v6 (.int .u16 16)) λv17=>ifB v17 (
 opt (aO x0) λv18=>opt (aB v18 0) λv19=>opt (aD v19 H2) λv20=>opt (aA .eql v20 v3) λv21=>F.f146_j1 E Q x0 v1 v21 H2) (
 opt (aA .eql v6 (.int .u16 32)) λv22=>ifB v22 (
 opt (aO x0) λv23=>opt (aB v23 0) λv24=>opt (aD v24 H2) λv25=>opt (aA .gtr v25 v3) λv26=>F.f146_j1 E Q x0 v1 v26 H2) (
 opt (aA .eql v6 (.int .u16 48)) λv27=>ifB v27 (
 opt (aO x0) λv28=>opt (aB v28 0) λv29=>opt (aD v29 H2) λv30=>opt (aA .geq v30 v3) λv31=>F.f146_j1 E Q x0 v1 v31 H2) (
 opt (aA .eql v6 (.int .u16 64)) λv32=>ifB v32 (
 opt (aO x0) λv33=>opt (aB v33 0) λv34=>opt (aD v34 H2) λv35=>opt (aA .and v35 v3) λv36=>opt (aA .neq v36 (.int .u32 0)) λv37=>F.f146_j1 E Q x0 v1 v37 H2) (
 F.f146_j1 E Q x0 v1 (.bool false) H2)))))

def F.f69:T1:=λE x0 x1 H Q =>
 mk (eQ x0) H λv1 H1=>mk (eQ x1) H1 λv2 H2=>opt (aB v1 0) λv3=>opt (aD v3 H2) λv4=>opt (aA .lss v4 (vi 0)) λv5=>gO v5 false (aB v1 0) H2 λv6 H3=>gO v5 false (aD v6 H3) H3 λv7 H4=>gO v5 false (aA .gtr v7 (vi 5)) H4 λv8 H5=>opt (pick v5 (.bool true) v8) λv9=>ifB v9 (
 Q (.bool false) H5) (
 opt (aB v1 0) λv10=>opt (aD v10 H5) λv11=>opt (aB v2 3) λv12=>opt (oQ 6 1 v12 v11) λv13=>opt (aD v13 H5) λv14=>opt (aB v1 1) λv15=>opt (aD v15 H5) λv16=>opt (aA .eql v16 (.int .u8 1)) λv17=>ifB v17 (
 opt (aB v1 3) λv18=>opt (aD v18 H5) λv19=>opt (aA .eql v14 v19) λv20=>Q v20 H5) (
 opt (aA .eql v16 (.int .u8 2)) λv21=>ifB v21 (
 opt (aB v1 3) λv22=>opt (aD v22 H5) λv23=>opt (aA .neq v14 v23) λv24=>Q v24 H5) (
 opt (aA .eql v16 (.int .u8 3)) λv25=>ifB v25 (
 opt (aB v1 3) λv26=>opt (aD v26 H5) λv27=>opt (aA .lss v14 v27) λv28=>Q v28 H5) (
 opt (aA .eql v16 (.int .u8 4)) λv29=>ifB v29 (
 opt (aB v1 3) λv30=>opt (aD v30 H5) λv31=>opt (aA .leq v14 v31) λv32=>Q v32 H5) (
 opt (aA .eql v16 (.int .u8 5)) λv33=>ifB v33 (
 opt (aB v1 3) λv34=>opt (aD v34 H5) λv35=>opt (aA .gtr v14 v35) λv36=>Q v36 H5) (
 opt (aA .eql v16 (.int .u8 6)) λv37=>ifB v37 (
 opt (aB v1 3) λv38=>opt (aD v38 H5) λv39=>opt (aA .geq v14 v39) λv40=>Q v40 H5) (
 opt (aA .eql v16 (.int .u8 7)) λv41=>ifB v41 (
 opt (aB v1 2) λv42=>opt (aD v42 H5) λv43=>opt (aA .and v14 v43) λv44=>opt (aB v1 3) λv45=>opt (aD v45 H5) λv46=>opt (aA .eql v44 v46) λv47=>Q v47 H5) (
 Q (.bool false) H5))))))))

def F.f98:T0:=λE x0 H Q =>
 E.call 72 [x0] H λv1 H1=>opt (aA .eql v1 (.int .u32 2147483648)) λv2=>ifB v2 (
 Q (vi 3) H1) (
 opt (aA .eql v1 (.int .u32 327680)) λv3=>ifB v3 (
 Q (vi 2) H1) (
 opt (aA .eql v1 (.int .u32 2147221504)) λv4=>ifB v4 (
 Q (vi 1) H1) (
 Q (vi 0) H1)))

def F.f108_l1:T5:=λE Q t0 t1 t2 t8 t9 t10 H X0 =>
 opt (aA .lss t9 t10) λv1=>ifB v1 (
 opt (aA .add t9 t10) λv2=>opt (aS .u64 v2) λv3=>opt (aA .shr v3 (.int .u64 1)) λv4=>opt (aS .i64 v4) λv5=>opt (aI 2 t0 v5) λv6=>opt (aE 2 v6 H) λv7=>fQ E.call t2 [v7,t1] H λv8 H1=>opt (aA .lss v8 (vi 0)) λv9=>ifB v9 (
 opt (aA .add v5 (vi 1)) λv10=>X0 [t0,t1,t2,t8,v10,t10] H1) (
 X0 [t0,t1,t2,t8,t9,v5] H1)) (
 opt (aA .lss t9 t8) λv11=>gV v11 true t2 H λv12 H2=>gV v11 true t0 H2 λv13 H3=>gV v11 true t9 H3 λv14 H4=>gO v11 true (aI 2 v13 v14) H4 λv15 H5=>gO v11 true (aE 2 v15 H5) H5 λv16 H6=>gV v11 true t1 H6 λv17 H7=>gd v11 true (λk=>fQ E.call v12 [v16,v17] H7 λv h=>k v h) H7 λv18 H8=>gO v11 true (aA .eql v18 (vi 0)) H8 λv19 H9=>opt (pick v11 v19 (.bool false)) λv20=>Q (.tuple #[t9,v20]) H9)
def F.f108:T8:=λE x0 x1 x2 H Q =>
 opt (lenSlc x0) λv1=>lp6 (F.f108_l1 E Q) [x0,x1,x2,v1,vi 0,v1] H

def F.f34:T1:=λE x0 x1 H Q =>
 mk (eQ x0) H λv1 H1=>opt (aB v1 0) λv2=>opt (aD v2 H1) λv3=>E.call 69 [v3,x1] H1 λv4 H2=>Q v4 H2

def F.f130_l3:T15:=λE Q X0 t0 t1 t2 t6 t7 t8 H X1 =>
 opt (aA .leq t8 t1) λv1=>ifB v1 (
 opt (aA .add t7 t6) λv2=>E.call 116 [t0,t7,v2,t8,t2] H λv3 H1=>opt (aA .mul (vi 2) t6) λv4=>opt (aA .add t8 v4) λv5=>X1 [t0,t1,t2,t6,t8,v5] H1) (
 opt (aA .add t7 t6) λv6=>opt (aA .lss v6 t1) λv7=>ifB v7 (
 E.call 116 [t0,t7,v6,t1,t2] H λv8 H2=>opt (aA .mul t6 (vi 2)) λv9=>X0 [t0,t1,t2,v9] H2) (
 opt (aA .mul t6 (vi 2)) λv10=>X0 [t0,t1,t2,v10] H))
def F.f130_l2:T3:=λE Q t0 t1 t2 t6 H X0 =>
 opt (aA .lss t6 t1) λv1=>ifB v1 (
 opt (aA .mul (vi 2) t6) λv2=>lp6 (F.f130_l3 E Q X0) [t0,t1,t2,t6,vi 0,v2] H) (
 Q (.tuple #[]) H)
def F.f130_l1:T5:=λE Q t0 t1 t2 t6 t7 t8 H X0 =>
 opt (aA .leq t8 t1) λv1=>ifB v1 (
 E.call 115 [t0,t7,t8,t2] H λv2 H1=>opt (aA .add t8 t6) λv3=>X0 [t0,t1,t2,t6,t8,v3] H1) (
 E.call 115 [t0,t7,t1,t2] H λv4 H2=>lp4 (F.f130_l2 E Q) [t0,t1,t2,t6] H2)
def F.f130:T8:=λE x0 x1 x2 H Q =>
 lp6 (F.f130_l1 E Q) [x0,x1,x2,vi 20,vi 0,vi 20] H

def F.f38:T0:=λE x0 H Q =>
 opt (aD5 1 #[(.int .u32 0),(.int .u32 0),(.int .u32 0),(.int .u32 0)] [(0,(.int .u32 2147483648)),(1,(.int .u32 327680)),(2,(.int .u32 2147221504)),(3,(.int .u32 2147418112))]) λv1=>bI [(.int .u32 0),(.int .u32 0),(.int .u32 0),(.int .u32 0)] H λv2 H1=>opt (aH 4 v2 v1 H1) λH2=>opt (oZ 4 1 v2 none none none) λv3=>E.call 72 [x0] H2 λv4 H3=>E.call 93 [v3,v4] H3 λv5 H4=>Q v5 H4

def F.f6:T1:=λE x0 x1 H Q =>
 E.call 92 [x0] H λv1 H1=>E.call 92 [x1] H1 λv2 H2=>ifB v1 (
 ifB v2 (
 Q (vi 0) H2) (
 Q (.int .i64 (-1)) H2)) (
 ifB v2 (
 Q (vi 1) H2) (
 opt (aA .lss x0 x1) λv3=>ifB v3 (
 Q (.int .i64 (-1)) H2) (
 opt (aA .gtr x0 x1) λv4=>ifB v4 (
 Q (vi 1) H2) (
 Q (vi 0) H2))))

def F.f39_l1:T3:=λE Q t3 t6 t7 t8 H X0 =>
 opt (aA .lss t8 t7) λv1=>ifB v1 (
 opt (aI 4 t6 t8) λv2=>opt (aE 4 v2 H) λv3=>bI [vi 0,(.int .u8 0),(.int .u64 0),(.int .u64 0)] H λv4 H1=>opt (aH 4 v4 v3 H1) λH2=>opt (aE 4 v4 H2) λv5=>E.call 117 [v5] H2 λv6 H3=>opt (un .not v6) λv7=>gV v7 true t3 H3 λv8 H4=>gO v7 true (aE 4 v4 H4) H4 λv9 H5=>gd v7 true (λk=>E.call 118 [v8,v9] H5 λv h=>k v h) H5 λv10 H6=>gO v7 true (un .not v10) H6 λv11 H7=>opt (pick v7 v11 (.bool false)) λv12=>ifB v12 (
 opt (aE 4 v4 H7) λv13=>mk (bO 1 4 #[vi 0,(.int .u8 0),(.int .u64 0),(.int .u64 0)] [(0,v13)]) H7 λv14 H8=>gN (app 4 32 t3 v14 H8) λv15 H9=>opt (aA .add t8 (vi 1)) λv16=>X0 [v15,t6,t7,v16] H9) (
 opt (aA .add t8 (vi 1)) λv17=>X0 [t3,t6,t7,v17] H7)) (
 Q t3 H)
def F.f39:T0:=λE x0 H Q =>
 opt (lenSlc x0) λv1=>lp4 (F.f39_l1 E Q) [(.slice none 0 0),x0,v1,vi 0] H

def F.f37_l2:T23:=λE Q X0 t0 t4 t7 t8 t9 t33 t34 t35 H X1 =>
 opt (aA .lss t35 t34) λv1=>ifB v1 (
 opt (aI 4 t33 t35) λv2=>opt (aE 4 v2 H) λv3=>bI [vi 0,(.int .u8 0),(.int .u64 0),(.int .u64 0)] H λv4 H1=>opt (aH 4 v4 v3 H1) λH2=>opt (aB t4 0) λv5=>opt (aD v5 H2) λv6=>opt (aB v4 0) λv7=>opt (aD v7 H2) λv8=>opt (aA .eql v6 v8) λv9=>gO v9 true (aB t4 1) H2 λv10 H3=>gO v9 true (aD v10 H3) H3 λv11 H4=>gO v9 true (aA .eql v11 (.int .u8 1)) H4 λv12 H5=>opt (pick v9 v12 (.bool false)) λv13=>gO v13 true (aB v4 1) H5 λv14 H6=>gO v13 true (aD v14 H6) H6 λv15 H7=>gO v13 true (aA .eql v15 (.int .u8 1)) H7 λv16 H8=>opt (pick v13 v16 (.bool false)) λv17=>gO v17 true (aB t4 3) H8 λv18 H9=>gO v17 true (aD v18 H9) H9 λv19 H10=>gO v17 true (aB v4 3) H10 λv20 H11=>gO v17 true (aD v20 H11) H11 λv21 H12=>gO v17 true (aA .neq v19 v21) H12 λv22 H13=>opt (pick v17 v22 (.bool false)) λv23=>ifB v23 (
 Q (.bool true) H13) (
 opt (aA .add t35 (vi 1)) λv24=>X1 [t0,t4,t7,t8,t9,t33,t34,v24] H13)) (
 opt (aA .add t9 (vi 1)) λv25=>X0 [t0,t7,t8,v25] H)
def F.f37_j1:T19:=λE Q X0 t0 t3 t4 t7 t8 t9 t14 H =>
 ifB t14 (
 Q (.bool true) H) (
 opt (kV 4 t0 none (some t3) none H) λv1=>opt (lenSlc v1) λv2=>lp8 (F.f37_l2 E Q X0) [t0,t4,t7,t8,t9,v1,v2,vi 0] H)
def F.f37_l1:T3:=λE Q t0 t7 t8 t9 H X0 =>
 opt (aA .lss t9 t8) λv1=>ifB v1 (
 opt (aI 4 t7 t9) λv2=>opt (aE 4 v2 H) λv3=>bI [vi 0,(.int .u8 0),(.int .u64 0),(.int .u64 0)] H λv4 H1=>opt (aH 4 v4 v3 H1) λH2=>opt (aB v4 1) λv5=>opt (aD v5 H2) λv6=>opt (aA .eql v6 (.int .u8 3)) λv7=>gO v7 true (aB v4 3) H2 λv8 H3=>gO v7 true (aD v8 H3) H3 λv9 H4=>gO v7 true (aA .eql v9 (.int .u64 0)) H4 λv10 H5=>opt (pick v7 v10 (.bool false)) λv11=>ifB v11 (
 F.f37_j1 E Q X0 t0 t9 v4 t7 t8 t9 v11 H5) (
 opt (aB v4 1) λv12=>opt (aD v12 H5) λv13=>opt (aA .eql v13 (.int .u8 5)) λv14=>gO v14 true (aB v4 3) H5 λv15 H6=>gO v14 true (aD v15 H6) H6 λv16 H7=>gO v14 true (aA .eql v16 (.int .u64 18446744073709551615)) H7 λv17 H8=>opt (pick v14 v17 (.bool false)) λv18=>F.f37_j1 E Q X0 t0 t9 v4 t7 t8 t9 v18 H8)) (
 Q (.bool false) H)
def F.f37:T0:=λE x0 H Q =>
 opt (lenSlc x0) λv1=>lp4 (F.f37_l1 E Q) [x0,x0,v1,vi 0] H

def F.f66:T0:=λE x0 H Q =>
 ifB (.bool false) (
 opt (aS .u32 x0) λv1=>E.call 127 [v1] H λv2 H1=>Q v2 H1) (
 E.call 128 [x0] H λv3 H2=>Q v3 H2)

def F.f126_j3:T18:=λE Q X0 t0 t1 t2 t3 t4 t10 t11 t12 t13 H =>
 opt (aA .gtr t1 (vi 0)) λv1=>gV v1 true t4 H λv2 H1=>gV v1 true t0 H1 λv3 H2=>gV v1 true t1 H2 λv4 H3=>gO v1 true (aA .sub v4 (vi 1)) H3 λv5 H4=>gO v1 true (aI 2 v3 v5) H4 λv6 H5=>gO v1 true (aE 2 v6 H5) H5 λv7 H6=>gV v1 true t0 H6 λv8 H7=>gV v1 true t13 H7 λv9 H8=>gO v1 true (aI 2 v8 v9) H8 λv10 H9=>gO v1 true (aE 2 v10 H9) H9 λv11 H10=>gd v1 true (λk=>fQ E.call v2 [v7,v11] H10 λv h=>k v h) H10 λv12 H11=>gO v1 true (aA .lss v12 (vi 0)) H11 λv13 H12=>gO v1 true (un .not v13) H12 λv14 H13=>opt (pick v1 v14 (.bool false)) λv15=>ifB v15 (
 E.call 125 [t0,t1,t2,t13,t4] H13 λv16 H14=>X0 [t0,v16,t2,t3,t4,t10,t11] H14) (
 E.call 126 [t0,t1,t2,t13,t4] H13 λv17 H15=>opt (ext v17 0) λv18=>opt (ext v17 1) λv19=>opt (aA .sub v18 t1) λv20=>opt (aA .sub t2 v18) λv21=>opt (aA .quo t12 (vi 8)) λv22=>opt (aA .lss v20 v21) λv23=>ifB v23 (
 opt (aA .geq v20 v22) λv24=>E.call 96 [t0,t1,v18,t3,t4] H15 λv25 H16=>opt (aA .add v18 (vi 1)) λv26=>X0 [t0,v26,t2,t3,t4,v24,v19] H16) (
 opt (aA .geq v21 v22) λv27=>opt (aA .add v18 (vi 1)) λv28=>E.call 96 [t0,v28,t2,t3,t4] H15 λv29 H17=>X0 [t0,t1,v18,t3,t4,v27,v19] H17))
def F.f126_j2:T25:=λE Q X0 t0 t1 t2 t3 t4 t10 t11 t12 t13 t14 H =>
 gV t10 true t11 H λv1 H1=>opt (pick t10 v1 (.bool false)) λv2=>gV v2 true t14 H1 λv3 H2=>gO v2 true (aA .eql v3 (vi 1)) H2 λv4 H3=>opt (pick v2 v4 (.bool false)) λv5=>ifB v5 (
 E.call 124 [t0,t1,t2,t4] H3 λv6 H4=>ifB v6 (
 Q (.tuple #[]) H4) (
 F.f126_j3 E Q X0 t0 t1 t2 t3 t4 t10 t11 t12 t13 H4)) (
 F.f126_j3 E Q X0 t0 t1 t2 t3 t4 t10 t11 t12 t13 H3)
def F.f126_j1:T14:=λE Q X0 t0 t1 t2 t3 t4 t10 t11 t12 H =>
 E.call 122 [t0,t1,t2,t4] H λv1 H1=>opt (ext v1 0) λv2=>opt (ext v1 1) λv3=>opt (aA .eql v3 (vi 2)) λv4=>ifB v4 (
 E.call 123 [t0,t1,t2,t4] H1 λv5 H2=>opt (aA .sub t2 (vi 1)) λv6=>opt (aA .sub v2 t1) λv7=>opt (aA .sub v6 v7) λv8=>F.f126_j2 E Q X0 t0 t1 t2 t3 t4 t10 t11 t12 v8 (vi 1) H2) (
 F.f126_j2 E Q X0 t0 t1 t2 t3 t4 t10 t11 t12 v2 v3 H1)
def F.f126_l1:T11:=λE Q t0 t1 t2 t3 t4 t10 t11 H X0 =>
 opt (aA .sub t2 t1) λv1=>opt (aA .leq v1 (vi 12)) λv2=>ifB v2 (
 E.call 119 [t0,t1,t2,t4] H λv3 H1=>Q (.tuple #[]) H1) (
 opt (aA .eql t3 (vi 0)) λv4=>ifB v4 (
 E.call 120 [t0,t1,t2,t4] H λv5 H2=>Q (.tuple #[]) H2) (
 opt (un .not t10) λv6=>ifB v6 (
 E.call 121 [t0,t1,t2,t4] H λv7 H3=>opt (aA .sub t3 (vi 1)) λv8=>F.f126_j1 E Q X0 t0 t1 t2 v8 t4 t10 t11 v1 H3) (
 F.f126_j1 E Q X0 t0 t1 t2 t3 t4 t10 t11 v1 H)))
def F.f126:T7:=λE x0 x1 x2 x3 x4 H Q =>
 lp7 (F.f126_l1 E Q) [x0,x1,x2,x3,x4,(.bool true),(.bool true)] H

def F.f7:T1:=λE x0 x1 H Q =>
 E.call 98 [x0] H λv1 H1=>E.call 98 [x1] H1 λv2 H2=>ifB v1 (
 ifB v2 (
 Q (vi 0) H2) (
 Q (.int .i64 (-1)) H2)) (
 ifB v2 (
 Q (vi 1) H2) (
 opt (aA .lss x0 x1) λv3=>ifB v3 (
 Q (.int .i64 (-1)) H2) (
 opt (aA .gtr x0 x1) λv4=>ifB v4 (
 Q (vi 1) H2) (
 Q (vi 0) H2))))

def F.f46:T1:=λE x0 x1 H Q =>
 mk (eQ x1) H λv1 H1=>opt (eW iU .neq x0 (.pointer none)) λv2=>ifB v2 (
 opt (aO x0) λv3=>opt (aB v3 0) λv4=>opt (aD v4 H1) λv5=>opt (aE 7 v1 H1) λv6=>mk (bO 1 7 #[(.int .u8 0),vi 0,vi 0,(.int .u16 0),(.int .u8 0),(.int .u8 0),(.int .u32 0)] [(0,v6)]) H1 λv7 H2=>gN (app 7 32 v5 v7 H2) λv8 H3=>opt (aO x0) λv9=>opt (aB v9 0) λv10=>opt (bD v10 v8 H3) λH4=>Q (.tuple #[]) H4) (
 Q (.tuple #[]) H1)

def F.f17:T4:=λE x0 x1 x2 x3 H Q =>
 bI [(.int .u16 0),(.int .u8 0),(.int .u8 0),(.int .u32 0)] H λv1 H1=>opt (aA .or (.int .u16 5) x0) λv2=>opt (aA .or v2 (.int .u16 0)) λv3=>opt (aK [(0,1),(1,1),(2,1),(3,1)] #[(.int .u16 0),(.int .u8 0),(.int .u8 0),(.int .u32 0)] [(0,v3),(1,x2),(2,x3),(3,x1)]) λv4=>opt (aH 4 v1 v4 H1) λH2=>opt (aE 4 v1 H2) λv5=>Q v5 H2

def F.f40:T1:=λE x0 x1 H Q =>
 opt (aK [(0,1),(1,1),(2,1),(3,4)] #[(.int .u8 0),vi 0,vi 0,(.int .u16 0),(.int .u8 0),(.int .u8 0),(.int .u32 0)] [(0,(.int .u8 4)),(1,x1)]) λv1=>E.call 86 [x0,v1] H λv2 H1=>Q (.tuple #[]) H1

def F.f62:T4:=λE x0 x1 x2 x3 H Q =>
 mk (eQ x1) H λv1 H1=>opt (aB v1 3) λv2=>opt (aD v2 H1) λv3=>opt (aA .shr v3 (.int .u64 32)) λv4=>opt (aS .u32 v4) λv5=>opt (aB v1 3) λv6=>opt (aD v6 H1) λv7=>opt (aS .u32 v7) λv8=>opt (aO x0) λv9=>opt (aB v9 0) λv10=>E.call 53 [v10] H1 λv11 H2=>opt (aO x0) λv12=>opt (aB v12 0) λv13=>opt (aB v1 0) λv14=>opt (aD v14 H2) λv15=>E.call 111 [v15,(.bool true)] H2 λv16 H3=>E.call 55 [v16] H3 λv17 H4=>E.call 54 [v13,v17] H4 λv18 H5=>opt (aB v1 1) λv19=>opt (aD v19 H5) λv20=>opt (aA .eql v20 (.int .u8 1)) λv21=>ifB v21 (
 opt (aO x0) λv22=>opt (aB v22 0) λv23=>E.call 56 [v23,(.int .u16 16),v5,v11,x3] H5 λv24 H6=>opt (aE 4 v1 H6) λv25=>E.call 112 [x0,v25,v11] H6 λv26 H7=>opt (aO x0) λv27=>opt (aB v27 0) λv28=>E.call 56 [v28,(.int .u16 16),v8,x2,x3] H7 λv29 H8=>Q (.tuple #[]) H8) (
 opt (aA .eql v20 (.int .u8 2)) λv30=>ifB v30 (
 opt (aO x0) λv31=>opt (aB v31 0) λv32=>E.call 56 [v32,(.int .u16 16),v5,v11,x2] H5 λv33 H9=>opt (aE 4 v1 H9) λv34=>E.call 112 [x0,v34,v11] H9 λv35 H10=>opt (aO x0) λv36=>opt (aB v36 0) λv37=>E.call 56 [v37,(.int .u16 16),v8,x3,x2] H10 λv38 H11=>Q (.tuple #[]) H11) (
 opt (aA .eql v20 (.int .u8 5)) λv39=>ifB v39 (
 opt (aE 4 v1 H5) λv40=>E.call 113 [x0,v40,(.int .u16 32),x2,x3] H5 λv41 H12=>Q (.tuple #[]) H12) (
 opt (aA .eql v20 (.int .u8 6)) λv42=>ifB v42 (
 opt (aE 4 v1 H5) λv43=>E.call 113 [x0,v43,(.int .u16 48),x2,x3] H5 λv44 H13=>Q (.tuple #[]) H13) (
 opt (aA .eql v20 (.int .u8 3)) λv45=>ifB v45 (
 opt (aE 4 v1 H5) λv46=>E.call 113 [x0,v46,(.int .u16 48),x3,x2] H5 λv47 H14=>Q (.tuple #[]) H14) (
 opt (aA .eql v20 (.int .u8 4)) λv48=>ifB v48 (
 opt (aE 4 v1 H5) λv49=>E.call 113 [x0,v49,(.int .u16 32),x3,x2] H5 λv50 H15=>Q (.tuple #[]) H15) (
 opt (aA .eql v20 (.int .u8 7)) λv51=>ifB v51 (
 opt (aO x0) λv52=>opt (aB v52 0) λv53=>opt (aB v1 2) λv54=>opt (aD v54 H5) λv55=>opt (aA .shr v55 (.int .u64 32)) λv56=>opt (aS .u32 v56) λv57=>E.call 114 [v57] H5 λv58 H16=>E.call 54 [v53,v58] H16 λv59 H17=>opt (aO x0) λv60=>opt (aB v60 0) λv61=>E.call 56 [v61,(.int .u16 16),v5,v11,x3] H17 λv62 H18=>opt (aE 4 v1 H18) λv63=>E.call 112 [x0,v63,v11] H18 λv64 H19=>opt (aO x0) λv65=>opt (aB v65 0) λv66=>opt (aB v1 2) λv67=>opt (aD v67 H19) λv68=>opt (aS .u32 v68) λv69=>E.call 114 [v69] H19 λv70 H20=>E.call 54 [v66,v70] H20 λv71 H21=>opt (aO x0) λv72=>opt (aB v72 0) λv73=>E.call 56 [v73,(.int .u16 16),v8,x2,x3] H21 λv74 H22=>Q (.tuple #[]) H22) (
 opt (aO x0) λv75=>opt (aB v75 0) λv76=>E.call 88 [v76,x3] H5 λv77 H23=>Q (.tuple #[]) H23)))))))

def F.f21:T0:=λE x0 H Q =>
 bI [(.int .u16 0),(.int .u8 0),(.int .u8 0),(.int .u32 0)] H λv1 H1=>opt (aK [(0,1),(1,1),(2,1),(3,1)] #[(.int .u16 0),(.int .u8 0),(.int .u8 0),(.int .u32 0)] [(0,(.int .u16 6)),(3,x0)]) λv2=>opt (aH 4 v1 v2 H1) λH2=>opt (aE 4 v1 H2) λv3=>Q v3 H2

def F.f56_l2:T20:=λE Q X0 t0 t3 t5 t6 t8 t9 t10 H X1 =>
 opt (lenSlc t0) λv1=>opt (aA .lss t6 v1) λv2=>gV v2 true t0 H λv3 H1=>gV v2 true t6 H1 λv4 H2=>gO v2 true (aI 7 v3 v4) H2 λv5 H3=>gO v2 true (aB v5 0) H3 λv6 H4=>gO v2 true (aD v6 H4) H4 λv7 H5=>gO v2 true (aA .eql v7 (.int .u8 1)) H5 λv8 H6=>opt (pick v2 v8 (.bool false)) λv9=>ifB v9 (
 opt (aA .add t6 (vi 1)) λv10=>X1 [t0,t3,t5,v10,t8,t9,t10] H6) (
 opt (lenSlc t0) λv11=>opt (aA .lss t6 v11) λv12=>gV v12 true t0 H6 λv13 H7=>gV v12 true t6 H7 λv14 H8=>gO v12 true (aI 7 v13 v14) H8 λv15 H9=>gO v12 true (aB v15 0) H9 λv16 H10=>gO v12 true (aD v16 H10) H10 λv17 H11=>gO v12 true (aA .eql v17 (.int .u8 4)) H11 λv18 H12=>opt (pick v12 v18 (.bool false)) λv19=>ifB v19 (
 opt (aB t5 1) λv20=>opt (aD v20 H12) λv21=>opt (aI 7 t0 t6) λv22=>opt (aB v22 1) λv23=>opt (aD v23 H12) λv24=>opt (eO 0 t3 v21 v24 H12) λH13=>opt (aA .add t10 (vi 1)) λv25=>X0 [t0,t3,t8,t9,v25] H13) (
 opt (aA .add t10 (vi 1)) λv26=>X0 [t0,t3,t8,t9,v26] H12))
def F.f56_l1:T2:=λE Q t0 t3 t8 t9 t10 H X0 =>
 opt (aA .lss t10 t9) λv1=>ifB v1 (
 opt (aI 7 t8 t10) λv2=>opt (aE 7 v2 H) λv3=>bI [(.int .u8 0),vi 0,vi 0,(.int .u16 0),(.int .u8 0),(.int .u8 0),(.int .u32 0)] H λv4 H1=>opt (aH 7 v4 v3 H1) λH2=>opt (aB v4 0) λv5=>opt (aD v5 H2) λv6=>opt (aA .neq v6 (.int .u8 1)) λv7=>ifB v7 (
 opt (aA .add t10 (vi 1)) λv8=>X0 [t0,t3,t8,t9,v8] H2) (
 lp7 (F.f56_l2 E Q X0) [t0,t3,v4,t10,t8,t9,t10] H2)) (
 Q t3 H)
def F.f56:T0:=λE x0 H Q =>
 pD H λv1 H1=>opt (lenSlc x0) λv2=>lp5 (F.f56_l1 E Q) [x0,v1,x0,v2,vi 0] H1

def F.f49_l1:T3:=λE Q t0 t1 t8 t9 H X0 =>
 opt (aA .lss t9 t8) λv1=>ifB v1 (
 opt (look 0 (vi 0) true t0 t1 H) λv2=>opt (ext v2 0) λv3=>opt (ext v2 1) λv4=>opt (un .not v4) λv5=>ifB v5 (
 Q t1 H) (
 opt (aA .add t9 (vi 1)) λv6=>X0 [t0,v3,t8,v6] H)) (
 Q t1 H)
def F.f49:T1:=λE x0 x1 H Q =>
 opt (wF x0 H) λv1=>lp4 (F.f49_l1 E Q) [x0,x1,v1,vi 0] H

def F.f50_l1:T3:=λE Q t1 t7 t8 t9 H X0 =>
 opt (aA .lss t9 t8) λv1=>ifB v1 (
 opt (aI 7 t7 t9) λv2=>opt (aE 7 v2 H) λv3=>bI [(.int .u8 0),vi 0,vi 0,(.int .u16 0),(.int .u8 0),(.int .u8 0),(.int .u32 0)] H λv4 H1=>opt (aH 7 v4 v3 H1) λH2=>opt (aB v4 0) λv5=>opt (aD v5 H2) λv6=>opt (aA .neq v6 (.int .u8 1)) λv7=>ifB v7 (
 Q (.bool false) H2) (
 opt (aB v4 1) λv8=>opt (aD v8 H2) λv9=>opt (aA .eql v9 t1) λv10=>ifB v10 (
 Q (.bool true) H2) (
 opt (aA .add t9 (vi 1)) λv11=>X0 [t1,t7,t8,v11] H2))) (
 Q (.bool false) H)
def F.f50:T1:=λE x0 x1 H Q =>
 opt (lenSlc x0) λv1=>lp4 (F.f50_l1 E Q) [x1,x0,v1,vi 0] H

def F.f51:T1:=λE x0 x1 H Q =>
 opt (aO x0) λv1=>opt (aB v1 1) λv2=>opt (aD v2 H) λv3=>opt (look 0 (vi 0) true v3 x1 H) λv4=>opt (ext v4 0) λv5=>opt (ext v4 1) λv6=>opt (aO x0) λv7=>opt (aB v7 0) λv8=>opt (aD v8 H) λv9=>opt (lenSlc v9) λv10=>opt (aA .sub v10 v5) λv11=>Q (.tuple #[v11,v6]) H

def F.f53:T1:=λE x0 x1 H Q =>
 opt (aO x0) λv1=>opt (aB v1 0) λv2=>opt (aD v2 H) λv3=>opt (aS .u32 x1) λv4=>E.call 129 [v4] H λv5 H1=>aD v2 H1=aD v2 H /\
 mk (bO 1 4 #[(.int .u16 0),(.int .u8 0),(.int .u8 0),(.int .u32 0)] [(0,v5)]) H1 λv6 H2=>gN (app 4 8 v3 v6 H2) λv7 H3=>opt (aO x0) λv8=>opt (aB v8 0) λv9=>opt (bD v9 v7 H3) λH4=>Q (.tuple #[]) H4

def F.f52_j2:T21:=λE Q t0 t3 t5 t7 H =>
 opt (aB t3 3) λv1=>opt (aE 4 v1 H) λv2=>bI [(.int .u16 0),(.int .u8 0),(.int .u8 0),(.int .u32 0)] H λv3 H1=>opt (aH 4 v3 v2 H1) λH2=>opt (aS .u8 t5) λv4=>opt (aS .u8 t7) λv5=>opt (aB v3 1) λv6=>opt (bD v6 v4 H2) λH3=>opt (aB v3 2) λv7=>opt (bD v7 v5 H3) λH4=>opt (aO t0) λv8=>opt (aB v8 0) λv9=>opt (aD v9 H4) λv10=>opt (aE 4 v3 H4) λv11=>mk (bO 1 4 #[(.int .u16 0),(.int .u8 0),(.int .u8 0),(.int .u32 0)] [(0,v11)]) H4 λv12 H5=>gN (app 4 8 v10 v12 H5) λv13 H6=>opt (aO t0) λv14=>opt (aB v14 0) λv15=>opt (bD v15 v13 H6) λH7=>Q (vi 0) H7
def F.f52_j1:T21:=λE Q t0 t3 t5 t7 H =>
 opt (aA .gtr t5 (vi 253)) λv1=>ifB v1 (
 E.call 100 [t0,t5] H λv2 H1=>opt (aA .add t7 (vi 1)) λv3=>F.f52_j2 E Q t0 t3 (vi 0) v3 H1) (
 F.f52_j2 E Q t0 t3 t5 t7 H)
def F.f52:T1:=λE x0 x1 H Q =>
 mk (eQ x1) H λv1 H1=>opt (aB v1 1) λv2=>opt (aD v2 H1) λv3=>E.call 99 [x0,v3] H1 λv4 H2=>opt (ext v4 0) λv5=>opt (ext v4 1) λv6=>opt (aB v1 2) λv7=>opt (aD v7 H2) λv8=>E.call 99 [x0,v8] H2 λv9 H3=>opt (ext v9 0) λv10=>opt (ext v9 1) λv11=>opt (aB v1 3) λv12=>opt (aB v12 0) λv13=>opt (aD v13 H3) λv14=>E.call 47 [v14] H3 λv15 H4=>opt (aA .neq v15 (.int .u16 5)) λv16=>gO v16 false (aB v1 3) H4 λv17 H5=>gO v16 false (aB v17 0) H5 λv18 H6=>gO v16 false (aD v18 H6) H6 λv19 H7=>gO v16 false (aA .eql v19 (.int .u16 5)) H7 λv20 H8=>opt (pick v16 (.bool true) v20) λv21=>ifB v21 (
 Q (vi 210) H8) (
 opt (un .not v6) λv22=>gV v22 false v11 H8 λv23 H9=>gO v22 false (un .not v23) H9 λv24 H10=>opt (pick v22 (.bool true) v24) λv25=>ifB v25 (
 Q (vi 207) H10) (
 opt (aA .gtr v10 (vi 253)) λv26=>ifB v26 (
 E.call 100 [x0,v10] H10 λv27 H11=>opt (aA .add v5 (vi 1)) λv28=>F.f52_j1 E Q x0 v1 v28 (vi 0) H11) (
 F.f52_j1 E Q x0 v1 v5 v10 H10)))

def F.f74:T0:=λE x0 H Q =>
 opt (eW iU .eql x0 (.pointer none)) λv1=>ifB v1 (
 Q (.bool false) H) (
 opt (aO x0) λv2=>opt (aB v2 0) λv3=>opt (some (.func (.func 131) #[x0] #[])) λv4=>E.call 130 [v3,v4] H λv5 H1=>opt (aO x0) λv6=>opt (aB v6 5) λv7=>E.call 27 [v7,vi 1] H1 λv8 H2=>Q (.bool true) H2)

def F.f57:T0:=λE x0 H Q =>
 opt (aA .gtr x0 (.int .u8 32)) λv1=>gV v1 true x0 H λv2 H1=>gO v1 true (aA .lss v2 (.int .u8 127)) H1 λv3 H2=>opt (pick v1 v3 (.bool false)) λv4=>gV v4 true x0 H2 λv5 H3=>gO v4 true (aA .neq v5 (.int .u8 35)) H3 λv6 H4=>opt (pick v4 v6 (.bool false)) λv7=>Q v7 H4

def F.f136:T1:=λE x0 x1 H Q =>
 E.call 132 [x0,x1,vi 0,(.int .i64 (-1))] H λv1 H1=>Q v1 H1

def F.f106:T1:=λE x0 x1 H Q =>
 opt (aA .andNot x1 x0) λv1=>opt (aA .eql v1 (.int .u16 0)) λv2=>Q v2 H

def F.f102:T1:=λE x0 x1 H Q =>
 mk (eQ x0) H λv1 H1=>opt (aA .rem x1 (.int .u32 4)) λv2=>opt (aA .neq v2 (.int .u32 0)) λv3=>gV v3 false x1 H1 λv4 H2=>gO v3 false (aA .gtr v4 (.int .u32 60)) H2 λv5 H3=>opt (pick v3 (.bool true) v5) λv6=>ifB v6 (
 Q (.tuple #[(.int .u32 0),(.bool false)]) H3) (
 opt (aE 9 v1 H3) λv7=>E.call 109 [v7] H3 λv8 H4=>bI (zs 64 (.int .u8 0)) H4 λv9 H5=>opt (aH 64 v9 v8 H5) λH6=>opt (oZ 64 1 v9 (some x1) none none) λv10=>E.call 110 [v10,vi 4] H6 λv11 H7=>opt (aS .u32 v11) λv12=>Q (.tuple #[v12,(.bool true)]) H7)

def F.f148:T1:=λE x0 x1 H Q =>
 mk (eQ x1) H λv1 H1=>opt (aB v1 0) λv2=>opt (aD v2 H1) λv3=>opt (aA .and v3 (.int .u16 8)) λv4=>opt (aA .neq v4 (.int .u16 0)) λv5=>ifB v5 (
 opt (aO x0) λv6=>opt (aB v6 1) λv7=>opt (aD v7 H1) λv8=>Q v8 H1) (
 opt (aB v1 3) λv9=>opt (aD v9 H1) λv10=>Q v10 H1)

def F.f118_l2:T15:=λE Q X0 t0 t1 t2 t3 t8 t9 H X1 =>
 opt (aA .gtr t9 t1) λv1=>gV v1 true t3 H λv2 H1=>gV v1 true t0 H1 λv3 H2=>gV v1 true t9 H2 λv4 H3=>gO v1 true (aI 3 v3 v4) H3 λv5 H4=>gO v1 true (aE 3 v5 H4) H4 λv6 H5=>gV v1 true t0 H5 λv7 H6=>gV v1 true t9 H6 λv8 H7=>gO v1 true (aA .sub v8 (vi 1)) H7 λv9 H8=>gO v1 true (aI 3 v7 v9) H8 λv10 H9=>gO v1 true (aE 3 v10 H9) H9 λv11 H10=>gd v1 true (λk=>fQ E.call v2 [v6,v11] H10 λv h=>k v h) H10 λv12 H11=>gO v1 true (aA .lss v12 (vi 0)) H11 λv13 H12=>opt (pick v1 v13 (.bool false)) λv14=>ifB v14 (
 opt (aA .sub t9 (vi 1)) λv15=>opt (aA .sub t9 (vi 1)) λv16=>opt (aI 3 t0 v16) λv17=>opt (aE 3 v17 H12) λv18=>opt (aI 3 t0 t9) λv19=>opt (aE 3 v19 H12) λv20=>opt (aI 3 t0 t9) λv21=>opt (aH 3 v21 v18 H12) λH13=>opt (aI 3 t0 v15) λv22=>opt (aH 3 v22 v20 H13) λH14=>opt (aA .sub t9 (vi 1)) λv23=>X1 [t0,t1,t2,t3,t8,v23] H14) (
 opt (aA .add t8 (vi 1)) λv24=>X0 [t0,t1,t2,t3,v24] H12)
def F.f118_l1:T2:=λE Q t0 t1 t2 t3 t8 H X0 =>
 opt (aA .lss t8 t2) λv1=>ifB v1 (
 lp6 (F.f118_l2 E Q X0) [t0,t1,t2,t3,t8,t8] H) (
 Q (.tuple #[]) H)
def F.f118:T4:=λE x0 x1 x2 x3 H Q =>
 opt (aA .add x1 (vi 1)) λv1=>lp5 (F.f118_l1 E Q) [x0,x1,x2,x3,v1] H

def F.f132_l2:T6:=λE Q t0 t10 t13 H X0 =>
 opt (aA .sub t10 (vi 1)) λv1=>opt (aA .lss t13 v1) λv2=>ifB v2 (
 opt (aA .add t13 (vi 1)) λv3=>opt (aA .add t13 (vi 1)) λv4=>opt (aI 3 t0 v4) λv5=>opt (aE 3 v5 H) λv6=>opt (aI 3 t0 t13) λv7=>opt (aE 3 v7 H) λv8=>opt (aI 3 t0 t13) λv9=>opt (aH 3 v9 v6 H) λH1=>opt (aI 3 t0 v3) λv10=>opt (aH 3 v10 v8 H1) λH2=>opt (aA .add t13 (vi 1)) λv11=>X0 [t0,t10,v11] H2) (
 Q (.tuple #[]) H)
def F.f132_l1:T2:=λE Q t0 t1 t4 t10 t11 H X0 =>
 opt (aA .lss t10 t11) λv1=>ifB v1 (
 opt (aA .add t10 t11) λv2=>opt (aS .u64 v2) λv3=>opt (aA .shr v3 (.int .u64 1)) λv4=>opt (aS .i64 v4) λv5=>opt (aI 3 t0 v5) λv6=>opt (aE 3 v6 H) λv7=>opt (aI 3 t0 t1) λv8=>opt (aE 3 v8 H) λv9=>fQ E.call t4 [v7,v9] H λv10 H1=>opt (aA .lss v10 (vi 0)) λv11=>ifB v11 (
 opt (aA .add v5 (vi 1)) λv12=>X0 [t0,t1,t4,v12,t11] H1) (
 X0 [t0,t1,t4,t10,v5] H1)) (
 lp3 (F.f132_l2 E Q) [t0,t10,t1] H)
def F.f132_l4:T6:=λE Q t0 t14 t17 H X0 =>
 opt (aA .gtr t17 t14) λv1=>ifB v1 (
 opt (aA .sub t17 (vi 1)) λv2=>opt (aA .sub t17 (vi 1)) λv3=>opt (aI 3 t0 v3) λv4=>opt (aE 3 v4 H) λv5=>opt (aI 3 t0 t17) λv6=>opt (aE 3 v6 H) λv7=>opt (aI 3 t0 t17) λv8=>opt (aH 3 v8 v5 H) λH1=>opt (aI 3 t0 v2) λv9=>opt (aH 3 v9 v7 H1) λH2=>opt (aA .sub t17 (vi 1)) λv10=>X0 [t0,t14,v10] H2) (
 Q (.tuple #[]) H)
def F.f132_l3:T2:=λE Q t0 t2 t4 t14 t15 H X0 =>
 opt (aA .lss t14 t15) λv1=>ifB v1 (
 opt (aA .add t14 t15) λv2=>opt (aS .u64 v2) λv3=>opt (aA .shr v3 (.int .u64 1)) λv4=>opt (aS .i64 v4) λv5=>opt (aI 3 t0 t2) λv6=>opt (aE 3 v6 H) λv7=>opt (aI 3 t0 v5) λv8=>opt (aE 3 v8 H) λv9=>fQ E.call t4 [v7,v9] H λv10 H1=>opt (aA .lss v10 (vi 0)) λv11=>opt (un .not v11) λv12=>ifB v12 (
 opt (aA .add v5 (vi 1)) λv13=>X0 [t0,t2,t4,v13,t15] H1) (
 X0 [t0,t2,t4,t14,v5] H1)) (
 lp3 (F.f132_l4 E Q) [t0,t14,t2] H)
def F.f132_j3(E:Sy)(Q:VK)(t0 t3 t4 t18 t24:Value)(H:AH):Prop :=
 opt (aA .lss t18 t24) λv1=>gV v1 true t24 H λv2 H1=>gV v1 true t3 H1 λv3 H2=>gO v1 true (aA .lss v2 v3) H2 λv4 H3=>opt (pick v1 v4 (.bool false)) λv5=>ifB v5 (
 E.call 116 [t0,t18,t24,t3,t4] H3 λv6 H4=>Q (.tuple #[]) H4) (
 Q (.tuple #[]) H3)
def F.f132_j2(E:Sy)(Q:VK)(t0 t1 t3 t4 t18 t20 t24:Value)(H:AH):Prop :=
 opt (aA .lss t1 t20) λv1=>gV v1 true t20 H λv2 H1=>gV v1 true t18 H1 λv3 H2=>gO v1 true (aA .lss v2 v3) H2 λv4 H3=>opt (pick v1 v4 (.bool false)) λv5=>ifB v5 (
 E.call 116 [t0,t1,t20,t18,t4] H3 λv6 H4=>F.f132_j3 E Q t0 t3 t4 t18 t24 H4) (
 F.f132_j3 E Q t0 t3 t4 t18 t24 H3)
def F.f132_l5(E:Sy)(Q:VK)(t0 t1 t2 t3 t4 t18 t19 t20 t21 t22:Value)(H:AH)(X0:LK):Prop :=
 opt (aA .lss t20 t21) λv1=>ifB v1 (
 opt (aA .add t20 t21) λv2=>opt (aS .u64 v2) λv3=>opt (aA .shr v3 (.int .u64 1)) λv4=>opt (aS .i64 v4) λv5=>opt (aA .sub t22 v5) λv6=>opt (aI 3 t0 v6) λv7=>opt (aE 3 v7 H) λv8=>opt (aI 3 t0 v5) λv9=>opt (aE 3 v9 H) λv10=>fQ E.call t4 [v8,v10] H λv11 H1=>opt (aA .lss v11 (vi 0)) λv12=>opt (un .not v12) λv13=>ifB v13 (
 opt (aA .add v5 (vi 1)) λv14=>X0 [t0,t1,t2,t3,t4,t18,t19,v14,t21,t22] H1) (
 X0 [t0,t1,t2,t3,t4,t18,t19,t20,v5,t22] H1)) (
 opt (aA .sub t19 t20) λv15=>opt (aA .lss t20 t2) λv16=>gV v16 true t2 H λv17 H2=>gV v16 true v15 H2 λv18 H3=>gO v16 true (aA .lss v17 v18) H3 λv19 H4=>opt (pick v16 v19 (.bool false)) λv20=>ifB v20 (
 E.call 134 [t0,t20,t2,v15,t4] H4 λv21 H5=>F.f132_j2 E Q t0 t1 t3 t4 t18 t20 v15 H5) (
 F.f132_j2 E Q t0 t1 t3 t4 t18 t20 v15 H4))
def F.f132_j1(E:Sy)(Q:VK)(t0 t1 t2 t3 t4 t18 t19 t20 t21:Value)(H:AH):Prop :=
 opt (aA .sub t19 (vi 1)) λv1=>aOG (F.f132_l5 E Q) [t0,t1,t2,t3,t4,t18,t19,t20,t21,v1] H
def F.f132:T7:=λE x0 x1 x2 x3 x4 H Q =>
 opt (aA .sub x2 x1) λv1=>opt (aA .eql v1 (vi 1)) λv2=>ifB v2 (
 lp5 (F.f132_l1 E Q) [x0,x1,x4,x2,x3] H) (
 opt (aA .sub x3 x2) λv3=>opt (aA .eql v3 (vi 1)) λv4=>ifB v4 (
 lp5 (F.f132_l3 E Q) [x0,x2,x4,x1,x2] H) (
 opt (aA .add x1 x3) λv5=>opt (aS .u64 v5) λv6=>opt (aA .shr v6 (.int .u64 1)) λv7=>opt (aS .i64 v7) λv8=>opt (aA .add v8 x2) λv9=>opt (aA .gtr x2 v8) λv10=>ifB v10 (
 opt (aA .sub v9 x3) λv11=>F.f132_j1 E Q x0 x1 x2 x3 x4 v8 v9 v11 v8 H) (
 F.f132_j1 E Q x0 x1 x2 x3 x4 v8 v9 x1 x2 H)))

def F.f111_l1:T3:=λE Q t0 t1 t7 t8 H X0 =>
 opt (aA .lss t8 t7) λv1=>ifB v1 (
 opt (aI 1 t0 t8) λv2=>opt (aD v2 H) λv3=>opt (aA .eql t1 v3) λv4=>ifB v4 (
 Q t8 H) (
 opt (aA .add t8 (vi 1)) λv5=>X0 [t0,t1,t7,v5] H)) (
 Q (.int .i64 (-1)) H)
def F.f111:T1:=λE x0 x1 H Q =>
 opt (lenSlc x0) λv1=>lp4 (F.f111_l1 E Q) [x0,x1,v1,vi 0] H

def F.f8:T0:=λE x0 H Q =>
 opt (aA .neq x0 x0) λv1=>Q v1 H

def F.f35:T0:=λE x0 H Q =>
 mk (eQ x0) H λv1 H1=>opt (aB v1 0) λv2=>opt (aD v2 H1) λv3=>opt (aA .lss v3 (vi 0)) λv4=>gO v4 false (aB v1 0) H1 λv5 H2=>gO v4 false (aD v5 H2) H2 λv6 H3=>gO v4 false (aA .gtr v6 (vi 5)) H3 λv7 H4=>opt (pick v4 (.bool true) v7) λv8=>ifB v8 (
 Q (.bool false) H4) (
 opt (aB v1 1) λv9=>opt (aD v9 H4) λv10=>opt (aA .eql v10 (.int .u8 6)) λv11=>ifB v11 (
 opt (aB v1 3) λv12=>opt (aD v12 H4) λv13=>opt (aA .eql v13 (.int .u64 0)) λv14=>Q v14 H4) (
 opt (aA .eql v10 (.int .u8 4)) λv15=>ifB v15 (
 opt (aB v1 3) λv16=>opt (aD v16 H4) λv17=>opt (aA .eql v17 (.int .u64 18446744073709551615)) λv18=>Q v18 H4) (
 Q (.bool false) H4)))

def F.f109:T1:=λE x0 x1 H Q =>
 mk (eQ x1) H λv1 H1=>opt (aE 4 v1 H1) λv2=>E.call 135 [x0,v2] H1 λv3 H2=>opt (aA .geq v3 (vi 0)) λv4=>Q v4 H2

def F.f68_j3:T9:=λE Q t0 t2 H =>
 opt (aS .u8 t0) λv1=>opt (iY (.string ⟨#[0,1,2,2,3,3,3,3,4,4,4,4,4,4,4,4,5,5,5,5,5,5,5,5,5,5,5,5,5,5,5,5,6,6,6,6,6,6,6,6,6,6,6,6,6,6,6,6,6,6,6,6,6,6,6,6,6,6,6,6,6,6,6,6,7,7,7,7,7,7,7,7,7,7,7,7,7,7,7,7,7,7,7,7,7,7,7,7,7,7,7,7,7,7,7,7,7,7,7,7,7,7,7,7,7,7,7,7,7,7,7,7,7,7,7,7,7,7,7,7,7,7,7,7,7,7,7,7,8,8,8,8,8,8,8,8,8,8,8,8,8,8,8,8,8,8,8,8,8,8,8,8,8,8,8,8,8,8,8,8,8,8,8,8,8,8,8,8,8,8,8,8,8,8,8,8,8,8,8,8,8,8,8,8,8,8,8,8,8,8,8,8,8,8,8,8,8,8,8,8,8,8,8,8,8,8,8,8,8,8,8,8,8,8,8,8,8,8,8,8,8,8,8,8,8,8,8,8,8,8,8,8,8,8,8,8,8,8,8,8,8,8,8,8,8,8,8,8,8,8,8,8,8,8,8,8]⟩) v1) λv2=>opt (aS .i64 v2) λv3=>opt (aA .add t2 v3) λv4=>Q v4 H
def F.f68_j2:T9:=λE Q t0 t2 H =>
 opt (aA .geq t0 (.int .u64 256)) λv1=>ifB v1 (
 opt (aA .shr t0 (.int .u64 8)) λv2=>opt (aA .add t2 (vi 8)) λv3=>F.f68_j3 E Q v2 v3 H) (
 F.f68_j3 E Q t0 t2 H)
def F.f68_j1:T9:=λE Q t0 t2 H =>
 opt (aA .geq t0 (.int .u64 65536)) λv1=>ifB v1 (
 opt (aA .shr t0 (.int .u64 16)) λv2=>opt (aA .add t2 (vi 16)) λv3=>F.f68_j2 E Q v2 v3 H) (
 F.f68_j2 E Q t0 t2 H)
def F.f68:T0:=λE x0 H Q =>
 opt (aA .geq x0 (.int .u64 4294967296)) λv1=>ifB v1 (
 opt (aA .shr x0 (.int .u64 32)) λv2=>F.f68_j1 E Q v2 (vi 32) H) (
 F.f68_j1 E Q x0 (vi 0) H)

def F.f117_l2:T15:=λE Q X0 t0 t1 t2 t3 t8 t9 H X1 =>
 opt (aA .gtr t9 t1) λv1=>gV v1 true t3 H λv2 H1=>gV v1 true t0 H1 λv3 H2=>gV v1 true t9 H2 λv4 H3=>gO v1 true (aI 2 v3 v4) H3 λv5 H4=>gO v1 true (aE 2 v5 H4) H4 λv6 H5=>gV v1 true t0 H5 λv7 H6=>gV v1 true t9 H6 λv8 H7=>gO v1 true (aA .sub v8 (vi 1)) H7 λv9 H8=>gO v1 true (aI 2 v7 v9) H8 λv10 H9=>gO v1 true (aE 2 v10 H9) H9 λv11 H10=>gd v1 true (λk=>fQ E.call v2 [v6,v11] H10 λv h=>k v h) H10 λv12 H11=>gO v1 true (aA .lss v12 (vi 0)) H11 λv13 H12=>opt (pick v1 v13 (.bool false)) λv14=>ifB v14 (
 opt (aA .sub t9 (vi 1)) λv15=>opt (aA .sub t9 (vi 1)) λv16=>opt (aI 2 t0 v16) λv17=>opt (aE 2 v17 H12) λv18=>opt (aI 2 t0 t9) λv19=>opt (aE 2 v19 H12) λv20=>opt (aI 2 t0 t9) λv21=>opt (aH 2 v21 v18 H12) λH13=>opt (aI 2 t0 v15) λv22=>opt (aH 2 v22 v20 H13) λH14=>opt (aA .sub t9 (vi 1)) λv23=>X1 [t0,t1,t2,t3,t8,v23] H14) (
 opt (aA .add t8 (vi 1)) λv24=>X0 [t0,t1,t2,t3,v24] H12)
def F.f117_l1:T2:=λE Q t0 t1 t2 t3 t8 H X0 =>
 opt (aA .lss t8 t2) λv1=>ifB v1 (
 lp6 (F.f117_l2 E Q X0) [t0,t1,t2,t3,t8,t8] H) (
 Q (.tuple #[]) H)
def F.f117:T4:=λE x0 x1 x2 x3 H Q =>
 opt (aA .add x1 (vi 1)) λv1=>lp5 (F.f117_l1 E Q) [x0,x1,x2,x3,v1] H

def F.f116_l2:T2:=λE Q t0 t3 t8 t9 t12 H X0 =>
 opt (aA .geq t12 (vi 0)) λv1=>ifB v1 (
 opt (aA .add t8 t12) λv2=>opt (aA .add t8 t12) λv3=>opt (aI 2 t0 v3) λv4=>opt (aE 2 v4 H) λv5=>opt (aI 2 t0 t8) λv6=>opt (aE 2 v6 H) λv7=>opt (aI 2 t0 t8) λv8=>opt (aH 2 v8 v5 H) λH1=>opt (aI 2 t0 v2) λv9=>opt (aH 2 v9 v7 H1) λH2=>E.call 136 [t0,t9,t12,t8,t3] H2 λv10 H3=>opt (aA .sub t12 (vi 1)) λv11=>X0 [t0,t3,t8,t9,v11] H3) (
 Q (.tuple #[]) H)
def F.f116_l1:T5:=λE Q t0 t3 t8 t9 t10 t11 H X0 =>
 opt (aA .geq t11 (vi 0)) λv1=>ifB v1 (
 E.call 136 [t0,t11,t10,t8,t3] H λv2 H1=>opt (aA .sub t11 (vi 1)) λv3=>X0 [t0,t3,t8,t9,t10,v3] H1) (
 opt (aA .sub t10 (vi 1)) λv4=>lp5 (F.f116_l2 E Q) [t0,t3,t8,t9,v4] H)
def F.f116:T4:=λE x0 x1 x2 x3 H Q =>
 opt (aA .sub x2 x1) λv1=>opt (aA .sub v1 (vi 1)) λv2=>opt (aA .quo v2 (vi 2)) λv3=>lp6 (F.f116_l1 E Q) [x0,x3,x1,vi 0,v1,v3] H

def F.f114_j1:T19:=λE Q X0 t0 t1 t8 t9 t10 t11 t12 H =>
 opt (aA .add t1 t12) λv1=>opt (aA .add t1 t12) λv2=>opt (aI 2 t0 v2) λv3=>opt (aE 2 v3 H) λv4=>opt (aI 2 t0 t11) λv5=>opt (aE 2 v5 H) λv6=>opt (aI 2 t0 t11) λv7=>opt (aH 2 v7 v4 H) λH1=>opt (aI 2 t0 v1) λv8=>opt (aH 2 v8 v6 H1) λH2=>opt (aA .add t11 (vi 1)) λv9=>X0 [t0,t1,t8,t9,t10,v9] H2
def F.f114_l1:T5:=λE Q t0 t1 t8 t9 t10 t11 H X0 =>
 opt (aA .quo t8 (vi 4)) λv1=>opt (aA .mul v1 (vi 2)) λv2=>opt (aA .add t1 v2) λv3=>opt (aA .add v3 (vi 1)) λv4=>opt (aA .leq t11 v4) λv5=>ifB v5 (
 E.call 138 [t9] H λv6 H1=>opt (aA .sub t10 (.int .u64 1)) λv7=>opt (aA .and v6 v7) λv8=>opt (aS .i64 v8) λv9=>opt (aA .geq v9 t8) λv10=>ifB v10 (
 opt (aA .sub v9 t8) λv11=>F.f114_j1 E Q X0 t0 t1 t8 t9 t10 t11 v11 H1) (
 F.f114_j1 E Q X0 t0 t1 t8 t9 t10 t11 v9 H1)) (
 Q (.tuple #[]) H)
def F.f114:T4:=λE x0 x1 x2 x3 H Q =>
 opt (aA .sub x2 x1) λv1=>opt (aA .geq v1 (vi 8)) λv2=>ifB v2 (
 opt (aS .u64 v1) λv3=>bI [(.int .u64 0)] H λv4 H1=>opt (bD v4 v3 H1) λH2=>E.call 137 [v1] H2 λv5 H3=>opt (aA .quo v1 (vi 4)) λv6=>opt (aA .mul v6 (vi 2)) λv7=>opt (aA .add x1 v7) λv8=>opt (aA .sub v8 (vi 1)) λv9=>lp6 (F.f114_l1 E Q) [x0,x1,v1,v4,v5,v9] H3) (
 Q (.tuple #[]) H)

def F.f115_j1:T9:=λE Q t11 t13 H =>
 opt (aD t11 H) λv1=>opt (aA .eql v1 (vi 0)) λv2=>ifB v2 (
 Q (.tuple #[t13,vi 1]) H) (
 opt (aA .eql v1 (vi 12)) λv3=>ifB v3 (
 Q (.tuple #[t13,vi 2]) H) (
 Q (.tuple #[t13,vi 0]) H))
def F.f115_j2(E:Sy)(Q:VK)(t0 t3 t11 t12 t13 t14:Value)(H:AH):Prop :=
 E.call 140 [t0,t12,t13,t14,t11,t3] H λv1 H1=>F.f115_j1 E Q t11 v1 H1
def F.f115:T4:=λE x0 x1 x2 x3 H Q =>
 opt (aA .sub x2 x1) λv1=>bI [vi 0] H λv2 H1=>opt (aA .quo v1 (vi 4)) λv3=>opt (aA .mul v3 (vi 1)) λv4=>opt (aA .add x1 v4) λv5=>opt (aA .quo v1 (vi 4)) λv6=>opt (aA .mul v6 (vi 2)) λv7=>opt (aA .add x1 v7) λv8=>opt (aA .quo v1 (vi 4)) λv9=>opt (aA .mul v9 (vi 3)) λv10=>opt (aA .add x1 v10) λv11=>opt (aA .geq v1 (vi 8)) λv12=>ifB v12 (
 opt (aA .geq v1 (vi 50)) λv13=>ifB v13 (
 E.call 139 [x0,v5,v2,x3] H1 λv14 H2=>E.call 139 [x0,v8,v2,x3] H2 λv15 H3=>E.call 139 [x0,v11,v2,x3] H3 λv16 H4=>F.f115_j2 E Q x0 x3 v2 v14 v15 v16 H4) (
 F.f115_j2 E Q x0 x3 v2 v5 v8 v11 H1)) (
 F.f115_j1 E Q v2 v8 H1)

def F.f127_l1:T6:=λE Q t0 t8 t9 H X0 =>
 opt (aA .lss t8 t9) λv1=>ifB v1 (
 opt (aI 2 t0 t9) λv2=>opt (aE 2 v2 H) λv3=>opt (aI 2 t0 t8) λv4=>opt (aE 2 v4 H) λv5=>opt (aI 2 t0 t8) λv6=>opt (aH 2 v6 v3 H) λH1=>opt (aI 2 t0 t9) λv7=>opt (aH 2 v7 v5 H1) λH2=>opt (aA .add t8 (vi 1)) λv8=>opt (aA .sub t9 (vi 1)) λv9=>X0 [t0,v8,v9] H2) (
 Q (.tuple #[]) H)
def F.f127:T4:=λE x0 x1 x2 x3 H Q =>
 opt (aA .sub x2 (vi 1)) λv1=>lp3 (F.f127_l1 E Q) [x0,x1,v1] H

def F.f123_l3:T20:=λE Q X0 t0 t1 t2 t3 t9 t10 t12 H X1 =>
 opt (aA .lss t12 t2) λv1=>ifB v1 (
 opt (aI 2 t0 t12) λv2=>opt (aE 2 v2 H) λv3=>opt (aA .sub t12 (vi 1)) λv4=>opt (aI 2 t0 v4) λv5=>opt (aE 2 v5 H) λv6=>fQ E.call t3 [v3,v6] H λv7 H1=>opt (aA .lss v7 (vi 0)) λv8=>opt (un .not v8) λv9=>ifB v9 (
 opt (aA .add t10 (vi 1)) λv10=>X0 [t0,t1,t2,t3,t9,v10] H1) (
 opt (aA .sub t12 (vi 1)) λv11=>opt (aA .sub t12 (vi 1)) λv12=>opt (aI 2 t0 v12) λv13=>opt (aE 2 v13 H1) λv14=>opt (aI 2 t0 t12) λv15=>opt (aE 2 v15 H1) λv16=>opt (aI 2 t0 t12) λv17=>opt (aH 2 v17 v14 H1) λH2=>opt (aI 2 t0 v11) λv18=>opt (aH 2 v18 v16 H2) λH3=>opt (aA .add t12 (vi 1)) λv19=>X1 [t0,t1,t2,t3,t9,t10,v19] H3)) (
 opt (aA .add t10 (vi 1)) λv20=>X0 [t0,t1,t2,t3,t9,v20] H)
def F.f123_j1:T17:=λE Q X0 t0 t1 t2 t3 t9 t10 H =>
 opt (aA .sub t2 t9) λv1=>opt (aA .geq v1 (vi 2)) λv2=>ifB v2 (
 opt (aA .add t9 (vi 1)) λv3=>lp7 (F.f123_l3 E Q X0) [t0,t1,t2,t3,t9,t10,v3] H) (
 opt (aA .add t10 (vi 1)) λv4=>X0 [t0,t1,t2,t3,t9,v4] H)
def F.f123_l4:T20:=λE Q X0 t0 t1 t2 t3 t9 t10 t11 H X1 =>
 opt (aA .geq t11 (vi 1)) λv1=>ifB v1 (
 opt (aI 2 t0 t11) λv2=>opt (aE 2 v2 H) λv3=>opt (aA .sub t11 (vi 1)) λv4=>opt (aI 2 t0 v4) λv5=>opt (aE 2 v5 H) λv6=>fQ E.call t3 [v3,v6] H λv7 H1=>opt (aA .lss v7 (vi 0)) λv8=>opt (un .not v8) λv9=>ifB v9 (
 F.f123_j1 E Q X0 t0 t1 t2 t3 t9 t10 H1) (
 opt (aA .sub t11 (vi 1)) λv10=>opt (aA .sub t11 (vi 1)) λv11=>opt (aI 2 t0 v11) λv12=>opt (aE 2 v12 H1) λv13=>opt (aI 2 t0 t11) λv14=>opt (aE 2 v14 H1) λv15=>opt (aI 2 t0 t11) λv16=>opt (aH 2 v16 v13 H1) λH2=>opt (aI 2 t0 v10) λv17=>opt (aH 2 v17 v15 H2) λH3=>opt (aA .sub t11 (vi 1)) λv18=>X1 [t0,t1,t2,t3,t9,t10,v18] H3)) (
 F.f123_j1 E Q X0 t0 t1 t2 t3 t9 t10 H)
def F.f123_l2:T15:=λE Q X0 t0 t1 t2 t3 t9 t10 H X1 =>
 opt (aA .lss t9 t2) λv1=>gV v1 true t3 H λv2 H1=>gV v1 true t0 H1 λv3 H2=>gV v1 true t9 H2 λv4 H3=>gO v1 true (aI 2 v3 v4) H3 λv5 H4=>gO v1 true (aE 2 v5 H4) H4 λv6 H5=>gV v1 true t0 H5 λv7 H6=>gV v1 true t9 H6 λv8 H7=>gO v1 true (aA .sub v8 (vi 1)) H7 λv9 H8=>gO v1 true (aI 2 v7 v9) H8 λv10 H9=>gO v1 true (aE 2 v10 H9) H9 λv11 H10=>gd v1 true (λk=>fQ E.call v2 [v6,v11] H10 λv h=>k v h) H10 λv12 H11=>gO v1 true (aA .lss v12 (vi 0)) H11 λv13 H12=>gO v1 true (un .not v13) H12 λv14 H13=>opt (pick v1 v14 (.bool false)) λv15=>ifB v15 (
 opt (aA .add t9 (vi 1)) λv16=>X1 [t0,t1,t2,t3,v16,t10] H13) (
 opt (aA .eql t9 t2) λv17=>ifB v17 (
 Q (.bool true) H13) (
 opt (aA .sub t2 t1) λv18=>opt (aA .lss v18 (vi 50)) λv19=>ifB v19 (
 Q (.bool false) H13) (
 opt (aA .sub t9 (vi 1)) λv20=>opt (aA .sub t9 (vi 1)) λv21=>opt (aI 2 t0 v21) λv22=>opt (aE 2 v22 H13) λv23=>opt (aI 2 t0 t9) λv24=>opt (aE 2 v24 H13) λv25=>opt (aI 2 t0 t9) λv26=>opt (aH 2 v26 v23 H13) λH14=>opt (aI 2 t0 v20) λv27=>opt (aH 2 v27 v25 H14) λH15=>opt (aA .sub t9 t1) λv28=>opt (aA .geq v28 (vi 2)) λv29=>ifB v29 (
 opt (aA .sub t9 (vi 1)) λv30=>lp7 (F.f123_l4 E Q X0) [t0,t1,t2,t3,t9,t10,v30] H15) (
 F.f123_j1 E Q X0 t0 t1 t2 t3 t9 t10 H15))))
def F.f123_l1:T5:=λE Q t0 t1 t2 t3 t9 t10 H X0 =>
 opt (aA .lss t10 (vi 5)) λv1=>ifB v1 (
 lp6 (F.f123_l2 E Q X0) [t0,t1,t2,t3,t9,t10] H) (
 Q (.bool false) H)
def F.f123:T4:=λE x0 x1 x2 x3 H Q =>
 opt (aA .add x1 (vi 1)) λv1=>lp6 (F.f123_l1 E Q) [x0,x1,x2,x3,v1,vi 0] H

def F.f125_l3:T16:=λE Q X0 t0 t1 t4 t11 t12 H X1 =>
 opt (aA .leq t11 t12) λv1=>gV v1 true t4 H λv2 H1=>gV v1 true t0 H1 λv3 H2=>gV v1 true t1 H2 λv4 H3=>gO v1 true (aI 2 v3 v4) H3 λv5 H4=>gO v1 true (aE 2 v5 H4) H4 λv6 H5=>gV v1 true t0 H5 λv7 H6=>gV v1 true t12 H6 λv8 H7=>gO v1 true (aI 2 v7 v8) H7 λv9 H8=>gO v1 true (aE 2 v9 H8) H8 λv10 H9=>gd v1 true (λk=>fQ E.call v2 [v6,v10] H9 λv h=>k v h) H9 λv11 H10=>gO v1 true (aA .lss v11 (vi 0)) H10 λv12 H11=>opt (pick v1 v12 (.bool false)) λv13=>ifB v13 (
 opt (aA .sub t12 (vi 1)) λv14=>X1 [t0,t1,t4,t11,v14] H11) (
 opt (aA .gtr t11 t12) λv15=>ifB v15 (
 Q t11 H11) (
 opt (aI 2 t0 t12) λv16=>opt (aE 2 v16 H11) λv17=>opt (aI 2 t0 t11) λv18=>opt (aE 2 v18 H11) λv19=>opt (aI 2 t0 t11) λv20=>opt (aH 2 v20 v17 H11) λH12=>opt (aI 2 t0 t12) λv21=>opt (aH 2 v21 v19 H12) λH13=>opt (aA .add t11 (vi 1)) λv22=>opt (aA .sub t12 (vi 1)) λv23=>X0 [t0,t1,t4,v22,v23] H13))
def F.f125_l2:T16:=λE Q X0 t0 t1 t4 t11 t12 H X1 =>
 opt (aA .leq t11 t12) λv1=>gV v1 true t4 H λv2 H1=>gV v1 true t0 H1 λv3 H2=>gV v1 true t1 H2 λv4 H3=>gO v1 true (aI 2 v3 v4) H3 λv5 H4=>gO v1 true (aE 2 v5 H4) H4 λv6 H5=>gV v1 true t0 H5 λv7 H6=>gV v1 true t11 H6 λv8 H7=>gO v1 true (aI 2 v7 v8) H7 λv9 H8=>gO v1 true (aE 2 v9 H8) H8 λv10 H9=>gd v1 true (λk=>fQ E.call v2 [v6,v10] H9 λv h=>k v h) H9 λv11 H10=>gO v1 true (aA .lss v11 (vi 0)) H10 λv12 H11=>gO v1 true (un .not v12) H11 λv13 H12=>opt (pick v1 v13 (.bool false)) λv14=>ifB v14 (
 opt (aA .add t11 (vi 1)) λv15=>X1 [t0,t1,t4,v15,t12] H12) (
 lp5 (F.f125_l3 E Q X0) [t0,t1,t4,t11,t12] H12)
def F.f125_l1:T2:=λE Q t0 t1 t4 t11 t12 H X0 =>
 lp5 (F.f125_l2 E Q X0) [t0,t1,t4,t11,t12] H
def F.f125:T7:=λE x0 x1 x2 x3 x4 H Q =>
 opt (aI 2 x0 x3) λv1=>opt (aE 2 v1 H) λv2=>opt (aI 2 x0 x1) λv3=>opt (aE 2 v3 H) λv4=>opt (aI 2 x0 x1) λv5=>opt (aH 2 v5 v2 H) λH1=>opt (aI 2 x0 x3) λv6=>opt (aH 2 v6 v4 H1) λH2=>opt (aA .add x1 (vi 1)) λv7=>opt (aA .sub x2 (vi 1)) λv8=>lp5 (F.f125_l1 E Q) [x0,x1,x4,v7,v8] H2

def F.f124_l5:T16:=λE Q X0 t0 t1 t4 t12 t13 H X1 =>
 opt (aA .leq t12 t13) λv1=>gV v1 true t4 H λv2 H1=>gV v1 true t0 H1 λv3 H2=>gV v1 true t13 H2 λv4 H3=>gO v1 true (aI 2 v3 v4) H3 λv5 H4=>gO v1 true (aE 2 v5 H4) H4 λv6 H5=>gV v1 true t0 H5 λv7 H6=>gV v1 true t1 H6 λv8 H7=>gO v1 true (aI 2 v7 v8) H7 λv9 H8=>gO v1 true (aE 2 v9 H8) H8 λv10 H9=>gd v1 true (λk=>fQ E.call v2 [v6,v10] H9 λv h=>k v h) H9 λv11 H10=>gO v1 true (aA .lss v11 (vi 0)) H10 λv12 H11=>gO v1 true (un .not v12) H11 λv13 H12=>opt (pick v1 v13 (.bool false)) λv14=>ifB v14 (
 opt (aA .sub t13 (vi 1)) λv15=>X1 [t0,t1,t4,t12,v15] H12) (
 opt (aA .gtr t12 t13) λv16=>ifB v16 (
 opt (aI 2 t0 t1) λv17=>opt (aE 2 v17 H12) λv18=>opt (aI 2 t0 t13) λv19=>opt (aE 2 v19 H12) λv20=>opt (aI 2 t0 t13) λv21=>opt (aH 2 v21 v18 H12) λH13=>opt (aI 2 t0 t1) λv22=>opt (aH 2 v22 v20 H13) λH14=>Q (.tuple #[t13,(.bool false)]) H14) (
 opt (aI 2 t0 t13) λv23=>opt (aE 2 v23 H12) λv24=>opt (aI 2 t0 t12) λv25=>opt (aE 2 v25 H12) λv26=>opt (aI 2 t0 t12) λv27=>opt (aH 2 v27 v24 H12) λH15=>opt (aI 2 t0 t13) λv28=>opt (aH 2 v28 v26 H15) λH16=>opt (aA .add t12 (vi 1)) λv29=>opt (aA .sub t13 (vi 1)) λv30=>X0 [t0,t1,t4,v29,v30] H16))
def F.f124_l4:T16:=λE Q X0 t0 t1 t4 t12 t13 H X1 =>
 opt (aA .leq t12 t13) λv1=>gV v1 true t4 H λv2 H1=>gV v1 true t0 H1 λv3 H2=>gV v1 true t12 H2 λv4 H3=>gO v1 true (aI 2 v3 v4) H3 λv5 H4=>gO v1 true (aE 2 v5 H4) H4 λv6 H5=>gV v1 true t0 H5 λv7 H6=>gV v1 true t1 H6 λv8 H7=>gO v1 true (aI 2 v7 v8) H7 λv9 H8=>gO v1 true (aE 2 v9 H8) H8 λv10 H9=>gd v1 true (λk=>fQ E.call v2 [v6,v10] H9 λv h=>k v h) H9 λv11 H10=>gO v1 true (aA .lss v11 (vi 0)) H10 λv12 H11=>opt (pick v1 v12 (.bool false)) λv13=>ifB v13 (
 opt (aA .add t12 (vi 1)) λv14=>X1 [t0,t1,t4,v14,t13] H11) (
 lp5 (F.f124_l5 E Q X0) [t0,t1,t4,t12,t13] H11)
def F.f124_l3:T2:=λE Q t0 t1 t4 t12 t13 H X0 =>
 lp5 (F.f124_l4 E Q X0) [t0,t1,t4,t12,t13] H
def F.f124_l2:T2:=λE Q t0 t1 t4 t12 t13 H X0 =>
 opt (aA .leq t12 t13) λv1=>gV v1 true t4 H λv2 H1=>gV v1 true t0 H1 λv3 H2=>gV v1 true t13 H2 λv4 H3=>gO v1 true (aI 2 v3 v4) H3 λv5 H4=>gO v1 true (aE 2 v5 H4) H4 λv6 H5=>gV v1 true t0 H5 λv7 H6=>gV v1 true t1 H6 λv8 H7=>gO v1 true (aI 2 v7 v8) H7 λv9 H8=>gO v1 true (aE 2 v9 H8) H8 λv10 H9=>gd v1 true (λk=>fQ E.call v2 [v6,v10] H9 λv h=>k v h) H9 λv11 H10=>gO v1 true (aA .lss v11 (vi 0)) H10 λv12 H11=>gO v1 true (un .not v12) H11 λv13 H12=>opt (pick v1 v13 (.bool false)) λv14=>ifB v14 (
 opt (aA .sub t13 (vi 1)) λv15=>X0 [t0,t1,t4,t12,v15] H12) (
 opt (aA .gtr t12 t13) λv16=>ifB v16 (
 opt (aI 2 t0 t1) λv17=>opt (aE 2 v17 H12) λv18=>opt (aI 2 t0 t13) λv19=>opt (aE 2 v19 H12) λv20=>opt (aI 2 t0 t13) λv21=>opt (aH 2 v21 v18 H12) λH13=>opt (aI 2 t0 t1) λv22=>opt (aH 2 v22 v20 H13) λH14=>Q (.tuple #[t13,(.bool true)]) H14) (
 opt (aI 2 t0 t13) λv23=>opt (aE 2 v23 H12) λv24=>opt (aI 2 t0 t12) λv25=>opt (aE 2 v25 H12) λv26=>opt (aI 2 t0 t12) λv27=>opt (aH 2 v27 v24 H12) λH15=>opt (aI 2 t0 t13) λv28=>opt (aH 2 v28 v26 H15) λH16=>opt (aA .add t12 (vi 1)) λv29=>opt (aA .sub t13 (vi 1)) λv30=>lp5 (F.f124_l3 E Q) [t0,t1,t4,v29,v30] H16))
def F.f124_l1:T2:=λE Q t0 t1 t4 t12 t13 H X0 =>
 opt (aA .leq t12 t13) λv1=>gV v1 true t4 H λv2 H1=>gV v1 true t0 H1 λv3 H2=>gV v1 true t12 H2 λv4 H3=>gO v1 true (aI 2 v3 v4) H3 λv5 H4=>gO v1 true (aE 2 v5 H4) H4 λv6 H5=>gV v1 true t0 H5 λv7 H6=>gV v1 true t1 H6 λv8 H7=>gO v1 true (aI 2 v7 v8) H7 λv9 H8=>gO v1 true (aE 2 v9 H8) H8 λv10 H9=>gd v1 true (λk=>fQ E.call v2 [v6,v10] H9 λv h=>k v h) H9 λv11 H10=>gO v1 true (aA .lss v11 (vi 0)) H10 λv12 H11=>opt (pick v1 v12 (.bool false)) λv13=>ifB v13 (
 opt (aA .add t12 (vi 1)) λv14=>X0 [t0,t1,t4,v14,t13] H11) (
 lp5 (F.f124_l2 E Q) [t0,t1,t4,t12,t13] H11)
def F.f124:T7:=λE x0 x1 x2 x3 x4 H Q =>
 opt (aI 2 x0 x3) λv1=>opt (aE 2 v1 H) λv2=>opt (aI 2 x0 x1) λv3=>opt (aE 2 v3 H) λv4=>opt (aI 2 x0 x1) λv5=>opt (aH 2 v5 v2 H) λH1=>opt (aI 2 x0 x3) λv6=>opt (aH 2 v6 v4 H1) λH2=>opt (aA .add x1 (vi 1)) λv7=>opt (aA .sub x2 (vi 1)) λv8=>lp5 (F.f124_l1 E Q) [x0,x1,x4,v7,v8] H2

def F.f9:T0:=λE x0 H Q =>
 opt (aA .neq x0 x0) λv1=>Q v1 H

def F.f100:T1:=λE x0 x1 H Q =>
 opt (oV max2 [x0,vi 0]) λv1=>opt (oV min2 [v1,vi 5]) λv2=>opt (aA .mul (vi 8) v2) λv3=>opt (aA .add (vi 16) v3) λv4=>opt (aS .u32 v4) λv5=>ifB x1 (
 opt (aA .add v5 (.int .u32 4)) λv6=>Q v6 H) (
 Q v5 H)

def F.f65:T8:=λE x0 x1 x2 H Q =>
 mk (eQ x1) H λv1 H1=>opt (aO x0) λv2=>opt (aB v2 0) λv3=>E.call 57 [v3,x2] H1 λv4 H2=>opt (aO x0) λv5=>opt (aB v5 0) λv6=>opt (aB v1 0) λv7=>opt (aD v7 H2) λv8=>E.call 111 [v8,(.bool false)] H2 λv9 H3=>E.call 55 [v9] H3 λv10 H4=>E.call 54 [v6,v10] H4 λv11 H5=>Q (.tuple #[]) H5

def F.f64:T7:=λE x0 x1 x2 x3 x4 H Q =>
 mk (eQ x1) H λv1 H1=>opt (aB v1 3) λv2=>opt (aD v2 H1) λv3=>opt (aA .shr v3 (.int .u64 32)) λv4=>opt (aS .u32 v4) λv5=>opt (aB v1 3) λv6=>opt (aD v6 H1) λv7=>opt (aS .u32 v7) λv8=>opt (aO x0) λv9=>opt (aB v9 0) λv10=>opt (aO x0) λv11=>opt (aB v11 0) λv12=>E.call 53 [v10] H1 λv13 H2=>E.call 53 [v12] H2 λv14 H3=>opt (aO x0) λv15=>opt (aB v15 0) λv16=>E.call 56 [v16,(.int .u16 32),v5,x3,v13] H3 λv17 H4=>opt (aO x0) λv18=>opt (aB v18 0) λv19=>E.call 57 [v19,v13] H4 λv20 H5=>opt (aO x0) λv21=>opt (aB v21 0) λv22=>E.call 56 [v22,(.int .u16 16),v5,v14,x4] H5 λv23 H6=>opt (aE 4 v1 H6) λv24=>E.call 112 [x0,v24,v14] H6 λv25 H7=>opt (aO x0) λv26=>opt (aB v26 0) λv27=>E.call 56 [v27,x2,v8,x3,x4] H7 λv28 H8=>Q (.tuple #[]) H8

def F.f20:T0:=λE x0 H Q =>
 bI [(.int .u16 0),(.int .u8 0),(.int .u8 0),(.int .u32 0)] H λv1 H1=>opt (aK [(0,1),(1,1),(2,1),(3,1)] #[(.int .u16 0),(.int .u8 0),(.int .u8 0),(.int .u32 0)] [(0,(.int .u16 84)),(3,x0)]) λv2=>opt (aH 4 v1 v2 H1) λH2=>opt (aE 4 v1 H2) λv3=>Q v3 H2

def F.f22:T0:=λE x0 H Q =>
 bI [(.int .u16 0),(.int .u8 0),(.int .u8 0),(.int .u32 0)] H λv1 H1=>opt (aK [(0,1),(1,1),(2,1),(3,1)] #[(.int .u16 0),(.int .u8 0),(.int .u8 0),(.int .u32 0)] [(0,(.int .u16 5)),(3,x0)]) λv2=>opt (aH 4 v1 v2 H1) λH2=>opt (aE 4 v1 H2) λv3=>Q v3 H2

def F.f75_l1:T3:=λE Q t0 t12 t13 t14 H X0 =>
 opt (aA .lss t14 t13) λv1=>ifB v1 (
 opt (aI 3 t12 t14) λv2=>opt (aE 3 v2 H) λv3=>bI [(.int .u32 0),(.string ⟨#[]⟩),vi 0] H λv4 H1=>opt (aH 3 v4 v3 H1) λH2=>opt (aO t0) λv5=>opt (aB v5 3) λv6=>opt (aD v6 H2) λv7=>opt (aB v4 1) λv8=>opt (aD v8 H2) λv9=>opt (aO t0) λv10=>opt (aB v10 4) λv11=>opt (aD v11 H2) λv12=>opt (aB v4 0) λv13=>opt (aD v13 H2) λv14=>opt (aE 3 v4 H2) λv15=>opt (aE 3 v4 H2) λv16=>gN (oW 1 (.agg #[(.int .u32 0),(.string ⟨#[]⟩),vi 0]) v7 v9 H2) λv17 H3=>aE 3 v4 H3=aE 3 v4 H2 /\
 aE 3 v4 H3=aE 3 v4 H2 /\
 aD v13 H3=aD v13 H2 /\
 opt (ext v17 1) λv18=>opt (lJ v7 v18 v15 H3) λH4=>aE 3 v4 H4=aE 3 v4 H2 /\
 aD v13 H4=aD v13 H2 /\
 gN (oW 0 (.agg #[(.int .u32 0),(.string ⟨#[]⟩),vi 0]) v12 v14 H4) λv19 H5=>aE 3 v4 H5=aE 3 v4 H2 /\
 opt (ext v19 1) λv20=>opt (lJ v12 v20 v16 H5) λH6=>opt (aA .add t14 (vi 1)) λv21=>X0 [t0,t12,t13,v21] H6) (
 opt (aO t0) λv22=>opt (aB v22 6) λv23=>E.call 27 [v23,vi 1] H λv24 H7=>Q (.tuple #[]) H7)
def F.f75:T0:=λE x0 H Q =>
 pD H λv1 H1=>pD H1 λv2 H2=>opt (aO x0) λv3=>opt (aB v3 3) λv4=>opt (bD v4 v1 H2) λH3=>opt (aO x0) λv5=>opt (aB v5 4) λv6=>opt (bD v6 v2 H3) λH4=>E.call 143 [] H4 λv7 H5=>opt (lenSlc v7) λv8=>lp4 (F.f75_l1 E Q) [x0,v7,v8,vi 0] H5

def F.f138_j2:T12:=λE Q t0 t9 t10 H =>
 opt (aI 1 t9 t10) λv1=>opt (bD v1 t0 H) λH1=>opt (aA .add t10 (vi 1)) λv2=>opt (kV 1 t9 none (some v2) none H1) λv3=>Q v3 H1
def F.f138_l1:T5:=λE Q t0 t1 t2 t3 t9 t10 H X0 =>
 opt (aA .lss t10 t3) λv1=>ifB v1 (
 E.call 146 [t0,t1] H λv2 H1=>opt (aA .lss v2 (vi 0)) λv3=>ifB v3 (
 F.f138_j2 E Q t0 t9 t10 H1) (
 opt (aA .add v2 t2) λv4=>opt (lN t0 none (some v4)) λv5=>opt (aI 1 t9 t10) λv6=>opt (bD v6 v5 H1) λH2=>opt (fV t1) λv7=>opt (aA .add v2 v7) λv8=>opt (lN t0 (some v8) none) λv9=>opt (aA .add t10 (vi 1)) λv10=>X0 [v9,t1,t2,t3,t9,v10] H2)) (
 F.f138_j2 E Q t0 t9 t10 H)
def F.f138_j1:T21:=λE Q t0 t1 t2 t3 H =>
 opt (fV t0) λv1=>opt (aA .add v1 (vi 1)) λv2=>opt (oV min2 [t3,v2]) λv3=>mk (sW 1 16 #[(.string ⟨#[]⟩)] v3 v3) H λv4 H1=>opt (aA .sub v3 (vi 1)) λv5=>lp6 (F.f138_l1 E Q) [t0,t1,t2,v5,v4,vi 0] H1
def F.f138:T4:=λE x0 x1 x2 x3 H Q =>
 opt (aA .eql x3 (vi 0)) λv1=>ifB v1 (
 Q (.slice none 0 0) H) (
 opt (mA .eql x1 (.string ⟨#[]⟩)) λv2=>ifB v2 (
 E.call 144 [x0,x3] H λv3 H1=>Q v3 H1) (
 opt (aA .lss x3 (vi 0)) λv4=>ifB v4 (
 E.call 145 [x0,x1] H λv5 H2=>opt (aA .add v5 (vi 1)) λv6=>F.f138_j1 E Q x0 x1 x2 v6 H2) (
 F.f138_j1 E Q x0 x1 x2 x3 H)))

def F.f101_l1:T3:=λE Q t2 t3 t21 t22 H X0 =>
 opt (aA .lss t22 (vi 6)) λv1=>ifB v1 (
 opt (zY 6 1 t21 t22) λv2=>opt (aA .mul (vi 8) t22) λv3=>opt (aA .add (vi 16) v3) λv4=>opt (oZ 64 1 t3 (some v4) none none) λv5=>E.call 133 [v5,v2,vi 8] H λv6 H1=>opt (aA .add t22 (vi 1)) λv7=>X0 [t2,t3,t21,v7] H1) (
 opt (aE 64 t3 H) λv8=>opt (aH 64 t2 v8 H) λH2=>opt (aE 64 t2 H2) λv9=>Q v9 H2)
def F.f101:T0:=λE x0 H Q =>
 mk (eQ x0) H λv1 H1=>bI (zs 64 (.int .u8 0)) H1 λv2 H2=>bI (zs 64 (.int .u8 0)) H2 λv3 H3=>opt (oZ 64 1 v3 (some (vi 0)) none none) λv4=>opt (aB v1 0) λv5=>opt (aD v5 H3) λv6=>opt (aS .u64 v6) λv7=>E.call 133 [v4,v7,vi 4] H3 λv8 H4=>opt (oZ 64 1 v3 (some (vi 4)) none none) λv9=>opt (aB v1 1) λv10=>opt (aD v10 H4) λv11=>opt (aS .u64 v11) λv12=>E.call 133 [v9,v12,vi 4] H4 λv13 H5=>opt (oZ 64 1 v3 (some (vi 8)) none none) λv14=>opt (aB v1 2) λv15=>opt (aD v15 H5) λv16=>E.call 133 [v14,v16,vi 8] H5 λv17 H6=>opt (aB v1 3) λv18=>opt (aE 6 v18 H6) λv19=>lp4 (F.f101_l1 E Q) [v2,v3,v19,vi 0] H6

def F.f105_l1:T3:=λE Q t5 t10 t11 t12 H X0 =>
 opt (aA .lss t12 t11) λv1=>ifB v1 (
 opt (aI 1 t10 t12) λv2=>opt (aD v2 H) λv3=>opt (aS .u64 v3) λv4=>opt (aA .mul (vi 8) t12) λv5=>opt (aA .shl v4 v5) λv6=>opt (aA .or t5 v6) λv7=>opt (aA .add t12 (vi 1)) λv8=>X0 [v7,t10,t11,v8] H) (
 Q t5 H)
def F.f105:T1:=λE x0 x1 H Q =>
 opt (kV 1 x0 none (some x1) none H) λv1=>opt (lenSlc v1) λv2=>lp4 (F.f105_l1 E Q) [(.int .u64 0),v1,v2,vi 0] H

def F.f128_l1:T2:=λE Q t0 t2 t4 t10 t11 H X0 =>
 opt (aA .neq t10 t11) λv1=>ifB v1 (
 opt (aA .gtr t10 t11) λv2=>ifB v2 (
 opt (aA .sub t2 t10) λv3=>E.call 147 [t0,v3,t2,t11,t4] H λv4 H1=>opt (aA .sub t10 t11) λv5=>X0 [t0,t2,t4,v5,t11] H1) (
 opt (aA .sub t2 t10) λv6=>opt (aA .add t2 t11) λv7=>opt (aA .sub v7 t10) λv8=>E.call 147 [t0,v6,v8,t10,t4] H λv9 H2=>opt (aA .sub t11 t10) λv10=>X0 [t0,t2,t4,t10,v10] H2)) (
 opt (aA .sub t2 t10) λv11=>E.call 147 [t0,v11,t2,t10,t4] H λv12 H3=>Q (.tuple #[]) H3)
def F.f128:T7:=λE x0 x1 x2 x3 x4 H Q =>
 opt (aA .sub x2 x1) λv1=>opt (aA .sub x3 x2) λv2=>lp5 (F.f128_l1 E Q) [x0,x2,x4,v1,v2] H

def F.f110_l1:T3:=λE Q t0 t3 t7 t8 H X0 =>
 opt (aA .lss t8 t7) λv1=>ifB v1 (
 opt (aE 4 t3 H) λv2=>opt (aI 4 t0 t8) λv3=>opt (aE 4 v3 H) λv4=>opt (iE [0,0,0,0] .eql v2 v4) λv5=>ifB v5 (
 Q t8 H) (
 opt (aA .add t8 (vi 1)) λv6=>X0 [t0,t3,t7,v6] H)) (
 Q (.int .i64 (-1)) H)
def F.f110:T1:=λE x0 x1 H Q =>
 mk (eQ x1) H λv1 H1=>opt (lenSlc x0) λv2=>lp4 (F.f110_l1 E Q) [x0,v1,v2,vi 0] H1

def F.f129_j1:T17:=λE Q X0 t0 t2 t3 t4 t10 t11 H =>
 opt (aA .add t3 t10) λv1=>opt (aI 2 t0 v1) λv2=>opt (aE 2 v2 H) λv3=>opt (aA .add t3 t11) λv4=>opt (aI 2 t0 v4) λv5=>opt (aE 2 v5 H) λv6=>fQ E.call t4 [v3,v6] H λv7 H1=>opt (aA .lss v7 (vi 0)) λv8=>opt (un .not v8) λv9=>ifB v9 (
 Q (.tuple #[]) H1) (
 opt (aA .add t3 t10) λv10=>opt (aA .add t3 t11) λv11=>opt (aA .add t3 t11) λv12=>opt (aI 2 t0 v12) λv13=>opt (aE 2 v13 H1) λv14=>opt (aA .add t3 t10) λv15=>opt (aI 2 t0 v15) λv16=>opt (aE 2 v16 H1) λv17=>opt (aI 2 t0 v10) λv18=>opt (aH 2 v18 v14 H1) λH2=>opt (aI 2 t0 v11) λv19=>opt (aH 2 v19 v17 H2) λH3=>X0 [t0,t2,t3,t4,t11] H3)
def F.f129_l1:T2:=λE Q t0 t2 t3 t4 t10 H X0 =>
 opt (aA .mul (vi 2) t10) λv1=>opt (aA .add v1 (vi 1)) λv2=>opt (aA .geq v2 t2) λv3=>ifB v3 (
 Q (.tuple #[]) H) (
 opt (aA .add v2 (vi 1)) λv4=>opt (aA .lss v4 t2) λv5=>gV v5 true t4 H λv6 H1=>gV v5 true t0 H1 λv7 H2=>gV v5 true t3 H2 λv8 H3=>gV v5 true v2 H3 λv9 H4=>gO v5 true (aA .add v8 v9) H4 λv10 H5=>gO v5 true (aI 2 v7 v10) H5 λv11 H6=>gO v5 true (aE 2 v11 H6) H6 λv12 H7=>gV v5 true t0 H7 λv13 H8=>gV v5 true t3 H8 λv14 H9=>gV v5 true v2 H9 λv15 H10=>gO v5 true (aA .add v14 v15) H10 λv16 H11=>gO v5 true (aA .add v16 (vi 1)) H11 λv17 H12=>gO v5 true (aI 2 v13 v17) H12 λv18 H13=>gO v5 true (aE 2 v18 H13) H13 λv19 H14=>gd v5 true (λk=>fQ E.call v6 [v12,v19] H14 λv h=>k v h) H14 λv20 H15=>gO v5 true (aA .lss v20 (vi 0)) H15 λv21 H16=>opt (pick v5 v21 (.bool false)) λv22=>ifB v22 (
 opt (aA .add v2 (vi 1)) λv23=>F.f129_j1 E Q X0 t0 t2 t3 t4 t10 v23 H16) (
 F.f129_j1 E Q X0 t0 t2 t3 t4 t10 v2 H16))
def F.f129:T7:=λE x0 x1 x2 x3 x4 H Q =>
 lp5 (F.f129_l1 E Q) [x0,x2,x3,x4,x1] H

def F.f121:T0:=λE x0 H Q =>
 opt (aS .u64 x0) λv1=>E.call 97 [v1] H λv2 H1=>opt (aA .shl (.int .u64 1) v2) λv3=>Q v3 H1

def F.f133:T0:=λE x0 H Q =>
 opt (aO x0) λv1=>opt (aD v1 H) λv2=>opt (aO x0) λv3=>opt (aD v3 H) λv4=>opt (aA .shl v4 (.int .u64 13)) λv5=>opt (aA .xor v2 v5) λv6=>opt (aO x0) λv7=>opt (bD v7 v6 H) λH1=>opt (aO x0) λv8=>opt (aD v8 H1) λv9=>opt (aO x0) λv10=>opt (aD v10 H1) λv11=>opt (aA .shr v11 (.int .u64 7)) λv12=>opt (aA .xor v9 v12) λv13=>opt (aO x0) λv14=>opt (bD v14 v13 H1) λH2=>opt (aO x0) λv15=>opt (aD v15 H2) λv16=>opt (aO x0) λv17=>opt (aD v17 H2) λv18=>opt (aA .shl v18 (.int .u64 17)) λv19=>opt (aA .xor v16 v19) λv20=>opt (aO x0) λv21=>opt (bD v21 v20 H2) λH3=>opt (aO x0) λv22=>opt (aD v22 H3) λv23=>Q v23 H3

def F.f119:T4:=λE x0 x1 x2 x3 H Q =>
 opt (aA .sub x1 (vi 1)) λv1=>opt (aA .add x1 (vi 1)) λv2=>E.call 140 [x0,v1,x1,v2,x2,x3] H λv3 H1=>Q v3 H1

def F.f120(E:Sy)(x0 x1 x2 x3 x4 x5:Value)(H:AH)(Q:VK):Prop :=
 E.call 148 [x0,x1,x2,x4,x5] H λv1 H1=>opt (ext v1 0) λv2=>opt (ext v1 1) λv3=>E.call 148 [x0,v3,x3,x4,x5] H1 λv4 H2=>opt (ext v4 0) λv5=>opt (ext v4 1) λv6=>E.call 148 [x0,v2,v5,x4,x5] H2 λv7 H3=>opt (ext v7 0) λv8=>opt (ext v7 1) λv9=>Q v9 H3

def F.f77:T10:=λE H Q =>
 opt (aK [(0,1),(1,1),(2,1)] #[(.int .u32 0),(.string ⟨#[]⟩),vi 0] [(0,(.int .u32 0)),(1,(.string ⟨#[114,101,97,100]⟩)),(2,(vi 2))]) λv1=>opt (aK [(0,1),(1,1),(2,1)] #[(.int .u32 0),(.string ⟨#[]⟩),vi 0] [(0,(.int .u32 1)),(1,(.string ⟨#[119,114,105,116,101]⟩)),(2,(vi 2))]) λv2=>opt (aK [(0,1),(1,1),(2,1)] #[(.int .u32 0),(.string ⟨#[]⟩),vi 0] [(0,(.int .u32 2)),(1,(.string ⟨#[111,112,101,110]⟩)),(2,(vi 2))]) λv3=>opt (aK [(0,1),(1,1),(2,1)] #[(.int .u32 0),(.string ⟨#[]⟩),vi 0] [(0,(.int .u32 3)),(1,(.string ⟨#[99,108,111,115,101]⟩)),(2,(vi 1))]) λv4=>opt (aK [(0,1),(1,1),(2,1)] #[(.int .u32 0),(.string ⟨#[]⟩),vi 0] [(0,(.int .u32 4)),(1,(.string ⟨#[115,116,97,116]⟩)),(2,(vi 1))]) λv5=>opt (aK [(0,1),(1,1),(2,1)] #[(.int .u32 0),(.string ⟨#[]⟩),vi 0] [(0,(.int .u32 8)),(1,(.string ⟨#[115,101,101,107]⟩)),(2,(vi 2))]) λv6=>opt (aK [(0,1),(1,1),(2,1)] #[(.int .u32 0),(.string ⟨#[]⟩),vi 0] [(0,(.int .u32 32)),(1,(.string ⟨#[100,117,112]⟩)),(2,(vi 1))]) λv7=>opt (aK [(0,1),(1,1),(2,1)] #[(.int .u32 0),(.string ⟨#[]⟩),vi 0] [(0,(.int .u32 39)),(1,(.string ⟨#[112,105,100]⟩)),(2,(vi 0))]) λv8=>opt (aK [(0,1),(1,1),(2,1)] #[(.int .u32 0),(.string ⟨#[]⟩),vi 0] [(0,(.int .u32 41)),(1,(.string ⟨#[115,111,99,107,101,116]⟩)),(2,(vi 0))]) λv9=>opt (aK [(0,1),(1,1),(2,1)] #[(.int .u32 0),(.string ⟨#[]⟩),vi 0] [(0,(.int .u32 42)),(1,(.string ⟨#[99,111,110,110,101,99,116]⟩)),(2,(vi 2))]) λv10=>opt (aK [(0,1),(1,1),(2,1)] #[(.int .u32 0),(.string ⟨#[]⟩),vi 0] [(0,(.int .u32 49)),(1,(.string ⟨#[98,105,110,100]⟩)),(2,(vi 2))]) λv11=>opt (aK [(0,1),(1,1),(2,1)] #[(.int .u32 0),(.string ⟨#[]⟩),vi 0] [(0,(.int .u32 50)),(1,(.string ⟨#[108,105,115,116,101,110]⟩)),(2,(vi 1))]) λv12=>opt (aK [(0,1),(1,1),(2,1)] #[(.int .u32 0),(.string ⟨#[]⟩),vi 0] [(0,(.int .u32 57)),(1,(.string ⟨#[102,111,114,107]⟩)),(2,(vi 0))]) λv13=>opt (aK [(0,1),(1,1),(2,1)] #[(.int .u32 0),(.string ⟨#[]⟩),vi 0] [(0,(.int .u32 60)),(1,(.string ⟨#[101,120,105,116]⟩)),(2,(vi 1))]) λv14=>opt (aK [(0,1),(1,1),(2,1)] #[(.int .u32 0),(.string ⟨#[]⟩),vi 0] [(0,(.int .u32 77)),(1,(.string ⟨#[116,114,117,110,99,97,116,101]⟩)),(2,(vi 2))]) λv15=>opt (aK [(0,1),(1,1),(2,1)] #[(.int .u32 0),(.string ⟨#[]⟩),vi 0] [(0,(.int .u32 78)),(1,(.string ⟨#[114,101,97,100,100,105,114]⟩)),(2,(vi 1))]) λv16=>opt (aK [(0,1),(1,1),(2,1)] #[(.int .u32 0),(.string ⟨#[]⟩),vi 0] [(0,(.int .u32 79)),(1,(.string ⟨#[99,119,100]⟩)),(2,(vi 0))]) λv17=>opt (aK [(0,1),(1,1),(2,1)] #[(.int .u32 0),(.string ⟨#[]⟩),vi 0] [(0,(.int .u32 80)),(1,(.string ⟨#[99,104,100,105,114]⟩)),(2,(vi 1))]) λv18=>opt (aK [(0,1),(1,1),(2,1)] #[(.int .u32 0),(.string ⟨#[]⟩),vi 0] [(0,(.int .u32 82)),(1,(.string ⟨#[114,101,110,97,109,101]⟩)),(2,(vi 2))]) λv19=>opt (aK [(0,1),(1,1),(2,1)] #[(.int .u32 0),(.string ⟨#[]⟩),vi 0] [(0,(.int .u32 83)),(1,(.string ⟨#[109,107,100,105,114]⟩)),(2,(vi 1))]) λv20=>opt (aK [(0,1),(1,1),(2,1)] #[(.int .u32 0),(.string ⟨#[]⟩),vi 0] [(0,(.int .u32 84)),(1,(.string ⟨#[114,109,100,105,114]⟩)),(2,(vi 1))]) λv21=>opt (aK [(0,1),(1,1),(2,1)] #[(.int .u32 0),(.string ⟨#[]⟩),vi 0] [(0,(.int .u32 86)),(1,(.string ⟨#[108,105,110,107]⟩)),(2,(vi 2))]) λv22=>opt (aK [(0,1),(1,1),(2,1)] #[(.int .u32 0),(.string ⟨#[]⟩),vi 0] [(0,(.int .u32 87)),(1,(.string ⟨#[117,110,108,105,110,107]⟩)),(2,(vi 1))]) λv23=>opt (aK [(0,1),(1,1),(2,1)] #[(.int .u32 0),(.string ⟨#[]⟩),vi 0] [(0,(.int .u32 88)),(1,(.string ⟨#[115,121,109,108,105,110,107]⟩)),(2,(vi 2))]) λv24=>opt (aK [(0,1),(1,1),(2,1)] #[(.int .u32 0),(.string ⟨#[]⟩),vi 0] [(0,(.int .u32 89)),(1,(.string ⟨#[114,101,97,100,108,105,110,107]⟩)),(2,(vi 1))]) λv25=>opt (aK [(0,1),(1,1),(2,1)] #[(.int .u32 0),(.string ⟨#[]⟩),vi 0] [(0,(.int .u32 157)),(1,(.string ⟨#[112,114,99,116,108]⟩)),(2,(vi 1))]) λv26=>opt (aK [(0,1),(1,1),(2,1)] #[(.int .u32 0),(.string ⟨#[]⟩),vi 0] [(0,(.int .u32 165)),(1,(.string ⟨#[109,111,117,110,116]⟩)),(2,(vi 2))]) λv27=>opt (aK [(0,1),(1,1),(2,1)] #[(.int .u32 0),(.string ⟨#[]⟩),vi 0] [(0,(.int .u32 166)),(1,(.string ⟨#[117,109,111,117,110,116]⟩)),(2,(vi 1))]) λv28=>opt (aK [(0,1),(1,1),(2,1)] #[(.int .u32 0),(.string ⟨#[]⟩),vi 0] [(0,(.int .u32 317)),(1,(.string ⟨#[115,101,99,99,111,109,112]⟩)),(2,(vi 1))]) λv29=>opt (aK [(0,1),(1,1),(2,1)] #[(.int .u32 0),(.string ⟨#[]⟩),vi 0] [(0,(.int .u32 446)),(1,(.string ⟨#[114,101,115,116,114,105,99,116]⟩)),(2,(vi 1))]) λv30=>mk (bO 30 3 #[(.int .u32 0),(.string ⟨#[]⟩),vi 0] [(0,v1),(1,v2),(2,v3),(3,v4),(4,v5),(5,v6),(6,v7),(7,v8),(8,v9),(9,v10),(10,v11),(11,v12),(12,v13),(13,v14),(14,v15),(15,v16),(16,v17),(17,v18),(18,v19),(19,v20),(20,v21),(21,v22),(22,v23),(23,v24),(24,v25),(25,v26),(26,v27),(27,v28),(28,v29),(29,v30)]) H λv31 H1=>Q v31 H1

def F.f134_l1:T6:=λE Q t0 t1 t5 H X0 =>
 E.call 146 [t0,t1] H λv1 H1=>opt (aA .eql v1 (.int .i64 (-1))) λv2=>ifB v2 (
 Q t5 H1) (
 opt (aA .add t5 (vi 1)) λv3=>opt (fV t1) λv4=>opt (aA .add v1 v4) λv5=>opt (lN t0 (some v5) none) λv6=>X0 [v6,t1,v3] H1)
def F.f134:T1:=λE x0 x1 H Q =>
 opt (fV x1) λv1=>opt (aA .eql v1 (vi 0)) λv2=>ifB v2 (
 E.call 153 [x0] H λv3 H1=>opt (aA .add v3 (vi 1)) λv4=>Q v4 H1) (
 opt (fV x1) λv5=>opt (aA .eql v5 (vi 1)) λv6=>ifB v6 (
 opt (iY x1 (vi 0)) λv7=>E.call 155 [x0,v7] H λv8 H2=>Q v8 H2) (
 lp3 (F.f134_l1 E Q) [x0,x1,vi 0] H))

def F.f135:T1:=λE x0 x1 H Q =>
 E.call 156 [x0,x1] H λv1 H1=>Q v1 H1

def F.f104_l1:T3:=λE Q t0 t1 t7 t8 H X0 =>
 opt (aA .lss t8 t7) λv1=>ifB v1 (
 opt (aA .mul (vi 8) t8) λv2=>opt (aA .shr t1 v2) λv3=>opt (aS .u8 v3) λv4=>opt (aI 1 t0 t8) λv5=>opt (bD v5 v4 H) λH1=>opt (aA .add t8 (vi 1)) λv6=>X0 [t0,t1,t7,v6] H1) (
 Q (.tuple #[]) H)
def F.f104:T8:=λE x0 x1 x2 H Q =>
 lp4 (F.f104_l1 E Q) [x0,x1,x2,vi 0] H

def F.f131_l1:T2:=λE Q t0 t1 t2 t3 t10 H X0 =>
 opt (aA .lss t10 t3) λv1=>ifB v1 (
 opt (aA .add t1 t10) λv2=>opt (aA .add t2 t10) λv3=>opt (aA .add t2 t10) λv4=>opt (aI 3 t0 v4) λv5=>opt (aE 3 v5 H) λv6=>opt (aA .add t1 t10) λv7=>opt (aI 3 t0 v7) λv8=>opt (aE 3 v8 H) λv9=>opt (aI 3 t0 v2) λv10=>opt (aH 3 v10 v6 H) λH1=>opt (aI 3 t0 v3) λv11=>opt (aH 3 v11 v9 H1) λH2=>opt (aA .add t10 (vi 1)) λv12=>X0 [t0,t1,t2,t3,v12] H2) (
 Q (.tuple #[]) H)
def F.f131:T7:=λE x0 x1 x2 x3 x4 H Q =>
 lp5 (F.f131_l1 E Q) [x0,x1,x2,x3,vi 0] H

def F.f122:T7:=λE x0 x1 x2 x3 x4 H Q =>
 opt (aI 2 x0 x2) λv1=>opt (aE 2 v1 H) λv2=>opt (aI 2 x0 x1) λv3=>opt (aE 2 v3 H) λv4=>fQ E.call x4 [v2,v4] H λv5 H1=>opt (aA .lss v5 (vi 0)) λv6=>ifB v6 (
 opt (aO x3) λv7=>opt (aD v7 H1) λv8=>opt (aA .add v8 (vi 1)) λv9=>opt (aO x3) λv10=>opt (bD v10 v9 H1) λH2=>Q (.tuple #[x2,x1]) H2) (
 Q (.tuple #[x1,x2]) H1)

def F.f28_j1:T14:=λE Q X0 t0 t1 t5 t6 t7 t8 t9 t10 H =>
 opt (aA .add t8 (vi 1)) λv1=>opt (iY t0 v1) λv2=>opt (aA .eql v2 t7) λv3=>gV v3 true t0 H λv4 H1=>gV v3 true t8 H1 λv5 H2=>gV v3 true t8 H2 λv6 H3=>gV v3 true t5 H3 λv7 H4=>gO v3 true (aA .add v6 v7) H4 λv8 H5=>gO v3 true (lN v4 (some v5) (some v8)) H5 λv9 H6=>gV v3 true t1 H6 λv10 H7=>gO v3 true (mA .eql v9 v10) H7 λv11 H8=>opt (pick v3 v11 (.bool false)) λv12=>ifB v12 (
 Q t8 H8) (
 opt (aA .add t8 (vi 1)) λv13=>opt (aA .add t10 (vi 1)) λv14=>opt (aD (.pointer (some ⟨E.gid 0,0,none⟩)) H8) λv15=>opt (aA .leq t5 v15) λv16=>gV v16 true v14 H8 λv17 H9=>gV v16 true v13 H9 λv18 H10=>gd v16 true (λk=>E.call 164 [v18] H10 λv h=>k v h) H10 λv19 H11=>gO v16 true (aA .gtr v17 v19) H11 λv20 H12=>opt (pick v16 v20 (.bool false)) λv21=>ifB v21 (
 opt (lN t0 (some v13) none) λv22=>E.call 163 [v22,t1] H12 λv23 H13=>opt (aA .geq v23 (vi 0)) λv24=>ifB v24 (
 opt (aA .add v23 v13) λv25=>Q v25 H13) (
 Q (.int .i64 (-1)) H13)) (
 opt (aD (.pointer (some ⟨E.gid 0,0,none⟩)) H12) λv26=>opt (aA .gtr t5 v26) λv27=>gV v27 true v14 H12 λv28 H14=>gV v27 true v13 H14 λv29 H15=>gO v27 true (aA .shr v29 (.int .u64 4)) H15 λv30 H16=>gO v27 true (aA .add (vi 4) v30) H16 λv31 H17=>gO v27 true (aA .geq v28 v31) H17 λv32 H18=>opt (pick v27 v32 (.bool false)) λv33=>gV v33 true v13 H18 λv34 H19=>gV v33 true t9 H19 λv35 H20=>gO v33 true (aA .lss v34 v35) H20 λv36 H21=>opt (pick v33 v36 (.bool false)) λv37=>ifB v37 (
 opt (lN t0 (some v13) none) λv38=>E.call 165 [v38,t1] H21 λv39 H22=>opt (aA .lss v39 (vi 0)) λv40=>ifB v40 (
 Q (.int .i64 (-1)) H22) (
 opt (aA .add v13 v39) λv41=>Q v41 H22)) (
 X0 [t0,t1,t5,t6,t7,v13,t9,v14] H21)))
def F.f28_l1:T22:=λE Q t0 t1 t5 t6 t7 t8 t9 t10 H X0 =>
 opt (aA .lss t8 t9) λv1=>ifB v1 (
 opt (iY t0 t8) λv2=>opt (aA .neq v2 t6) λv3=>ifB v3 (
 opt (aA .add t8 (vi 1)) λv4=>opt (lN t0 (some v4) (some t9)) λv5=>E.call 162 [v5,t6] H λv6 H1=>opt (aA .lss v6 (vi 0)) λv7=>ifB v7 (
 Q (.int .i64 (-1)) H1) (
 opt (aA .add v6 (vi 1)) λv8=>opt (aA .add t8 v8) λv9=>F.f28_j1 E Q X0 t0 t1 t5 t6 t7 v9 t9 t10 H1)) (
 F.f28_j1 E Q X0 t0 t1 t5 t6 t7 t8 t9 t10 H)) (
 Q (.int .i64 (-1)) H)
def F.f28:T1:=λE x0 x1 H Q =>
 opt (fV x1) λv1=>opt (aA .eql v1 (vi 0)) λv2=>gV v2 false x1 H λv3 H1=>gV v2 false x0 H1 λv4 H2=>gO v2 false (mA .eql v3 v4) H2 λv5 H3=>opt (pick v2 (.bool true) v5) λv6=>ifB v6 (
 Q (vi 0) H3) (
 opt (aA .eql v1 (vi 1)) λv7=>ifB v7 (
 opt (iY x1 (vi 0)) λv8=>E.call 162 [x0,v8] H3 λv9 H4=>Q v9 H4) (
 opt (fV x0) λv10=>opt (aA .geq v1 v10) λv11=>ifB v11 (
 Q (.int .i64 (-1)) H3) (
 opt (aD (.pointer (some ⟨E.gid 0,0,none⟩)) H3) λv12=>opt (aA .leq v1 v12) λv13=>gV v13 true x0 H3 λv14 H5=>gO v13 true (fV v14) H5 λv15 H6=>gO v13 true (aA .leq v15 (vi 64)) H6 λv16 H7=>opt (pick v13 v16 (.bool false)) λv17=>ifB v17 (
 E.call 163 [x0,x1] H7 λv18 H8=>Q v18 H8) (
 opt (iY x1 (vi 0)) λv19=>opt (iY x1 (vi 1)) λv20=>opt (fV x0) λv21=>opt (aA .sub v21 v1) λv22=>opt (aA .add v22 (vi 1)) λv23=>lp8 (F.f28_l1 E Q) [x0,x1,v1,v19,v20,vi 0,v23,vi 0] H7))))

def F.f29:T1:=λE x0 x1 H Q =>
 E.call 174 [x0,x1] H λv1 H1=>Q v1 H1
structure aX(E:Sy):Prop where
  mono:aHn E.call
  f87:G4 E.call 4 (F.f87 E)
  f86:G0 E.call 5 (F.f86 E)
  f81:G1 E.call 11 (F.f81 E)
  f72:G0 E.call 6 (F.f72 E)
  f82:G1 E.call 7 (F.f82 E)
  f12:G2 E.call 8 (F.f12 E)
  f13:G2 E.call 12 (F.f13 E)
  f15:G2 E.call 13 (F.f15 E)
  f91:G2 E.call 14 (F.f91 E)
  f143:G1 E.call 15 (F.f143 E)
  f0:G1 E.call 16 (F.f0 E)
  f85:G3 E.call 9 (F.f85 E)
  f11:G1 E.call 17 (F.f11 E)
  f144:G2 E.call 10 (F.f144 E)
  f71:G2 E.call 18 (F.f71 E)
  f10:G3 E.call 19 (F.f10 E)
  f88:G0 E.call 20 (F.f88 E)
  f78:G2 E.call 21 (F.f78 E)
  f79:G1 E.call 22 (F.f79 E)
  f83:G4 E.call 23 (F.f83 E)
  f80:G0 E.call 24 (F.f80 E)
  f145:G1 E.call 25 (F.f145 E)
  f30:G1 E.call 30 (F.f30 E)
  f58:G1 E.call 29 (F.f58 E)
  f14:G1 E.call 28 (F.f14 E)
  f48:G1 E.call 32 (F.f48 E)
  f47:G1 E.call 31 (F.f47 E)
  f76:G1 E.call 33 (F.f76 E)
  f96:G1 E.call 34 (F.f96 E)
  f107:G1 E.call 35 (F.f107 E)
  f95:G2 E.call 36 (F.f95 E)
  f93:G1 E.call 37 (F.f93 E)
  f94:G1 E.call 38 (F.f94 E)
  f3:G3 E.call 39 (F.f3 E)
  f1:G1 E.call 40 (F.f1 E)
  f2:G1 E.call 41 (F.f2 E)
  f150:G2 E.call 26 (F.f150 E)
  f141:G2 E.call 27 (F.f141 E)
  f70:G2 E.call 42 (F.f70 E)
  f103:G2 E.call 43 (F.f103 E)
  f33:G2 E.call 44 (F.f33 E)
  f99:G1 E.call 45 (F.f99 E)
  f84:G0 E.call 46 (F.f84 E)
  f113:G2 E.call 62 (F.f113 E)
  f31:G2 E.call 63 (F.f31 E)
  f36:G1 E.call 66 (F.f36 E)
  f112:G2 E.call 67 (F.f112 E)
  f32:G2 E.call 68 (F.f32 E)
  f59:G2 E.call 52 (F.f59 E)
  f43:G1 E.call 53 (F.f43 E)
  f19:G1 E.call 55 (F.f19 E)
  f45:G2 E.call 54 (F.f45 E)
  f42:G5 E.call 56 (F.f42 E)
  f41:G2 E.call 57 (F.f41 E)
  f61:G3 E.call 58 (F.f61 E)
  f60:G2 E.call 59 (F.f60 E)
  f63:G1 E.call 60 (F.f63 E)
  f44:G1 E.call 61 (F.f44 E)
  f55:G1 E.call 71 (F.f55 E)
  f54:G2 E.call 70 (F.f54 E)
  f97:G1 E.call 72 (F.f97 E)
  f73:G2 E.call 73 (F.f73 E)
  f89:G1 E.call 74 (F.f89 E)
  f90:G1 E.call 75 (F.f90 E)
  f92:G3 E.call 76 (F.f92 E)
  f18:G1 E.call 77 (F.f18 E)
  f16:G1 E.call 47 (F.f16 E)
  f4:G1 E.call 78 (F.f4 E)
  f5:G2 E.call 79 (F.f5 E)
  f147:G2 E.call 48 (F.f147 E)
  f149:G2 E.call 49 (F.f149 E)
  f146:G2 E.call 50 (F.f146 E)
  f69:G2 E.call 80 (F.f69 E)
  f98:G1 E.call 81 (F.f98 E)
  f108:G3 E.call 82 (F.f108 E)
  f34:G2 E.call 83 (F.f34 E)
  f130:G3 E.call 91 (F.f130 E)
  f38:G1 E.call 65 (F.f38 E)
  f6:G2 E.call 64 (F.f6 E)
  f39:G1 E.call 94 (F.f39 E)
  f37:G1 E.call 95 (F.f37 E)
  f66:G1 E.call 97 (F.f66 E)
  f126:G5 E.call 96 (F.f126 E)
  f7:G2 E.call 69 (F.f7 E)
  f46:G2 E.call 86 (F.f46 E)
  f17:G4 E.call 87 (F.f17 E)
  f40:G2 E.call 88 (F.f40 E)
  f62:G4 E.call 89 (F.f62 E)
  f21:G1 E.call 90 (F.f21 E)
  f56:G1 E.call 102 (F.f56 E)
  f49:G2 E.call 103 (F.f49 E)
  f50:G2 E.call 104 (F.f50 E)
  f51:G2 E.call 99 (F.f51 E)
  f53:G2 E.call 100 (F.f53 E)
  f52:G2 E.call 101 (F.f52 E)
  f74:G1 E.call 105 (F.f74 E)
  f57:G1 E.call 106 (F.f57 E)
  f136:G2 E.call 107 (F.f136 E)
  f106:G2 E.call 108 (F.f106 E)
  f102:G2 E.call 84 (F.f102 E)
  f148:G2 E.call 85 (F.f148 E)
  f118:G4 E.call 115 (F.f118 E)
  f132:G5 E.call 116 (F.f132 E)
  f111:G2 E.call 93 (F.f111 E)
  f8:G1 E.call 92 (F.f8 E)
  f35:G1 E.call 117 (F.f35 E)
  f109:G2 E.call 118 (F.f109 E)
  f68:G1 E.call 128 (F.f68 E)
  f117:G4 E.call 119 (F.f117 E)
  f116:G4 E.call 120 (F.f116 E)
  f114:G4 E.call 121 (F.f114 E)
  f115:G4 E.call 122 (F.f115 E)
  f127:G4 E.call 123 (F.f127 E)
  f123:G4 E.call 124 (F.f123 E)
  f125:G5 E.call 125 (F.f125 E)
  f124:G5 E.call 126 (F.f124 E)
  f9:G1 E.call 98 (F.f9 E)
  f100:G2 E.call 111 (F.f100 E)
  f65:G3 E.call 112 (F.f65 E)
  f64:G5 E.call 113 (F.f64 E)
  f20:G1 E.call 114 (F.f20 E)
  f22:G1 E.call 129 (F.f22 E)
  f75:G1 E.call 131 (F.f75 E)
  f138:G4 E.call 132 (F.f138 E)
  f101:G1 E.call 109 (F.f101 E)
  f105:G2 E.call 110 (F.f105 E)
  f128:G5 E.call 134 (F.f128 E)
  f110:G2 E.call 135 (F.f110 E)
  f129:G5 E.call 136 (F.f129 E)
  f121:G1 E.call 137 (F.f121 E)
  f133:G1 E.call 138 (F.f133 E)
  f119:G4 E.call 139 (F.f119 E)
  f120:G6 E.call 140 (F.f120 E)
  f77:G0 E.call 143 (F.f77 E)
  f134:G2 E.call 145 (F.f134 E)
  f135:G2 E.call 146 (F.f135 E)
  f104:G3 E.call 133 (F.f104 E)
  f131:G5 E.call 147 (F.f131 E)
  f122:G5 E.call 148 (F.f122 E)
  f28:G2 E.call 156 (F.f28 E)
  f29:G2 E.call 162 (F.f29 E)
  f140:∀ x0 x1 H Q,mG x0 x1 H Q->E.call 51 [x0,x1] H Q
  f139:∀ x0 x1 H Q,aBz 131 E.call x0 x1 H Q->E.call 130 [x0,x1] H Q
  f23:∀ x0 x1 H Q,uS x0 x1 H Q->E.call 155 [x0,x1] H Q
  f25:∀ x0 x1 H Q,uQ x0 x1 H Q->E.call 174 [x0,x1] H Q
end Go.AM
