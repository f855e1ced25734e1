/- THE FUNCTIONS, AS THE ABSTRACT MACHINE SEES THEM: written by program (gen2.py). -/
import Derived.Test.YtlfflgnaoelplaaGreatDoorV1207A1
set_option linter.all false
set_option linter.unusedVariables false
namespace Go.AM
abbrev LK:=List Value->AH->Prop
abbrev VK:=Value->AH->Prop
abbrev gO(g:Value)(w:Bool)(o:Option Value)(H:AH)(K:VK):Prop:=gd g w (λk=>opt o λv=>k v H) H K
abbrev gV(g:Value)(w:Bool)(x:Value)(H:AH)(K:VK):Prop:=gd g w (λk=>k x H) H K
@[congr] theorem aKO{g g':Value}{w:Bool}{o:Option Value}{H:AH}{K:VK}(h:g=g'):gO g w o H K=gO g' w o H K:=by rw[h]
@[congr] theorem aKt{g g':Value}{w:Bool}{x:Value}{H:AH}{K:VK}(h:g=g'):gV g w x H K=gV g' w x H K:=by rw[h]
abbrev G0(c:cR)(i:Nat)(F:AH->VK->Prop):Prop:=∀  H Q,F  H Q->c i [] H Q
abbrev G1(c:cR)(i:Nat)(F:Value->AH->VK->Prop):Prop:=∀ x0 H Q,F x0 H Q->c i [x0] H Q
abbrev G2(c:cR)(i:Nat)(F:Value->Value->AH->VK->Prop):Prop:=∀ x0 x1 H Q,F x0 x1 H Q->c i [x0,x1] H Q
abbrev G3(c:cR)(i:Nat)(F:Value->Value->Value->AH->VK->Prop):Prop:=∀ x0 x1 x2 H Q,F x0 x1 x2 H Q->c i [x0,x1,x2] H Q
abbrev G4(c:cR)(i:Nat)(F:Value->Value->Value->Value->AH->VK->Prop):Prop:=∀ x0 x1 x2 x3 H Q,F x0 x1 x2 x3 H Q->c i [x0,x1,x2,x3] H Q
abbrev G5(c:cR)(i:Nat)(F:Value->Value->Value->Value->Value->AH->VK->Prop):Prop:=∀ x0 x1 x2 x3 x4 H Q,F x0 x1 x2 x3 x4 H Q->c i [x0,x1,x2,x3,x4] H Q
abbrev G6(c:cR)(i:Nat)(F:Value->Value->Value->Value->Value->Value->AH->VK->Prop):Prop:=∀ x0 x1 x2 x3 x4 x5 H Q,F x0 x1 x2 x3 x4 x5 H Q->c i [x0,x1,x2,x3,x4,x5] H Q
abbrev lp2(B:Value->Value->AH->LK->Prop)(l:List Value)(H:AH):Prop:=bY (λl H X=>B (nth l 0) (nth l 1) H X) l H
abbrev lp3(B:Value->Value->Value->AH->LK->Prop)(l:List Value)(H:AH):Prop:=bY (λl H X=>B (nth l 0) (nth l 1) (nth l 2) H X) l H
abbrev lp4(B:Value->Value->Value->Value->AH->LK->Prop)(l:List Value)(H:AH):Prop:=bY (λl H X=>B (nth l 0) (nth l 1) (nth l 2) (nth l 3) H X) l H
abbrev lp5(B:Value->Value->Value->Value->Value->AH->LK->Prop)(l:List Value)(H:AH):Prop:=bY (λl H X=>B (nth l 0) (nth l 1) (nth l 2) (nth l 3) (nth l 4) H X) l H
abbrev lp6(B:Value->Value->Value->Value->Value->Value->AH->LK->Prop)(l:List Value)(H:AH):Prop:=bY (λl H X=>B (nth l 0) (nth l 1) (nth l 2) (nth l 3) (nth l 4) (nth l 5) H X) l H
abbrev lp7(B:Value->Value->Value->Value->Value->Value->Value->AH->LK->Prop)(l:List Value)(H:AH):Prop:=bY (λl H X=>B (nth l 0) (nth l 1) (nth l 2) (nth l 3) (nth l 4) (nth l 5) (nth l 6) H X) l H
abbrev lp8(B:Value->Value->Value->Value->Value->Value->Value->Value->AH->LK->Prop)(l:List Value)(H:AH):Prop:=bY (λl H X=>B (nth l 0) (nth l 1) (nth l 2) (nth l 3) (nth l 4) (nth l 5) (nth l 6) (nth l 7) H X) l H
abbrev T0:Type:=Sy->Value->Value->AH->VK->Prop
abbrev T1:Type:=Sy->Value->Value->Value->AH->VK->Prop
abbrev T2:Type:=Sy->Value->AH->VK->Prop
abbrev T3:Type:=Sy->VK->Value->Value->Value->Value->AH->LK->Prop
abbrev T4:Type:=Sy->Value->Value->Value->Value->AH->VK->Prop
abbrev T5:Type:=Sy->VK->Value->Value->Value->AH->LK->Prop
abbrev T6:Type:=Sy->VK->Value->Value->Value->Value->Value->AH->LK->Prop
abbrev T7:Type:=Sy->VK->Value->Value->Value->Value->Value->Value->AH->LK->Prop
abbrev T8:Type:=Sy->AH->VK->Prop
abbrev T9:Type:=Sy->Value->Value->Value->Value->Value->AH->VK->Prop
abbrev T10:Type:=Sy->VK->LK->Value->Value->Value->Value->Value->Value->Value->Value->Value->AH->Prop
abbrev T11:Type:=Sy->VK->Value->Value->Value->AH->Prop
abbrev T12:Type:=Sy->VK->Value->Value->AH->Prop
abbrev T13:Type:=Sy->VK->LK->Value->Value->Value->Value->AH->LK->Prop
abbrev T14:Type:=Sy->VK->LK->Value->Value->Value->Value->Value->Value->AH->Prop
abbrev T15:Type:=Sy->VK->Value->Value->Value->Value->Value->AH->Prop
abbrev T16:Type:=Sy->VK->Value->Value->Value->Value->Value->Value->Value->AH->Prop
abbrev T17:Type:=Sy->VK->LK->Value->Value->Value->Value->Value->Value->Value->AH->Prop
abbrev T18:Type:=Sy->VK->LK->Value->Value->Value->Value->Value->Value->AH->LK->Prop
abbrev T19:Type:=Sy->VK->Value->AH->Prop
abbrev T20:Type:=Sy->VK->Value->Value->Value->Value->Value->Value->Value->Value->AH->Prop
abbrev T21:Type:=Sy->VK->Value->Value->AH->LK->Prop
abbrev T22:Type:=Sy->VK->LK->Value->Value->Value->Value->Value->Value->Value->Value->AH->Prop
abbrev T23:Type:=Sy->VK->LK->Value->Value->Value->Value->Value->AH->LK->Prop
abbrev T24:Type:=Sy->VK->LK->Value->Value->Value->Value->Value->AH->Prop
def F.f54_j2:T14:=λE Q X0 t5 t6 t7 t57 t58 t59 H =>
 E.call 30 [t5] H λv1 H1=>opt (un .not v1) λv2=>ifB v2 (
 Q (.bool false) H1) (
 opt (aA .add t59 (vi 1)) λv3=>X0 [t5,t6,t7,t57,t58,v3] H1)
def F.f54_j3:T10:=λE Q X0 t5 t6 t7 t9 t12 t40 t57 t58 t59 H =>
 opt (aH 4 t12 H) λv1=>opt (aB t9 3) λv2=>opt (aC v2 H) λv3=>E.call 20 [t5,v1,v3] H λv4 H1=>opt (aA .neq v4 t40) λv5=>ifB v5 (
 Q (.bool false) H1) (
 F.f54_j2 E Q X0 t5 t6 t7 t57 t58 t59 H1)
def F.f54_j4:T10:=λE Q X0 t5 t6 t7 t12 t26 t41 t57 t58 t59 H =>
 opt (aH 2 t26 H) λv1=>opt (aH 4 t12 H) λv2=>E.call 22 [t5,v1,v2] H λv3 H1=>opt (aA .neq v3 t41) λv4=>ifB v4 (
 Q (.bool false) H1) (
 F.f54_j2 E Q X0 t5 t6 t7 t57 t58 t59 H1)
def F.f54_j5:T10:=λE Q X0 t5 t6 t7 t12 t19 t44 t57 t58 t59 H =>
 opt (aH 4 t12 H) λv1=>opt (aH 4 t19 H) λv2=>E.call 24 [t5,v1,v2] H λv3 H1=>opt (aA .neq v3 t44) λv4=>ifB v4 (
 Q (.bool false) H1) (
 F.f54_j2 E Q X0 t5 t6 t7 t57 t58 t59 H1)
def F.f54_j6:T10:=λE Q X0 t5 t6 t7 t24 t26 t45 t57 t58 t59 H =>
 opt (aH 2 t24 H) λv1=>opt (aH 2 t26 H) λv2=>E.call 28 [t5,v1,v2] H λv3 H1=>opt (aA .neq v3 t45) λv4=>ifB v4 (
 Q (.bool false) H1) (
 F.f54_j2 E Q X0 t5 t6 t7 t57 t58 t59 H1)
def F.f54_j1(E:Sy)(Q:VK)(X0:LK)(t5 t6 t7 t9 t10 t11 t12 t13 t14 t15 t16 t17 t57 t58 t59:Value)(H:AH):Prop :=
 opt (aA .neq t13 t16) λv1=>gV v1 false t13 H λv2 H1=>gO v1 false (aA .eql v2 (vi 0)) H1 λv3 H2=>gV v1 false v3 H2 λv4 H3=>gO v4 true (aB t12 0) H3 λv5 H4=>gO v4 true (aH 2 v5 H4) H4 λv6 H5=>gO v4 true (aH 2 t14 H5) H5 λv7 H6=>gd v4 true (λk=>E.call 13 [v6] H6 λv h=>k v h) H6 λv8 H7=>gdC v4 true (aH 2 t14 H7=aH 2 t14 H5) /\
 gO v4 true (fU [0,0] .neq v8 v7) H7 λv9 H8=>gV v4 true v9 H8 λv10 H9=>gO v10 false (aB t12 2) H9 λv11 H10=>gO v10 false (aC v11 H10) H10 λv12 H11=>gV v10 false t15 H11 λv13 H12=>gO v10 false (cH .neq v12 v13) H12 λv14 H13=>gO v4 true (pick v10 (.bool true) v14) H13 λv15 H14=>gV v4 true v15 H14 λv16 H15=>gO v16 false (aB t12 3) H15 λv17 H16=>gO v16 false (aC v17 H16) H16 λv18 H17=>gO v16 false (bI .i64 v18) H17 λv19 H18=>gV v16 false t17 H18 λv20 H19=>gO v16 false (aA .neq v19 v20) H19 λv21 H20=>gO v4 true (pick v16 (.bool true) v21) H20 λv22 H21=>gO v1 false (pick v4 v22 (.bool false)) H21 λv23 H22=>opt (pick v1 (.bool true) v23) λv24=>ifB v24 (
 Q (.bool false) H22) (
 E.call 10 [] H22 λv25 H23=>E.call 9 [t5,v25,t11] H23 λv26 H24=>opt (ext v26 0) λv27=>opt (ext v26 1) λv28=>bV [vi 0,(.int .u16 0),(.string ⟨#[]⟩),(.int .u16 0)] H24 λv29 H25=>opt (storeN 4 v29 v27 H25) λH26=>opt (aH 2 t7 H26) λv30=>E.call 11 [t6,v30,t11] H26 λv31 H27=>opt (ext v31 0) λv32=>opt (ext v31 1) λv33=>opt (ext v31 2) λv34=>bV [vi 0,vi 0] H27 λv35 H28=>opt (storeN 2 v35 v32 H28) λH29=>E.call 10 [] H29 λv36 H30=>E.call 14 [t5,v36,t10,(.bool false)] H30 λv37 H31=>opt (ext v37 0) λv38=>opt (ext v37 1) λv39=>bV [vi 0,(.int .u16 0)] H31 λv40 H32=>opt (storeN 2 v40 v38 H32) λH33=>E.call 10 [] H33 λv41 H34=>E.call 14 [t5,v41,t11,(.bool true)] H34 λv42 H35=>opt (ext v42 0) λv43=>opt (ext v42 1) λv44=>bV [vi 0,(.int .u16 0)] H35 λv45 H36=>opt (storeN 2 v45 v43 H36) λH37=>opt (aH 2 t7 H37) λv46=>E.call 15 [t6,v46,t10,(.bool false)] H37 λv47 H38=>opt (ext v47 0) λv48=>opt (ext v47 1) λv49=>opt (ext v47 2) λv50=>bV [vi 0,vi 0] H38 λv51 H39=>bV [vi 0,vi 0] H39 λv52 H40=>opt (storeN 2 v51 v48 H40) λH41=>opt (storeN 2 v52 v49 H41) λH42=>opt (aH 2 t7 H42) λv53=>E.call 15 [t6,v53,t11,(.bool true)] H42 λv54 H43=>opt (ext v54 0) λv55=>opt (ext v54 1) λv56=>opt (ext v54 2) λv57=>bV [vi 0,vi 0] H43 λv58 H44=>bV [vi 0,vi 0] H44 λv59 H45=>opt (storeN 2 v58 v55 H45) λH46=>opt (storeN 2 v59 v56 H46) λH47=>opt (aB t9 0) λv60=>opt (aC v60 H47) λv61=>opt (aA .rem v61 (.int .u8 11)) λv62=>opt (aA .neq t13 (vi 0)) λv63=>gV v63 true v62 H47 λv64 H48=>gO v63 true (aA .lss v64 (.int .u8 8)) H48 λv65 H49=>opt (pick v63 v65 (.bool false)) λv66=>ifB v66 (
 F.f54_j2 E Q X0 t5 t6 t7 t57 t58 t59 H49) (
 opt (aA .lss v62 (.int .u8 3)) λv67=>ifB v67 (
 opt (aA .add (.int .u8 1) v62) λv68=>opt (aH 4 t12 H49) λv69=>E.call 16 [t5,v69,v68,(.string ⟨#[98]⟩)] H49 λv70 H50=>opt (ext v70 0) λv71=>opt (ext v70 1) λv72=>bV [vi 0,(.int .u16 0)] H50 λv73 H51=>opt (storeN 2 v73 v71 H51) λH52=>opt (aB t14 1) λv74=>opt (aC v74 H52) λv75=>opt (bI .i64 v68) λv76=>E.call 17 [t6,v75,t15,v76,(.string ⟨#[98]⟩)] H52 λv77 H53=>opt (ext v77 0) λv78=>opt (ext v77 1) λv79=>opt (aA .neq v72 v79) λv80=>gO v80 false (aB v73 1) H53 λv81 H54=>gO v80 false (aC v81 H54) H54 λv82 H55=>gO v80 false (bI .i64 v82) H55 λv83 H56=>gV v80 false v78 H56 λv84 H57=>gO v80 false (aA .neq v83 v84) H57 λv85 H58=>opt (pick v80 (.bool true) v85) λv86=>gV v86 false v72 H58 λv87 H59=>gO v86 false (aA .eql v87 (vi 0)) H59 λv88 H60=>gV v86 false v88 H60 λv89 H61=>gO v89 true (aB v73 0) H61 λv90 H62=>gO v89 true (aC v90 H62) H62 λv91 H63=>gO v89 true (aB t12 0) H63 λv92 H64=>gO v89 true (aB v92 0) H64 λv93 H65=>gO v89 true (aC v93 H65) H65 λv94 H66=>gO v89 true (aA .neq v91 v94) H66 λv95 H67=>gO v86 false (pick v89 v95 (.bool false)) H67 λv96 H68=>opt (pick v86 (.bool true) v96) λv97=>ifB v97 (
 Q (.bool false) H68) (
 F.f54_j2 E Q X0 t5 t6 t7 t57 t58 t59 H68)) (
 opt (aA .lss v62 (.int .u8 5)) λv98=>ifB v98 (
 opt (aA .neq t17 (vi 0)) λv99=>ifB v99 (
 E.call 18 [t6,t17] H49 λv100 H69=>opt (un .not v100) λv101=>ifB v101 (
 opt (aB t14 1) λv102=>opt (aC v102 H69) λv103=>opt (aB t9 3) λv104=>opt (aC v104 H69) λv105=>E.call 19 [t6,v103,t15,v105] H69 λv106 H70=>F.f54_j3 E Q X0 t5 t6 t7 t9 t12 v106 t57 t58 t59 H70) (
 F.f54_j3 E Q X0 t5 t6 t7 t9 t12 (vi 16) t57 t58 t59 H69)) (
 F.f54_j3 E Q X0 t5 t6 t7 t9 t12 (vi 2) t57 t58 t59 H49)) (
 opt (aA .eql v62 (.int .u8 5)) λv107=>ifB v107 (
 opt (aA .neq v44 (vi 0)) λv108=>ifB v108 (
 F.f54_j2 E Q X0 t5 t6 t7 t57 t58 t59 H49) (
 opt (aB v58 0) λv109=>opt (aC v109 H49) λv110=>opt (aB t14 0) λv111=>opt (aC v111 H49) λv112=>opt (aA .eql v110 v112) λv113=>ifB v113 (
 opt (aB t14 1) λv114=>opt (aC v114 H49) λv115=>opt (aB v58 1) λv116=>opt (aC v116 H49) λv117=>E.call 21 [t6,v115,t15,v117] H49 λv118 H71=>F.f54_j4 E Q X0 t5 t6 t7 t12 v45 v118 t57 t58 t59 H71) (
 F.f54_j4 E Q X0 t5 t6 t7 t12 v45 (vi 18) t57 t58 t59 H49))) (
 opt (aA .lss v62 (.int .u8 8)) λv119=>ifB v119 (
 opt (aA .neq v28 (vi 0)) λv120=>ifB v120 (
 F.f54_j2 E Q X0 t5 t6 t7 t57 t58 t59 H49) (
 opt (aB v35 1) λv121=>opt (aC v121 H49) λv122=>E.call 12 [t6,v122,v33] H49 λv123 H72=>opt (ext v123 0) λv124=>opt (ext v123 1) λv125=>opt (aA .eql t17 (vi 0)) λv126=>ifB v126 (
 F.f54_j5 E Q X0 t5 t6 t7 t12 v29 (vi 2) t57 t58 t59 H72) (
 opt (aB t14 0) λv127=>opt (aC v127 H72) λv128=>opt (aB v35 0) λv129=>opt (aC v129 H72) λv130=>opt (aA .neq v128 v130) λv131=>ifB v131 (
 F.f54_j5 E Q X0 t5 t6 t7 t12 v29 (vi 18) t57 t58 t59 H72) (
 E.call 18 [t6,t17] H72 λv132 H73=>gV v132 false v125 H73 λv133 H74=>gO v132 false (aA .eql v133 (vi 0)) H74 λv134 H75=>gV v132 false v134 H75 λv135 H76=>gV v135 true t6 H76 λv136 H77=>gV v135 true v124 H77 λv137 H78=>gd v135 true (λk=>E.call 18 [v136,v137] H78 λv h=>k v h) H78 λv138 H79=>gO v132 false (pick v135 v138 (.bool false)) H79 λv139 H80=>opt (pick v132 (.bool true) v139) λv140=>ifB v140 (
 F.f54_j5 E Q X0 t5 t6 t7 t12 v29 (vi 16) t57 t58 t59 H80) (
 opt (aB t14 1) λv141=>opt (aC v141 H80) λv142=>opt (aB v35 1) λv143=>opt (aC v143 H80) λv144=>E.call 23 [t6,v142,t15,v144,v33] H80 λv145 H81=>F.f54_j5 E Q X0 t5 t6 t7 t12 v29 v145 t57 t58 t59 H81))))) (
 opt (aA .eql v62 (.int .u8 8)) λv146=>ifB v146 (
 opt (aA .neq v39 (vi 0)) λv147=>gV v147 false v44 H49 λv148 H82=>gO v147 false (aA .neq v148 (vi 0)) H82 λv149 H83=>opt (pick v147 (.bool true) v149) λv150=>ifB v150 (
 F.f54_j2 E Q X0 t5 t6 t7 t57 t58 t59 H83) (
 opt (aH 2 v51 H83) λv151=>E.call 25 [t6,v151] H83 λv152 H84=>gV v152 true t6 H84 λv153 H85=>gO v152 true (aH 2 v58 H85) H85 λv154 H86=>gd v152 true (λk=>E.call 25 [v153,v154] H86 λv h=>k v h) H86 λv155 H87=>opt (pick v152 v155 (.bool false)) λv156=>ifB v156 (
 opt (aB v51 1) λv157=>opt (aC v157 H87) λv158=>E.call 26 [t6,v158] H87 λv159 H88=>opt (aF v159) λv160=>opt (aB v160 5) λv161=>opt (aC v161 H88) λv162=>opt (aA .gtr v162 (vi 0)) λv163=>gV v163 true t6 H88 λv164 H89=>gO v163 true (aB v58 1) H89 λv165 H90=>gO v163 true (aC v165 H90) H90 λv166 H91=>gd v163 true (λk=>E.call 26 [v164,v166] H91 λv h=>k v h) H91 λv167 H92=>gO v163 true (aF v167) H92 λv168 H93=>gO v163 true (aB v168 5) H93 λv169 H94=>gO v163 true (aC v169 H94) H94 λv170 H95=>gO v163 true (aA .gtr v170 (vi 0)) H95 λv171 H96=>opt (pick v163 v171 (.bool false)) λv172=>ifB v172 (
 opt (aB v51 1) λv173=>opt (aC v173 H96) λv174=>opt (aH 2 v58 H96) λv175=>E.call 27 [t6,v174,v175] H96 λv176 H97=>opt (ext v176 0) λv177=>opt (ext v176 1) λv178=>F.f54_j6 E Q X0 t5 t6 t7 v40 v45 v178 t57 t58 t59 H97) (
 F.f54_j6 E Q X0 t5 t6 t7 v40 v45 (vi 2) t57 t58 t59 H96)) (
 F.f54_j6 E Q X0 t5 t6 t7 v40 v45 (vi 20) t57 t58 t59 H87))) (
 opt (aB v40 1) λv179=>opt (aC v179 H49) λv180=>opt (aB t9 4) λv181=>opt (aC v181 H49) λv182=>opt (aB t9 5) λv183=>opt (aC v183 H49) λv184=>E.call 29 [t5,t6,v180,v182,v184] H49 λv185 H98=>opt (un .not v185) λv186=>gV v186 false t5 H98 λv187 H99=>gV v186 false t6 H99 λv188 H100=>gO v186 false (aB t9 4) H100 λv189 H101=>gO v186 false (aC v189 H101) H101 λv190 H102=>gO v186 false (aA .and v190 (vi 15)) H102 λv191 H103=>gO v186 false (bI .u16 v191) H103 λv192 H104=>gO v186 false (aB t9 5) H104 λv193 H105=>gO v186 false (aC v193 H105) H105 λv194 H106=>gO v186 false (aB t9 4) H106 λv195 H107=>gO v186 false (aC v195 H107) H107 λv196 H108=>gd v186 false (λk=>E.call 29 [v187,v188,v192,v194,v196] H108 λv h=>k v h) H108 λv197 H109=>gO v186 false (un .not v197) H109 λv198 H110=>opt (pick v186 (.bool true) v198) λv199=>ifB v199 (
 Q (.bool false) H110) (
 F.f54_j2 E Q X0 t5 t6 t7 t57 t58 t59 H110))))))))
def F.f54_l1:T7:=λE Q t5 t6 t7 t57 t58 t59 H X0 =>
 opt (aA .lss t59 t58) λv1=>ifB v1 (
 opt (aP 6 t57 t59) λv2=>opt (aH 6 v2 H) λv3=>bV [(.int .u8 0),(.slice none 0 0),(.slice none 0 0),(.bool false),vi 0,vi 0] H λv4 H1=>opt (storeN 6 v4 v3 H1) λH2=>opt (aA .geq t59 (vi 40)) λv5=>ifB v5 (
 Q (.bool true) H2) (
 opt (aB v4 1) λv6=>opt (aC v6 H2) λv7=>opt (aB v4 2) λv8=>opt (aC v8 H2) λv9=>opt (aB v4 3) λv10=>opt (aC v10 H2) λv11=>E.call 8 [v7,(.bool true)] H2 λv12 H3=>aC v10 H3=aC v10 H2 /\
 aC v8 H3=aC v8 H2 /\
 E.call 8 [v9,v11] H3 λv13 H4=>E.call 10 [] H4 λv14 H5=>E.call 9 [t5,v14,v12] H5 λv15 H6=>opt (ext v15 0) λv16=>opt (ext v15 1) λv17=>bV [vi 0,(.int .u16 0),(.string ⟨#[]⟩),(.int .u16 0)] H6 λv18 H7=>opt (storeN 4 v18 v16 H7) λH8=>opt (aH 2 t7 H8) λv19=>E.call 11 [t6,v19,v12] H8 λv20 H9=>opt (ext v20 0) λv21=>opt (ext v20 1) λv22=>opt (ext v20 2) λv23=>bV [vi 0,vi 0] H9 λv24 H10=>opt (storeN 2 v24 v21 H10) λH11=>opt (aB v24 1) λv25=>opt (aC v25 H11) λv26=>E.call 12 [t6,v26,v22] H11 λv27 H12=>opt (ext v27 0) λv28=>opt (ext v27 1) λv29=>opt (aA .neq v29 (vi 0)) λv30=>ifB v30 (
 F.f54_j1 E Q X0 t5 t6 t7 v4 v12 v13 v18 v17 v24 v22 v23 (vi 0) t57 t58 t59 H12) (
 F.f54_j1 E Q X0 t5 t6 t7 v4 v12 v13 v18 v17 v24 v22 v23 v28 t57 t58 t59 H12))) (
 Q (.bool true) H)
def F.f54:T0:=λE x0 x1 H Q =>
 E.call 4 [] H λv1 H1=>opt (un .not v1) λv2=>ifB v2 (
 Q (.bool false) H1) (
 E.call 5 [x0] H1 λv3 H2=>opt (un .not v3) λv4=>ifB v4 (
 Q (.bool true) H2) (
 E.call 6 [x0] H2 λv5 H3=>opt (ext v5 0) λv6=>opt (ext v5 1) λv7=>E.call 7 [] H3 λv8 H4=>bV [vi 0,vi 0] H4 λv9 H5=>opt (storeN 2 v9 v8 H5) λH6=>opt (lenSlc x1) λv10=>lp6 (F.f54_l1 E Q) [v6,v7,v9,x1,v10,vi 0] H6))

def F.f53:T8:=λE H Q =>
 E.call 31 [vi 9] H λv1 H1=>E.call 10 [] H1 λv2 H2=>E.call 9 [v1,v2,(.string ⟨#[47,97]⟩)] H2 λv3 H3=>opt (ext v3 0) λv4=>opt (ext v3 1) λv5=>bV [vi 0,(.int .u16 0),(.string ⟨#[]⟩),(.int .u16 0)] H3 λv6 H4=>opt (storeN 4 v6 v4 H4) λH5=>opt (aH 4 v6 H5) λv7=>E.call 16 [v1,v7,(.int .u8 2),(.string ⟨#[]⟩)] H5 λv8 H6=>opt (ext v8 0) λv9=>opt (ext v8 1) λv10=>bV [vi 0,(.int .u16 0)] H6 λv11 H7=>opt (storeN 2 v11 v9 H7) λH8=>E.call 10 [] H8 λv12 H9=>E.call 9 [v1,v12,(.string ⟨#[47,97]⟩)] H9 λv13 H10=>opt (ext v13 0) λv14=>opt (ext v13 1) λv15=>bV [vi 0,(.int .u16 0),(.string ⟨#[]⟩),(.int .u16 0)] H10 λv16 H11=>opt (storeN 4 v16 v14 H11) λH12=>E.call 10 [] H12 λv17 H13=>E.call 9 [v1,v17,(.string ⟨#[47,97,47,98]⟩)] H13 λv18 H14=>opt (ext v18 0) λv19=>opt (ext v18 1) λv20=>bV [vi 0,(.int .u16 0),(.string ⟨#[]⟩),(.int .u16 0)] H14 λv21 H15=>opt (storeN 4 v21 v19 H15) λH16=>opt (aA .eql v5 (vi 0)) λv22=>gV v22 true v10 H16 λv23 H17=>gO v22 true (aA .eql v23 (vi 0)) H17 λv24 H18=>opt (pick v22 v24 (.bool false)) λv25=>gV v25 true v15 H18 λv26 H19=>gO v25 true (aA .eql v26 (vi 0)) H19 λv27 H20=>opt (pick v25 v27 (.bool false)) λv28=>gV v28 true v20 H20 λv29 H21=>gO v28 true (aA .eql v29 (vi 0)) H21 λv30 H22=>opt (pick v28 v30 (.bool false)) λv31=>gO v31 true (aB v16 3) H22 λv32 H23=>gO v31 true (aC v32 H23) H23 λv33 H24=>gO v31 true (aB v11 1) H24 λv34 H25=>gO v31 true (aC v34 H25) H25 λv35 H26=>gO v31 true (aA .eql v33 v35) H26 λv36 H27=>opt (pick v31 v36 (.bool false)) λv37=>gV v37 true v1 H27 λv38 H28=>gO v37 true (aH 4 v16 H28) H28 λv39 H29=>gO v37 true (aH 4 v21 H29) H29 λv40 H30=>gd v37 true (λk=>E.call 24 [v38,v39,v40] H30 λv h=>k v h) H30 λv41 H31=>gO v37 true (aA .eql v41 (vi 22)) H31 λv42 H32=>opt (pick v37 v42 (.bool false)) λv43=>gV v43 true v1 H32 λv44 H33=>gd v43 true (λk=>E.call 30 [v44] H33 λv h=>k v h) H33 λv45 H34=>opt (pick v43 v45 (.bool false)) λv46=>Q v46 H34

def F.f49_l1:T5:=λE Q t5 t6 t7 H X0 =>
 opt (aA .lss t7 t6) λv1=>ifB v1 (
 opt (aP 14 t5 t7) λv2=>opt (aH 14 v2 H) λv3=>bV [(.int .u8 0),(.int .u8 0),(.int .u8 0),(.int .u8 0),(.int .u8 0),(.int .u8 0),(.string ⟨#[]⟩),vi 0,(.slice none 0 0),(.bool false),(.bool false),(.int .u8 0),(.int .u8 0),(.int .u8 0)] H λv4 H1=>opt (storeN 14 v4 v3 H1) λH2=>opt (aB v4 1) λv5=>opt (aB v5 5) λv6=>opt (aC v6 H2) λv7=>opt (dD v7) λv8=>opt (aA .gtr v8 (vi 200)) λv9=>gO v9 false (aB v4 1) H2 λv10 H3=>gO v9 false (aB v10 7) H3 λv11 H4=>gO v9 false (aC v11 H4) H4 λv12 H5=>gO v9 false (lenSlc v12) H5 λv13 H6=>gO v9 false (aA .gtr v13 (vi 200)) H6 λv14 H7=>opt (pick v9 (.bool true) v14) λv15=>ifB v15 (
 Q (.bool false) H7) (
 opt (aA .add t7 (vi 1)) λv16=>X0 [t5,t6,v16] H7)) (
 Q (.bool true) H)
def F.f49:T2:=λE x0 H Q =>
 opt (lenSlc x0) λv1=>lp3 (F.f49_l1 E Q) [x0,v1,vi 0] H

def F.f48:T2:=λE x0 H Q =>
 E.call 31 [vi 60] H λv1 H1=>E.call 32 [vi 60] H1 λv2 H2=>E.call 33 [v1,v2,x0] H2 λv3 H3=>Q (.tuple #[v1,v2]) H3

def F.f59:T8:=λE H Q =>
 bV [vi 0,vi 0] H λv1 H1=>opt (aV [(0,1),(1,1)] #[vi 0,vi 0] [(0,(vi 0)),(1,(vi 1))]) λv2=>opt (storeN 2 v1 v2 H1) λH2=>opt (aH 2 v1 H2) λv3=>Q v3 H2

def F.f51_j2:T14:=λE Q X0 t5 t6 t8 t11 t12 t13 H =>
 opt (bI .i64 t8) λv1=>opt (lenSlc t5) λv2=>opt (aA .rem v1 v2) λv3=>opt (aP 1 t5 v3) λv4=>opt (aC v4 H) λv5=>opt (cH .add t6 v5) λv6=>opt (aA .add t13 (vi 1)) λv7=>X0 [t5,v6,t11,t12,v7] H
def F.f51_l1:T6:=λE Q t5 t6 t11 t12 t13 H X0 =>
 opt (aA .lss t13 t12) λv1=>ifB v1 (
 opt (aP 1 t11 t13) λv2=>opt (aC v2 H) λv3=>opt (aA .geq t13 (vi 12)) λv4=>ifB v4 (
 Q t6 H) (
 opt (aA .gtr t13 (vi 0)) λv5=>ifB v5 (
 opt (cH .add t6 (.string ⟨#[47]⟩)) λv6=>F.f51_j2 E Q X0 t5 v6 v3 t11 t12 t13 H) (
 F.f51_j2 E Q X0 t5 t6 v3 t11 t12 t13 H))) (
 Q t6 H)
def F.f51_j1:T11:=λE Q t0 t5 t6 H =>
 opt (lenSlc t0) λv1=>lp5 (F.f51_l1 E Q) [t5,t6,t0,v1,vi 0] H
def F.f51:T0:=λE x0 x1 H Q =>
 mk (buildS 13 1 #[(.string ⟨#[]⟩)] [(0,(.string ⟨#[97]⟩)),(1,(.string ⟨#[98]⟩)),(2,(.string ⟨#[99]⟩)),(3,(.string ⟨#[100,46,101]⟩)),(4,(.string ⟨#[102]⟩)),(5,(.string ⟨#[103]⟩)),(6,(.string ⟨#[46,46]⟩)),(7,(.string ⟨#[46]⟩)),(8,(.string ⟨#[]⟩)),(9,(.string ⟨#[110,111,116,104,105,110,103]⟩)),(10,(.string ⟨#[97,98,99,100,101,102,103,104,105,106,107,108,109,110,111]⟩)),(11,(.string ⟨#[120,32,121]⟩)),(12,(.string ⟨#[97,47]⟩))]) H λv1 H1=>ifB x1 (
 F.f51_j1 E Q x0 v1 (.string ⟨#[47]⟩) H1) (
 F.f51_j1 E Q x0 v1 (.string ⟨#[]⟩) H1)

def F.f44:T8:=λE H Q =>
 bV [vi 0,(.int .u16 0)] H λv1 H1=>opt (aV [(0,1),(1,1)] #[vi 0,(.int .u16 0)] [(0,(vi 0)),(1,(.int .u16 1))]) λv2=>opt (storeN 2 v1 v2 H1) λH2=>opt (aH 2 v1 H2) λv3=>Q v3 H2

def F.f127:T1:=λE x0 x1 x2 H Q =>
 mk (eX x1) H λv1 H1=>bV [vi 0,(.int .u16 0),(.string ⟨#[]⟩),(.int .u16 0)] H1 λv2 H2=>opt (aH 2 v1 H2) λv3=>E.call 34 [x0,v3,x2] H2 λv4 H3=>opt (ext v4 0) λv5=>opt (ext v4 1) λv6=>opt (ext v4 2) λv7=>bV [vi 0,(.int .u16 0)] H3 λv8 H4=>opt (storeN 2 v8 v5 H4) λH5=>opt (aA .neq v7 (vi 0)) λv9=>ifB v9 (
 opt (aV [(0,2),(2,1),(3,1)] #[vi 0,(.int .u16 0),(.string ⟨#[]⟩),(.int .u16 0)] []) λv10=>opt (storeN 4 v2 v10 H5) λH6=>opt (aH 4 v2 H6) λv11=>Q (.tuple #[v11,v7]) H6) (
 opt (aF x0) λv12=>opt (aB v12 0) λv13=>opt (aC v13 H5) λv14=>opt (aB v8 1) λv15=>opt (aC v15 H5) λv16=>E.call 35 [v14,v16,v6] H5 λv17 H7=>opt (ext v17 0) λv18=>opt (ext v17 1) λv19=>opt (aA .neq v19 (vi 0)) λv20=>gV v20 true v19 H7 λv21 H8=>gO v20 true (aA .neq v21 (vi 2)) H8 λv22 H9=>opt (pick v20 v22 (.bool false)) λv23=>ifB v23 (
 opt (aV [(0,2),(2,1),(3,1)] #[vi 0,(.int .u16 0),(.string ⟨#[]⟩),(.int .u16 0)] []) λv24=>opt (storeN 4 v2 v24 H9) λH10=>opt (aH 4 v2 H10) λv25=>Q (.tuple #[v25,v19]) H10) (
 opt (aH 2 v8 H9) λv26=>opt (aV [(0,2),(2,1),(3,1)] #[vi 0,(.int .u16 0),(.string ⟨#[]⟩),(.int .u16 0)] [(0,v26),(1,v6),(2,v18)]) λv27=>opt (storeN 4 v2 v27 H9) λH11=>opt (aH 4 v2 H11) λv28=>Q (.tuple #[v28,vi 0]) H11))

def F.f68_l1:T3:=λE Q t0 t6 t9 t12 H X0 =>
 opt (aB t9 4) λv1=>opt (aC v1 H) λv2=>opt (lenSlc v2) λv3=>opt (aA .gtr v3 (vi 0)) λv4=>ifB v4 (
 opt (aH 6 t9 H) λv5=>E.call 37 [t0,v5,(.bool true)] H λv6 H1=>opt (ext v6 0) λv7=>opt (ext v6 1) λv8=>opt (storeN 6 t9 v7 H1) λH2=>opt (aA .neq v8 (vi 0)) λv9=>ifB v9 (
 opt (aV [(0,1),(1,1)] #[vi 0,vi 0] []) λv10=>opt (storeN 2 t6 v10 H2) λH3=>opt (aH 2 t6 H3) λv11=>Q (.tuple #[v11,(.string ⟨#[]⟩),v8]) H3) (
 X0 [t0,t6,t9,t12] H2)) (
 opt (aB t9 0) λv12=>opt (aH 2 v12 H) λv13=>E.call 25 [t0,v13] H λv14 H4=>opt (un .not v14) λv15=>ifB v15 (
 opt (aV [(0,1),(1,1)] #[vi 0,vi 0] []) λv16=>opt (storeN 2 t6 v16 H4) λH5=>opt (aH 2 t6 H5) λv17=>Q (.tuple #[v17,(.string ⟨#[]⟩),vi 20]) H5) (
 opt (dD t12) λv18=>opt (aA .gtr v18 (vi 14)) λv19=>ifB v19 (
 opt (aV [(0,1),(1,1)] #[vi 0,vi 0] []) λv20=>opt (storeN 2 t6 v20 H4) λH6=>opt (aH 2 t6 H6) λv21=>Q (.tuple #[v21,(.string ⟨#[]⟩),vi 36]) H6) (
 E.call 38 [t12] H4 λv22 H7=>opt (un .not v22) λv23=>ifB v23 (
 opt (aV [(0,1),(1,1)] #[vi 0,vi 0] []) λv24=>opt (storeN 2 t6 v24 H7) λH8=>opt (aH 2 t6 H8) λv25=>Q (.tuple #[v25,(.string ⟨#[]⟩),vi 22]) H8) (
 opt (aB t9 0) λv26=>opt (aH 2 v26 H7) λv27=>opt (storeN 2 t6 v27 H7) λH9=>opt (aH 2 t6 H9) λv28=>Q (.tuple #[v28,t12,vi 0]) H9))))
def F.f68:T1:=λE x0 x1 x2 H Q =>
 mk (eX x1) H λv1 H1=>bV [vi 0,vi 0] H1 λv2 H2=>opt (aH 2 v1 H2) λv3=>E.call 36 [x0,v3,x2] H2 λv4 H3=>opt (ext v4 0) λv5=>opt (ext v4 1) λv6=>bV [vi 0,vi 0,vi 0,vi 0,(.slice none 0 0),vi 0] H3 λv7 H4=>opt (storeN 6 v7 v5 H4) λH5=>opt (aA .neq v6 (vi 0)) λv8=>ifB v8 (
 opt (aV [(0,1),(1,1)] #[vi 0,vi 0] []) λv9=>opt (storeN 2 v2 v9 H5) λH6=>opt (aH 2 v2 H6) λv10=>Q (.tuple #[v10,(.string ⟨#[]⟩),v6]) H6) (
 opt (aB v7 4) λv11=>opt (aC v11 H5) λv12=>opt (lenSlc v12) λv13=>opt (aA .sub v13 (vi 1)) λv14=>opt (aA .lss v14 (vi 0)) λv15=>gO v15 false (aB v7 4) H5 λv16 H7=>gO v15 false (aC v16 H7) H7 λv17 H8=>gV v15 false v14 H8 λv18 H9=>gO v15 false (aP 1 v17 v18) H9 λv19 H10=>gO v15 false (aC v19 H10) H10 λv20 H11=>gO v15 false (cH .eql v20 (.string ⟨#[46,46]⟩)) H11 λv21 H12=>opt (pick v15 (.bool true) v21) λv22=>ifB v22 (
 opt (aV [(0,1),(1,1)] #[vi 0,vi 0] []) λv23=>opt (storeN 2 v2 v23 H12) λH13=>opt (aH 2 v2 H13) λv24=>Q (.tuple #[v24,(.string ⟨#[]⟩),vi 16]) H13) (
 opt (aB v7 4) λv25=>opt (aC v25 H12) λv26=>opt (aP 1 v26 v14) λv27=>opt (aC v27 H12) λv28=>mk (buildS 0 1 #[(.string ⟨#[]⟩)] []) H12 λv29 H14=>opt (aB v7 4) λv30=>opt (aC v30 H14) λv31=>opt (dQ 1 v31 none (some v14) none H14) λv32=>gJ (app 1 16 v29 v32 H14) λv33 H15=>opt (aB v7 4) λv34=>opt (aR v34 v33 H15) λH16=>lp4 (F.f68_l1 E Q) [x0,v2,v7,v28] H16))

def F.f70:T1:=λE x0 x1 x2 H Q =>
 E.call 39 [x0,x1] H λv1 H1=>opt (aA .neq v1 (vi 0)) λv2=>ifB v2 (
 Q (.tuple #[vi 0,v1]) H1) (
 E.call 26 [x0,x1] H1 λv3 H2=>E.call 40 [v3,x2] H2 λv4 H3=>opt (aA .lss v4 (vi 0)) λv5=>ifB v5 (
 Q (.tuple #[vi 0,vi 2]) H3) (
 opt (aF v3) λv6=>opt (aB v6 2) λv7=>opt (aC v7 H3) λv8=>opt (aP 2 v8 v4) λv9=>opt (aB v9 1) λv10=>opt (aC v10 H3) λv11=>Q (.tuple #[v11,vi 0]) H3))

def F.f47:T2:=λE x0 H Q =>
 mk (eX x0) H λv1 H1=>bV [vi 0,vi 0] H1 λv2 H2=>opt (aB v1 0) λv3=>opt (aC v3 H2) λv4=>opt (aB v1 1) λv5=>opt (aC v5 H2) λv6=>opt (bI .i64 v6) λv7=>opt (aV [(0,1),(1,1)] #[vi 0,vi 0] [(0,v4),(1,v7)]) λv8=>opt (storeN 2 v2 v8 H2) λH3=>opt (aH 2 v2 H3) λv9=>Q v9 H3

def F.f131_l1:T6:=λE Q t0 t3 t8 t10 t12 H X0 =>
 opt (aB t10 3) λv1=>opt (aC v1 H) λv2=>opt (lenSlc v2) λv3=>opt (aA .gtr v3 (vi 0)) λv4=>ifB v4 (
 gV t3 false t12 H λv5 H1=>opt (pick t3 (.bool true) v5) λv6=>E.call 43 [t10,v6] H1 λv7 H2=>opt (aA .neq v7 (vi 0)) λv8=>ifB v8 (
 opt (aV [(0,1),(1,1)] #[vi 0,(.int .u16 0)] []) λv9=>opt (storeN 2 t8 v9 H2) λH3=>opt (aH 2 t8 H3) λv10=>Q (.tuple #[v10,v7]) H3) (
 X0 [t0,t3,t8,t10,t12] H2)) (
 opt (aF t0) λv11=>opt (aB v11 0) λv12=>opt (aC v12 H) λv13=>opt (aB t10 1) λv14=>opt (aB v14 1) λv15=>opt (aC v15 H) λv16=>E.call 44 [v13,v16] H λv17 H4=>opt (bU dB .eql v17 (.pointer none)) λv18=>ifB v18 (
 opt (aV [(0,1),(1,1)] #[vi 0,(.int .u16 0)] []) λv19=>opt (storeN 2 t8 v19 H4) λH5=>opt (aH 2 t8 H5) λv20=>Q (.tuple #[v20,vi 2]) H5) (
 gV t12 true t0 H4 λv21 H6=>gO t12 true (aB t10 1) H6 λv22 H7=>gO t12 true (aH 2 v22 H7) H7 λv23 H8=>gd t12 true (λk=>E.call 45 [v21,v23] H8 λv h=>k v h) H8 λv24 H9=>gO t12 true (un .not v24) H9 λv25 H10=>opt (pick t12 v25 (.bool false)) λv26=>ifB v26 (
 opt (aV [(0,1),(1,1)] #[vi 0,(.int .u16 0)] []) λv27=>opt (storeN 2 t8 v27 H10) λH11=>opt (aH 2 t8 H11) λv28=>Q (.tuple #[v28,vi 20]) H11) (
 opt (aB t10 1) λv29=>opt (aH 2 v29 H10) λv30=>opt (storeN 2 t8 v30 H10) λH12=>opt (aH 2 t8 H12) λv31=>Q (.tuple #[v31,vi 0]) H12)))
def F.f131:T4:=λE x0 x1 x2 x3 H Q =>
 mk (eX x1) H λv1 H1=>bV [vi 0,(.int .u16 0)] H1 λv2 H2=>opt (aH 2 v1 H2) λv3=>E.call 41 [x0,v3,x2] H2 λv4 H3=>opt (ext v4 0) λv5=>opt (ext v4 1) λv6=>bV [(.pointer none),vi 0,(.int .u16 0),(.slice none 0 0),vi 0] H3 λv7 H4=>opt (storeN 5 v7 v5 H4) λH5=>opt (aA .neq v6 (vi 0)) λv8=>ifB v8 (
 opt (aV [(0,1),(1,1)] #[vi 0,(.int .u16 0)] []) λv9=>opt (storeN 2 v2 v9 H5) λH6=>opt (aH 2 v2 H6) λv10=>Q (.tuple #[v10,v6]) H6) (
 E.call 42 [x2,(.string ⟨#[47]⟩)] H5 λv11 H7=>lp5 (F.f131_l1 E Q) [x0,x3,v2,v7,v11] H7)

def F.f66_l1:T7:=λE Q t0 t3 t8 t9 t11 t13 H X0 =>
 opt (aB t11 4) λv1=>opt (aC v1 H) λv2=>opt (lenSlc v2) λv3=>opt (aA .gtr v3 (vi 0)) λv4=>ifB v4 (
 opt (aH 6 t11 H) λv5=>gV t3 false t13 H λv6 H1=>opt (pick t3 (.bool true) v6) λv7=>E.call 37 [t0,v5,v7] H1 λv8 H2=>opt (ext v8 0) λv9=>opt (ext v8 1) λv10=>opt (storeN 6 t11 v9 H2) λH3=>opt (aA .neq v10 (vi 0)) λv11=>ifB v11 (
 opt (aV [(0,1),(1,1)] #[vi 0,vi 0] []) λv12=>opt (aV [(0,1),(1,1)] #[vi 0,vi 0] []) λv13=>opt (storeN 2 t8 v12 H3) λH4=>opt (storeN 2 t9 v13 H4) λH5=>opt (aH 2 t8 H5) λv14=>opt (aH 2 t9 H5) λv15=>Q (.tuple #[v14,v15,v10]) H5) (
 X0 [t0,t3,t8,t9,t11,t13] H3)) (
 opt (aB t11 0) λv16=>opt (aB v16 1) λv17=>opt (aC v17 H) λv18=>E.call 26 [t0,v18] H λv19 H6=>opt (aF v19) λv20=>opt (aB v20 0) λv21=>opt (aC v21 H6) λv22=>opt (aA .eql v22 (vi 0)) λv23=>ifB v23 (
 opt (aV [(0,1),(1,1)] #[vi 0,vi 0] []) λv24=>opt (aV [(0,1),(1,1)] #[vi 0,vi 0] []) λv25=>opt (storeN 2 t8 v24 H6) λH7=>opt (storeN 2 t9 v25 H7) λH8=>opt (aH 2 t8 H8) λv26=>opt (aH 2 t9 H8) λv27=>Q (.tuple #[v26,v27,vi 2]) H8) (
 gV t13 true t0 H6 λv28 H9=>gO t13 true (aB t11 0) H9 λv29 H10=>gO t13 true (aH 2 v29 H10) H10 λv30 H11=>gd t13 true (λk=>E.call 25 [v28,v30] H11 λv h=>k v h) H11 λv31 H12=>gO t13 true (un .not v31) H12 λv32 H13=>opt (pick t13 v32 (.bool false)) λv33=>ifB v33 (
 opt (aV [(0,1),(1,1)] #[vi 0,vi 0] []) λv34=>opt (aV [(0,1),(1,1)] #[vi 0,vi 0] []) λv35=>opt (storeN 2 t8 v34 H13) λH14=>opt (storeN 2 t9 v35 H14) λH15=>opt (aH 2 t8 H15) λv36=>opt (aH 2 t9 H15) λv37=>Q (.tuple #[v36,v37,vi 20]) H15) (
 opt (aB t11 0) λv38=>opt (aH 2 v38 H13) λv39=>opt (aB t11 2) λv40=>opt (aH 2 v40 H13) λv41=>opt (storeN 2 t8 v39 H13) λH16=>aH 2 v40 H16=aH 2 v40 H13 /\
 opt (storeN 2 t9 v41 H16) λH17=>opt (aH 2 t8 H17) λv42=>opt (aH 2 t9 H17) λv43=>Q (.tuple #[v42,v43,vi 0]) H17)))
def F.f66:T4:=λE x0 x1 x2 x3 H Q =>
 mk (eX x1) H λv1 H1=>bV [vi 0,vi 0] H1 λv2 H2=>bV [vi 0,vi 0] H2 λv3 H3=>opt (aH 2 v1 H3) λv4=>E.call 36 [x0,v4,x2] H3 λv5 H4=>opt (ext v5 0) λv6=>opt (ext v5 1) λv7=>bV [vi 0,vi 0,vi 0,vi 0,(.slice none 0 0),vi 0] H4 λv8 H5=>opt (storeN 6 v8 v6 H5) λH6=>opt (aA .neq v7 (vi 0)) λv9=>ifB v9 (
 opt (aV [(0,1),(1,1)] #[vi 0,vi 0] []) λv10=>opt (aV [(0,1),(1,1)] #[vi 0,vi 0] []) λv11=>opt (storeN 2 v2 v10 H6) λH7=>opt (storeN 2 v3 v11 H7) λH8=>opt (aH 2 v2 H8) λv12=>opt (aH 2 v3 H8) λv13=>Q (.tuple #[v12,v13,v7]) H8) (
 opt (dD x2) λv14=>opt (aA .sub v14 (vi 1)) λv15=>opt (eZ x2 v15) λv16=>opt (aA .eql v16 (.int .u8 47)) λv17=>lp6 (F.f66_l1 E Q) [x0,x3,v2,v3,v8,v17] H6)

def F.f122:T4:=λE x0 x1 x2 x3 H Q =>
 mk (eX x1) H λv1 H1=>bV [vi 0,(.int .u16 0)] H1 λv2 H2=>opt (bU dB .eql x0 (.pointer none)) λv3=>ifB v3 (
 opt (aV [(0,1),(1,1)] #[vi 0,(.int .u16 0)] []) λv4=>opt (storeN 2 v2 v4 H2) λH3=>opt (aH 2 v2 H3) λv5=>Q (.tuple #[v5,vi 201]) H3) (
 opt (aF x0) λv6=>opt (aB v6 0) λv7=>opt (aC v7 H2) λv8=>opt (aB v1 0) λv9=>opt (aB v9 1) λv10=>opt (aC v10 H2) λv11=>opt (aB v1 2) λv12=>opt (aC v12 H2) λv13=>E.call 46 [v8,v11,v13,x2,x3] H2 λv14 H4=>opt (ext v14 0) λv15=>opt (ext v14 1) λv16=>opt (aA .neq v16 (vi 0)) λv17=>ifB v17 (
 opt (aV [(0,1),(1,1)] #[vi 0,(.int .u16 0)] []) λv18=>opt (storeN 2 v2 v18 H4) λH5=>opt (aH 2 v2 H5) λv19=>Q (.tuple #[v19,v16]) H5) (
 opt (aB v1 0) λv20=>opt (aB v20 0) λv21=>opt (aC v21 H4) λv22=>opt (aV [(0,1),(1,1)] #[vi 0,(.int .u16 0)] [(0,v22),(1,v15)]) λv23=>opt (storeN 2 v2 v23 H4) λH6=>opt (aH 2 v2 H6) λv24=>Q (.tuple #[v24,vi 0]) H6))

def F.f71_j3:T15:=λE Q t0 t1 t2 t13 t14 H =>
 opt (aF t0) λv1=>opt (aB v1 0) λv2=>opt (aC v2 H) λv3=>opt (aH 7 t14 H) λv4=>opt (aP 7 v3 t13) λv5=>opt (storeN 7 v5 v4 H) λH1=>opt (aF t0) λv6=>opt (aB v6 0) λv7=>opt (aC v7 H1) λv8=>opt (aF t0) λv9=>opt (aB v9 0) λv10=>opt (aC v10 H1) λv11=>opt (aP 7 v11 t1) λv12=>opt (aB v12 2) λv13=>opt (aC v13 H1) λv14=>opt (aV [(0,1),(1,1)] #[(.string ⟨#[]⟩),vi 0] [(0,t2),(1,t13)]) λv15=>E.call 50 [v14,v15] H1 λv16 H2=>aC v7 H2=aC v7 H1 /\
 opt (aP 7 v8 t1) λv17=>opt (aB v17 2) λv18=>opt (aR v18 v16 H2) λH3=>opt (aF t0) λv19=>opt (aB v19 4) λv20=>opt (aC v20 H3) λv21=>opt (aA .add v21 (vi 1)) λv22=>opt (aF t0) λv23=>opt (aB v23 4) λv24=>opt (aR v24 v22 H3) λH4=>Q (.tuple #[t13,vi 0]) H4
def F.f71_j2:T16:=λE Q t0 t1 t2 t3 t4 t13 t14 H =>
 opt (aA .eql t3 (vi 3)) λv1=>ifB v1 (
 opt (aB t14 4) λv2=>opt (aR v2 t4 H) λH1=>F.f71_j3 E Q t0 t1 t2 t13 t14 H1) (
 F.f71_j3 E Q t0 t1 t2 t13 t14 H)
def F.f71_j1(E:Sy)(Q:VK)(t0 t1 t2 t3 t4 t13:Value)(H:AH):Prop :=
 opt (aV [(0,1),(1,1),(2,1),(3,1),(4,1),(5,1),(6,1)] #[vi 0,(.slice none 0 0),(.slice none 0 0),vi 0,(.string ⟨#[]⟩),vi 0,vi 0] [(0,t3),(5,(vi 1))]) λv1=>bV [vi 0,(.slice none 0 0),(.slice none 0 0),vi 0,(.string ⟨#[]⟩),vi 0,vi 0] H λv2 H1=>opt (storeN 7 v2 v1 H1) λH2=>opt (aA .eql t3 (vi 2)) λv3=>ifB v3 (
 opt (aB v2 3) λv4=>opt (aR v4 t1 H2) λH3=>F.f71_j2 E Q t0 t1 t2 t3 t4 t13 v2 H3) (
 F.f71_j2 E Q t0 t1 t2 t3 t4 t13 v2 H2)
def F.f71_l1:T7:=λE Q t0 t1 t2 t3 t4 t13 H X0 =>
 opt (aF t0) λv1=>opt (aB v1 0) λv2=>opt (aC v2 H) λv3=>opt (lenSlc v3) λv4=>opt (aA .lss t13 v4) λv5=>gV v5 true t0 H λv6 H1=>gO v5 true (aF v6) H1 λv7 H2=>gO v5 true (aB v7 0) H2 λv8 H3=>gO v5 true (aC v8 H3) H3 λv9 H4=>gV v5 true t13 H4 λv10 H5=>gO v5 true (aP 7 v9 v10) H5 λv11 H6=>gO v5 true (aB v11 0) H6 λv12 H7=>gO v5 true (aC v12 H7) H7 λv13 H8=>gO v5 true (aA .gtr v13 (vi 0)) H8 λv14 H9=>opt (pick v5 v14 (.bool false)) λv15=>ifB v15 (
 opt (aA .add t13 (vi 1)) λv16=>X0 [t0,t1,t2,t3,t4,v16] H9) (
 opt (aF t0) λv17=>opt (aB v17 0) λv18=>opt (aC v18 H9) λv19=>opt (lenSlc v19) λv20=>opt (aA .eql t13 v20) λv21=>ifB v21 (
 opt (aF t0) λv22=>opt (aB v22 0) λv23=>opt (aC v23 H9) λv24=>opt (aV [(0,1),(1,1),(2,1),(3,1),(4,1),(5,1),(6,1)] #[vi 0,(.slice none 0 0),(.slice none 0 0),vi 0,(.string ⟨#[]⟩),vi 0,vi 0] []) λv25=>mk (buildS 1 7 #[vi 0,(.slice none 0 0),(.slice none 0 0),vi 0,(.string ⟨#[]⟩),vi 0,vi 0] [(0,v25)]) H9 λv26 H10=>gJ (app 7 96 v24 v26 H10) λv27 H11=>opt (aF t0) λv28=>opt (aB v28 0) λv29=>opt (aR v29 v27 H11) λH12=>F.f71_j1 E Q t0 t1 t2 t3 t4 t13 H12) (
 F.f71_j1 E Q t0 t1 t2 t3 t4 t13 H9))
def F.f71:T9:=λE x0 x1 x2 x3 x4 H Q =>
 E.call 47 [x0,x1,x2] H λv1 H1=>opt (aA .neq v1 (vi 0)) λv2=>ifB v2 (
 Q (.tuple #[vi 0,v1]) H1) (
 opt (aA .lss x3 (vi 1)) λv3=>gV v3 false x3 H1 λv4 H2=>gO v3 false (aA .gtr v4 (vi 3)) H2 λv5 H3=>opt (pick v3 (.bool true) v5) λv6=>gV v6 false x3 H3 λv7 H4=>gO v6 false (aA .eql v7 (vi 3)) H4 λv8 H5=>gV v6 false v8 H5 λv9 H6=>gV v9 true x4 H6 λv10 H7=>gO v9 true (dD v10) H7 λv11 H8=>gO v9 true (aA .lss v11 (vi 1)) H8 λv12 H9=>gV v9 true v12 H9 λv13 H10=>gV v13 false x4 H10 λv14 H11=>gO v13 false (dD v14) H11 λv15 H12=>gO v13 false (aA .gtr v15 (vi 120)) H12 λv16 H13=>gO v9 true (pick v13 (.bool true) v16) H13 λv17 H14=>gO v6 false (pick v9 v17 (.bool false)) H14 λv18 H15=>opt (pick v6 (.bool true) v18) λv19=>ifB v19 (
 Q (.tuple #[vi 0,vi 22]) H15) (
 opt (aF x0) λv20=>opt (aB v20 1) λv21=>opt (aC v21 H15) λv22=>E.call 48 [x0] H15 λv23 H16=>aC v21 H16=aC v21 H15 /\
 opt (aA .geq v23 v22) λv24=>gV v24 false x3 H16 λv25 H17=>gO v24 false (aA .eql v25 (vi 2)) H17 λv26 H18=>gV v24 false v26 H18 λv27 H19=>gV v27 true x0 H19 λv28 H20=>gV v27 true x1 H20 λv29 H21=>gd v27 true (λk=>E.call 49 [v28,v29] H21 λv h=>k v h) H21 λv30 H22=>gO v27 true (aA .geq v30 (vi 16)) H22 λv31 H23=>gO v24 false (pick v27 v31 (.bool false)) H23 λv32 H24=>opt (pick v24 (.bool true) v32) λv33=>ifB v33 (
 Q (.tuple #[vi 0,vi 28]) H24) (
 lp6 (F.f71_l1 E Q) [x0,x1,x2,x3,x4,vi 1] H24)))

def F.f76_l1:T5:=λE Q t0 t1 t5 H X0 =>
 opt (aF t0) λv1=>opt (aB v1 2) λv2=>opt (aC v2 H) λv3=>opt (lenSlc v3) λv4=>opt (aA .lss t5 v4) λv5=>ifB v5 (
 opt (aF t0) λv6=>opt (aB v6 2) λv7=>opt (aC v7 H) λv8=>opt (aP 5 v8 t5) λv9=>opt (aB v9 1) λv10=>opt (aC v10 H) λv11=>opt (aA .eql v11 t1) λv12=>gV v12 false t0 H λv13 H1=>gO v12 false (aF v13) H1 λv14 H2=>gO v12 false (aB v14 2) H2 λv15 H3=>gO v12 false (aC v15 H3) H3 λv16 H4=>gV v12 false t5 H4 λv17 H5=>gO v12 false (aP 5 v16 v17) H5 λv18 H6=>gO v12 false (aB v18 0) H6 λv19 H7=>gO v12 false (aC v19 H7) H7 λv20 H8=>gO v12 false (aA .neq v20 (vi 0)) H8 λv21 H9=>gV v12 false v21 H9 λv22 H10=>gV v22 true t0 H10 λv23 H11=>gO v22 true (aF v23) H11 λv24 H12=>gO v22 true (aB v24 2) H12 λv25 H13=>gO v22 true (aC v25 H13) H13 λv26 H14=>gV v22 true t5 H14 λv27 H15=>gO v22 true (aP 5 v26 v27) H15 λv28 H16=>gO v22 true (aB v28 2) H16 λv29 H17=>gO v22 true (aB v29 1) H17 λv30 H18=>gO v22 true (aC v30 H18) H18 λv31 H19=>gV v22 true t1 H19 λv32 H20=>gO v22 true (aA .eql v31 v32) H20 λv33 H21=>gO v12 false (pick v22 v33 (.bool false)) H21 λv34 H22=>opt (pick v12 (.bool true) v34) λv35=>ifB v35 (
 Q (.bool true) H22) (
 opt (aA .add t5 (vi 1)) λv36=>X0 [t0,t1,v36] H22)) (
 Q (.bool false) H)
def F.f76:T0:=λE x0 x1 H Q =>
 lp3 (F.f76_l1 E Q) [x0,x1,vi 0] H

def F.f65:T4:=λE x0 x1 x2 x3 H Q =>
 E.call 12 [x0,x1,x2] H λv1 H1=>opt (ext v1 0) λv2=>opt (ext v1 1) λv3=>opt (aA .neq v3 (vi 0)) λv4=>ifB v4 (
 Q v3 H1) (
 E.call 26 [x0,v2] H1 λv5 H2=>gV x3 true v5 H2 λv6 H3=>gO x3 true (aF v6) H3 λv7 H4=>gO x3 true (aB v7 0) H4 λv8 H5=>gO x3 true (aC v8 H5) H5 λv9 H6=>gO x3 true (aA .neq v9 (vi 2)) H6 λv10 H7=>opt (pick x3 v10 (.bool false)) λv11=>ifB v11 (
 Q (vi 20) H7) (
 opt (un .not x3) λv12=>gV v12 true v5 H7 λv13 H8=>gO v12 true (aF v13) H8 λv14 H9=>gO v12 true (aB v14 0) H9 λv15 H10=>gO v12 true (aC v15 H10) H10 λv16 H11=>gO v12 true (aA .eql v16 (vi 2)) H11 λv17 H12=>opt (pick v12 v17 (.bool false)) λv18=>ifB v18 (
 Q (vi 21) H12) (
 gV x3 true v5 H12 λv19 H13=>gO x3 true (aF v19) H13 λv20 H14=>gO x3 true (aB v20 2) H14 λv21 H15=>gO x3 true (aC v21 H15) H15 λv22 H16=>gO x3 true (lenSlc v22) H16 λv23 H17=>gO x3 true (aA .gtr v23 (vi 0)) H17 λv24 H18=>opt (pick x3 v24 (.bool false)) λv25=>ifB v25 (
 Q (vi 39) H18) (
 opt (aF x0) λv26=>opt (aB v26 0) λv27=>opt (aC v27 H18) λv28=>opt (aF x0) λv29=>opt (aB v29 0) λv30=>opt (aC v30 H18) λv31=>opt (aP 7 v31 x1) λv32=>opt (aB v32 2) λv33=>opt (aC v33 H18) λv34=>E.call 26 [x0,x1] H18 λv35 H19=>aC v33 H19=aC v33 H18 /\
 aC v30 H19=aC v30 H18 /\
 aC v27 H19=aC v27 H18 /\
 E.call 40 [v35,x2] H19 λv36 H20=>aC v33 H20=aC v33 H18 /\
 aC v30 H20=aC v30 H18 /\
 aC v27 H20=aC v27 H18 /\
 E.call 51 [v34,v36] H20 λv37 H21=>aC v27 H21=aC v27 H18 /\
 opt (aP 7 v28 x1) λv38=>opt (aB v38 2) λv39=>opt (aR v39 v37 H21) λH22=>opt (aF v5) λv40=>opt (aB v40 5) λv41=>opt (aC v41 H22) λv42=>opt (aA .sub v42 (vi 1)) λv43=>opt (aF v5) λv44=>opt (aB v44 5) λv45=>opt (aR v45 v43 H22) λH23=>opt (aF x0) λv46=>opt (aB v46 4) λv47=>opt (aC v47 H23) λv48=>opt (aA .add v48 (vi 1)) λv49=>opt (aF x0) λv50=>opt (aB v50 4) λv51=>opt (aR v51 v49 H23) λH24=>E.call 52 [x0,v2] H24 λv52 H25=>Q (vi 0) H25))))

def F.f124:T1:=λE x0 x1 x2 H Q =>
 mk (eX x1) H λv1 H1=>opt (bU dB .eql x0 (.pointer none)) λv2=>ifB v2 (
 Q (vi 201) H1) (
 opt (aB v1 3) λv3=>opt (aC v3 H1) λv4=>opt (aA .eql v4 (.int .u16 0)) λv5=>ifB v5 (
 Q (vi 2) H1) (
 opt (aF x0) λv6=>opt (aB v6 1) λv7=>opt (aC v7 H1) λv8=>opt (aB v1 3) λv9=>opt (aC v9 H1) λv10=>E.call 53 [v8,v10] H1 λv11 H2=>ifB v11 (
 Q (vi 16) H2) (
 opt (aF x0) λv12=>opt (aB v12 0) λv13=>opt (aC v13 H2) λv14=>opt (aB v1 0) λv15=>opt (aB v15 1) λv16=>opt (aC v16 H2) λv17=>opt (aB v1 2) λv18=>opt (aC v18 H2) λv19=>E.call 54 [v14,v17,v19,x2] H2 λv20 H3=>Q v20 H3)))

def F.f60:T4:=λE x0 x1 x2 x3 H Q =>
 E.call 26 [x0,x3] H λv1 H1=>opt (aF v1) λv2=>opt (aB v2 0) λv3=>opt (aC v3 H1) λv4=>opt (aA .eql v4 (vi 0)) λv5=>ifB v5 (
 Q (vi 2) H1) (
 opt (aF v1) λv6=>opt (aB v6 0) λv7=>opt (aC v7 H1) λv8=>opt (aA .eql v8 (vi 2)) λv9=>ifB v9 (
 Q (vi 1) H1) (
 E.call 47 [x0,x1,x2] H1 λv10 H2=>opt (aA .neq v10 (vi 0)) λv11=>ifB v11 (
 Q v10 H2) (
 opt (aF v1) λv12=>opt (aB v12 5) λv13=>opt (aC v13 H2) λv14=>opt (aA .eql v14 (vi 0)) λv15=>ifB v15 (
 Q (vi 2) H2) (
 opt (aF v1) λv16=>opt (aB v16 5) λv17=>opt (aC v17 H2) λv18=>opt (aA .geq v18 (vi 256)) λv19=>ifB v19 (
 Q (vi 31) H2) (
 opt (aF x0) λv20=>opt (aB v20 0) λv21=>opt (aC v21 H2) λv22=>opt (aF x0) λv23=>opt (aB v23 0) λv24=>opt (aC v24 H2) λv25=>opt (aP 7 v25 x1) λv26=>opt (aB v26 2) λv27=>opt (aC v27 H2) λv28=>opt (aV [(0,1),(1,1)] #[(.string ⟨#[]⟩),vi 0] [(0,x2),(1,x3)]) λv29=>E.call 50 [v28,v29] H2 λv30 H3=>aC v21 H3=aC v21 H2 /\
 opt (aP 7 v22 x1) λv31=>opt (aB v31 2) λv32=>opt (aR v32 v30 H3) λH4=>opt (aF v1) λv33=>opt (aB v33 5) λv34=>opt (aC v34 H4) λv35=>opt (aA .add v35 (vi 1)) λv36=>opt (aF v1) λv37=>opt (aB v37 5) λv38=>opt (aR v38 v36 H4) λH5=>opt (aF x0) λv39=>opt (aB v39 4) λv40=>opt (aC v40 H5) λv41=>opt (aA .add v41 (vi 1)) λv42=>opt (aF x0) λv43=>opt (aB v43 4) λv44=>opt (aR v44 v42 H5) λH6=>Q (vi 0) H6)))))

def F.f121:T1:=λE x0 x1 x2 H Q =>
 mk (eX x1) H λv1 H1=>mk (eX x2) H1 λv2 H2=>opt (bU dB .eql x0 (.pointer none)) λv3=>ifB v3 (
 Q (vi 201) H2) (
 opt (aB v1 0) λv4=>opt (aC v4 H2) λv5=>opt (aB v2 0) λv6=>opt (aB v6 0) λv7=>opt (aC v7 H2) λv8=>opt (aA .neq v5 v8) λv9=>ifB v9 (
 Q (vi 18) H2) (
 opt (aF x0) λv10=>opt (aB v10 0) λv11=>opt (aC v11 H2) λv12=>opt (aB v2 0) λv13=>opt (aB v13 1) λv14=>opt (aC v14 H2) λv15=>opt (aB v2 2) λv16=>opt (aC v16 H2) λv17=>opt (aB v1 1) λv18=>opt (aC v18 H2) λv19=>E.call 55 [v12,v15,v17,v19] H2 λv20 H3=>Q v20 H3))

def F.f72_j2:T19:=λE Q t0 H =>
 opt (aF t0) λv1=>opt (aB v1 4) λv2=>opt (aC v2 H) λv3=>opt (aA .add v3 (vi 1)) λv4=>opt (aF t0) λv5=>opt (aB v5 4) λv6=>opt (aR v6 v4 H) λH1=>Q (vi 0) H1
def F.f72_j1:T16:=λE Q t0 t1 t2 t3 t4 t11 t15 H =>
 opt (aF t0) λv1=>opt (aB v1 0) λv2=>opt (aC v2 H) λv3=>opt (aF t0) λv4=>opt (aB v4 0) λv5=>opt (aC v5 H) λv6=>opt (aP 7 v6 t1) λv7=>opt (aB v7 2) λv8=>opt (aC v8 H) λv9=>E.call 26 [t0,t1] H λv10 H1=>aC v8 H1=aC v8 H /\
 aC v5 H1=aC v5 H /\
 aC v2 H1=aC v2 H /\
 E.call 40 [v10,t2] H1 λv11 H2=>aC v8 H2=aC v8 H /\
 aC v5 H2=aC v5 H /\
 aC v2 H2=aC v2 H /\
 E.call 51 [v9,v11] H2 λv12 H3=>aC v2 H3=aC v2 H /\
 opt (aP 7 v3 t1) λv13=>opt (aB v13 2) λv14=>opt (aR v14 v12 H3) λH4=>opt (aF t0) λv15=>opt (aB v15 0) λv16=>opt (aC v16 H4) λv17=>opt (aF t0) λv18=>opt (aB v18 0) λv19=>opt (aC v19 H4) λv20=>opt (aP 7 v20 t3) λv21=>opt (aB v21 2) λv22=>opt (aC v22 H4) λv23=>opt (aV [(0,1),(1,1)] #[(.string ⟨#[]⟩),vi 0] [(0,t4),(1,t11)]) λv24=>E.call 50 [v23,v24] H4 λv25 H5=>aC v16 H5=aC v16 H4 /\
 opt (aP 7 v17 t3) λv26=>opt (aB v26 2) λv27=>opt (aR v27 v25 H5) λH6=>ifB t15 (
 opt (aF t0) λv28=>opt (aB v28 0) λv29=>opt (aC v29 H6) λv30=>opt (aP 7 v30 t11) λv31=>opt (aB v31 3) λv32=>opt (aR v32 t3 H6) λH7=>F.f72_j2 E Q t0 H7) (
 F.f72_j2 E Q t0 H6)
def F.f72:T9:=λE x0 x1 x2 x3 x4 H Q =>
 E.call 12 [x0,x1,x2] H λv1 H1=>opt (ext v1 0) λv2=>opt (ext v1 1) λv3=>opt (aA .neq v3 (vi 0)) λv4=>ifB v4 (
 Q v3 H1) (
 E.call 39 [x0,x3] H1 λv5 H2=>opt (aA .neq v5 (vi 0)) λv6=>ifB v6 (
 Q v5 H2) (
 E.call 26 [x0,x3] H2 λv7 H3=>E.call 40 [v7,x4] H3 λv8 H4=>opt (aA .geq v8 (vi 0)) λv9=>gV v9 true x0 H4 λv10 H5=>gV v9 true x3 H5 λv11 H6=>gd v9 true (λk=>E.call 26 [v10,v11] H6 λv h=>k v h) H6 λv12 H7=>gO v9 true (aF v12) H7 λv13 H8=>gO v9 true (aB v13 2) H8 λv14 H9=>gO v9 true (aC v14 H9) H9 λv15 H10=>gV v9 true v8 H10 λv16 H11=>gO v9 true (aP 2 v15 v16) H11 λv17 H12=>gO v9 true (aB v17 1) H12 λv18 H13=>gO v9 true (aC v18 H13) H13 λv19 H14=>gV v9 true v2 H14 λv20 H15=>gO v9 true (aA .eql v19 v20) H15 λv21 H16=>opt (pick v9 v21 (.bool false)) λv22=>ifB v22 (
 Q (vi 0) H16) (
 opt (aA .lss v8 (vi 0)) λv23=>gV v23 true x1 H16 λv24 H17=>gV v23 true x3 H17 λv25 H18=>gO v23 true (aA .neq v24 v25) H18 λv26 H19=>opt (pick v23 v26 (.bool false)) λv27=>gV v27 true x0 H19 λv28 H20=>gV v27 true x3 H20 λv29 H21=>gd v27 true (λk=>E.call 26 [v28,v29] H21 λv h=>k v h) H21 λv30 H22=>gO v27 true (aF v30) H22 λv31 H23=>gO v27 true (aB v31 2) H23 λv32 H24=>gO v27 true (aC v32 H24) H24 λv33 H25=>gO v27 true (lenSlc v33) H25 λv34 H26=>gO v27 true (aA .geq v34 (vi 32)) H26 λv35 H27=>opt (pick v27 v35 (.bool false)) λv36=>ifB v36 (
 Q (vi 28) H27) (
 E.call 38 [x4] H27 λv37 H28=>opt (un .not v37) λv38=>ifB v38 (
 Q (vi 22) H28) (
 E.call 26 [x0,x3] H28 λv39 H29=>opt (aF v39) λv40=>opt (aB v40 5) λv41=>opt (aC v41 H29) λv42=>opt (aA .eql v42 (vi 0)) λv43=>ifB v43 (
 Q (vi 2) H29) (
 E.call 26 [x0,v2] H29 λv44 H30=>opt (aF v44) λv45=>opt (aB v45 0) λv46=>opt (aC v46 H30) λv47=>opt (aA .eql v47 (vi 2)) λv48=>gV v48 true x0 H30 λv49 H31=>gV v48 true x3 H31 λv50 H32=>gV v48 true v2 H32 λv51 H33=>gd v48 true (λk=>E.call 56 [v49,v50,v51] H33 λv h=>k v h) H33 λv52 H34=>opt (pick v48 v52 (.bool false)) λv53=>ifB v53 (
 Q (vi 22) H34) (
 gV v48 true x0 H34 λv54 H35=>gV v48 true x3 H35 λv55 H36=>gd v48 true (λk=>E.call 49 [v54,v55] H36 λv h=>k v h) H36 λv56 H37=>gV v48 true x0 H37 λv57 H38=>gV v48 true v2 H38 λv58 H39=>gd v48 true (λk=>E.call 57 [v57,v58] H39 λv h=>k v h) H39 λv59 H40=>gO v48 true (aA .add v56 v59) H40 λv60 H41=>gO v48 true (aA .gtr v60 (vi 16)) H41 λv61 H42=>opt (pick v48 v61 (.bool false)) λv62=>ifB v62 (
 Q (vi 28) H42) (
 opt (aA .geq v8 (vi 0)) λv63=>ifB v63 (
 E.call 26 [x0,x3] H42 λv64 H43=>opt (aF v64) λv65=>opt (aB v65 2) λv66=>opt (aC v66 H43) λv67=>opt (aP 2 v67 v8) λv68=>opt (aB v68 1) λv69=>opt (aC v69 H43) λv70=>E.call 26 [x0,v70] H43 λv71 H44=>gV v48 true v71 H44 λv72 H45=>gO v48 true (aF v72) H45 λv73 H46=>gO v48 true (aB v73 0) H46 λv74 H47=>gO v48 true (aC v74 H47) H47 λv75 H48=>gO v48 true (aA .neq v75 (vi 2)) H48 λv76 H49=>opt (pick v48 v76 (.bool false)) λv77=>ifB v77 (
 Q (vi 20) H49) (
 opt (un .not v48) λv78=>gV v78 true v71 H49 λv79 H50=>gO v78 true (aF v79) H50 λv80 H51=>gO v78 true (aB v80 0) H51 λv81 H52=>gO v78 true (aC v81 H52) H52 λv82 H53=>gO v78 true (aA .eql v82 (vi 2)) H53 λv83 H54=>opt (pick v78 v83 (.bool false)) λv84=>ifB v84 (
 Q (vi 21) H54) (
 gV v48 true v71 H54 λv85 H55=>gO v48 true (aF v85) H55 λv86 H56=>gO v48 true (aB v86 2) H56 λv87 H57=>gO v48 true (aC v87 H57) H57 λv88 H58=>gO v48 true (lenSlc v88) H58 λv89 H59=>gO v48 true (aA .gtr v89 (vi 0)) H59 λv90 H60=>opt (pick v48 v90 (.bool false)) λv91=>ifB v91 (
 Q (vi 39) H60) (
 E.call 19 [x0,x3,x4,v48] H60 λv92 H61=>F.f72_j1 E Q x0 x1 x2 x3 x4 v2 v48 H61)))) (
 F.f72_j1 E Q x0 x1 x2 x3 x4 v2 v48 H42)))))))))

def F.f125:T1:=λE x0 x1 x2 H Q =>
 mk (eX x1) H λv1 H1=>mk (eX x2) H1 λv2 H2=>opt (bU dB .eql x0 (.pointer none)) λv3=>ifB v3 (
 Q (vi 201) H2) (
 opt (aB v1 3) λv4=>opt (aC v4 H2) λv5=>opt (aA .eql v5 (.int .u16 0)) λv6=>ifB v6 (
 Q (vi 2) H2) (
 opt (aB v1 0) λv7=>opt (aB v7 0) λv8=>opt (aC v8 H2) λv9=>opt (aB v2 0) λv10=>opt (aB v10 0) λv11=>opt (aC v11 H2) λv12=>opt (aA .neq v9 v12) λv13=>ifB v13 (
 Q (vi 18) H2) (
 opt (aF x0) λv14=>opt (aB v14 1) λv15=>opt (aC v15 H2) λv16=>opt (aB v1 3) λv17=>opt (aC v17 H2) λv18=>E.call 53 [v16,v18] H2 λv19 H3=>gO v19 false (aB v2 3) H3 λv20 H4=>gO v19 false (aC v20 H4) H4 λv21 H5=>gO v19 false (aA .neq v21 (.int .u16 0)) H5 λv22 H6=>gV v19 false v22 H6 λv23 H7=>gV v23 true x0 H7 λv24 H8=>gO v23 true (aF v24) H8 λv25 H9=>gO v23 true (aB v25 1) H9 λv26 H10=>gO v23 true (aC v26 H10) H10 λv27 H11=>gO v23 true (aB v2 3) H11 λv28 H12=>gO v23 true (aC v28 H12) H12 λv29 H13=>gd v23 true (λk=>E.call 53 [v27,v29] H13 λv h=>k v h) H13 λv30 H14=>gO v19 false (pick v23 v30 (.bool false)) H14 λv31 H15=>opt (pick v19 (.bool true) v31) λv32=>ifB v32 (
 Q (vi 16) H15) (
 opt (aF x0) λv33=>opt (aB v33 0) λv34=>opt (aC v34 H15) λv35=>opt (aB v1 0) λv36=>opt (aB v36 1) λv37=>opt (aC v37 H15) λv38=>opt (aB v1 2) λv39=>opt (aC v39 H15) λv40=>opt (aB v2 0) λv41=>opt (aB v41 1) λv42=>opt (aC v42 H15) λv43=>opt (aB v2 2) λv44=>opt (aC v44 H15) λv45=>E.call 58 [v35,v38,v40,v43,v45] H15 λv46 H16=>Q v46 H16))))

def F.f63:T0:=λE x0 x1 H Q =>
 mk (eX x1) H λv1 H1=>opt (aB v1 0) λv2=>opt (aC v2 H1) λv3=>E.call 59 [x0,v3] H1 λv4 H2=>opt (aA .geq v4 (vi 0)) λv5=>gV v5 true x0 H2 λv6 H3=>gO v5 true (aB v1 1) H3 λv7 H4=>gO v5 true (aC v7 H4) H4 λv8 H5=>gd v5 true (λk=>E.call 26 [v6,v8] H5 λv h=>k v h) H5 λv9 H6=>gO v5 true (aF v9) H6 λv10 H7=>gO v5 true (aB v10 0) H7 λv11 H8=>gO v5 true (aC v11 H8) H8 λv12 H9=>gO v5 true (aA .eql v12 (vi 2)) H9 λv13 H10=>opt (pick v5 v13 (.bool false)) λv14=>Q v14 H10

def F.f73:T0:=λE x0 x1 H Q =>
 opt (aA .lss x1 (vi 0)) λv1=>gV v1 false x1 H λv2 H1=>gV v1 false x0 H1 λv3 H2=>gO v1 false (aF v3) H2 λv4 H3=>gO v1 false (aB v4 0) H3 λv5 H4=>gO v1 false (aC v5 H4) H4 λv6 H5=>gO v1 false (lenSlc v6) H5 λv7 H6=>gO v1 false (aA .geq v2 v7) H6 λv8 H7=>opt (pick v1 (.bool true) v8) λv9=>ifB v9 (
 opt (aV [(0,1),(1,1),(2,1),(3,1),(4,1),(5,1),(6,1)] #[vi 0,(.slice none 0 0),(.slice none 0 0),vi 0,(.string ⟨#[]⟩),vi 0,vi 0] []) λv10=>mk (eX v10) H7 λv11 H8=>Q v11 H8) (
 opt (aF x0) λv12=>opt (aB v12 0) λv13=>opt (aC v13 H7) λv14=>opt (aP 7 v14 x1) λv15=>Q v15 H7)

def F.f61:T1:=λE x0 x1 x2 H Q =>
 mk (eX x2) H λv1 H1=>opt (aB v1 0) λv2=>opt (aC v2 H1) λv3=>E.call 59 [x0,v3] H1 λv4 H2=>opt (aA .lss v4 (vi 0)) λv5=>ifB v5 (
 Q (.tuple #[vi 0,vi 22]) H2) (
 opt (aH 2 v1 H2) λv6=>opt (aH 2 v1 H2) λv7=>E.call 60 [x0,v6] H2 λv8 H3=>aH 2 v1 H3=aH 2 v1 H2 /\
 opt (fU [0,0] .neq v8 v7) λv9=>ifB v9 (
 Q (.tuple #[vi 0,vi 16]) H3) (
 opt (aF x0) λv10=>opt (aB v10 2) λv11=>opt (aC v11 H3) λv12=>opt (lenSlc v12) λv13=>opt (aA .geq v13 (vi 16)) λv14=>ifB v14 (
 Q (.tuple #[vi 0,vi 28]) H3) (
 opt (aF x0) λv15=>opt (aB v15 3) λv16=>opt (aC v16 H3) λv17=>opt (aF x0) λv18=>opt (aB v18 3) λv19=>opt (aC v19 H3) λv20=>opt (aA .add v20 (vi 1)) λv21=>opt (aF x0) λv22=>opt (aB v22 3) λv23=>opt (aR v23 v21 H3) λH4=>opt (aF x0) λv24=>opt (aB v24 2) λv25=>opt (aC v25 H4) λv26=>opt (aH 2 v1 H4) λv27=>opt (aV [(0,1),(1,1),(2,2),(4,1)] #[vi 0,vi 0,vi 0,vi 0,vi 0] [(0,v17),(1,x1),(2,v27)]) λv28=>mk (buildS 1 5 #[vi 0,vi 0,vi 0,vi 0,vi 0] [(0,v28)]) H4 λv29 H5=>gJ (app 5 40 v26 v29 H5) λv30 H6=>opt (aF x0) λv31=>opt (aB v31 2) λv32=>opt (aR v32 v30 H6) λH7=>Q (.tuple #[v17,vi 0]) H7)))

def F.f120:T1:=λE x0 x1 x2 H Q =>
 mk (eX x1) H λv1 H1=>mk (eX x2) H1 λv2 H2=>opt (bU dB .eql x0 (.pointer none)) λv3=>ifB v3 (
 Q (vi 201) H2) (
 opt (aH 2 v1 H2) λv4=>E.call 45 [x0,v4] H2 λv5 H3=>opt (un .not v5) λv6=>gV v6 false x0 H3 λv7 H4=>gO v6 false (aH 2 v2 H4) H4 λv8 H5=>gd v6 false (λk=>E.call 45 [v7,v8] H5 λv h=>k v h) H5 λv9 H6=>gO v6 false (un .not v9) H6 λv10 H7=>opt (pick v6 (.bool true) v10) λv11=>ifB v11 (
 Q (vi 20) H7) (
 opt (aF x0) λv12=>opt (aB v12 0) λv13=>opt (aC v13 H7) λv14=>opt (aB v1 1) λv15=>opt (aC v15 H7) λv16=>E.call 44 [v14,v16] H7 λv17 H8=>opt (aF v17) λv18=>opt (aB v18 6) λv19=>opt (aC v19 H8) λv20=>opt (aA .eql v20 (vi 0)) λv21=>gV v21 false x0 H8 λv22 H9=>gO v21 false (aF v22) H9 λv23 H10=>gO v21 false (aB v23 0) H10 λv24 H11=>gO v21 false (aC v24 H11) H11 λv25 H12=>gO v21 false (aB v2 1) H12 λv26 H13=>gO v21 false (aC v26 H13) H13 λv27 H14=>gd v21 false (λk=>E.call 44 [v25,v27] H14 λv h=>k v h) H14 λv28 H15=>gO v21 false (aF v28) H15 λv29 H16=>gO v21 false (aB v29 6) H16 λv30 H17=>gO v21 false (aC v30 H17) H17 λv31 H18=>gO v21 false (aA .eql v31 (vi 0)) H18 λv32 H19=>opt (pick v21 (.bool true) v32) λv33=>ifB v33 (
 Q (vi 2) H19) (
 opt (aF x0) λv34=>opt (aB v34 1) λv35=>opt (aC v35 H19) λv36=>opt (aB v1 1) λv37=>opt (aC v37 H19) λv38=>opt (aH 2 v2 H19) λv39=>E.call 61 [v36,v38,v39] H19 λv40 H20=>opt (ext v40 0) λv41=>opt (ext v40 1) λv42=>Q v42 H20)))

def F.f55_j1:T20:=λE Q t2 t11 t12 t13 t14 t15 t16 t17 H =>
 opt (aA .neq t12 t17) λv1=>gV v1 false t11 H λv2 H1=>gO v1 false (rC v2 H1) H1 λv3 H2=>gV v1 false t16 H2 λv4 H3=>gO v1 false (rC v4 H3) H3 λv5 H4=>gO v1 false (cH .neq v3 v5) H4 λv6 H5=>opt (pick v1 (.bool true) v6) λv7=>ifB v7 (
 Q (.bool false) H5) (
 opt (aF t15) λv8=>opt (aB v8 0) λv9=>opt (aC v9 H5) λv10=>opt (aA .eql v10 (vi 0)) λv11=>ifB v11 (
 opt (aA .eql t14 (vi 2)) λv12=>gO v12 true (aH 4 t13 H5) H5 λv13 H6=>gO v12 true (aV [(0,1),(1,1),(2,1),(3,1)] #[(.int .u16 0),(.int .u8 0),vi 0,vi 0] []) H6 λv14 H7=>gO v12 true (fU [0,0,0,0] .eql v13 v14) H7 λv15 H8=>opt (pick v12 v15 (.bool false)) λv16=>Q v16 H8) (
 opt (aA .eql t14 (vi 0)) λv17=>gO v17 true (aH 4 t13 H5) H5 λv18 H9=>gV v17 true t2 H9 λv19 H10=>gV v17 true t15 H10 λv20 H11=>gO v17 true (aF v20) H11 λv21 H12=>gO v17 true (aB v21 0) H12 λv22 H13=>gO v17 true (aC v22 H13) H13 λv23 H14=>gO v17 true (bI .u8 v23) H14 λv24 H15=>gV v17 true t15 H15 λv25 H16=>gO v17 true (aF v25) H16 λv26 H17=>gO v17 true (aB v26 5) H17 λv27 H18=>gO v17 true (aC v27 H18) H18 λv28 H19=>gV v17 true t15 H19 λv29 H20=>gO v17 true (aF v29) H20 λv30 H21=>gO v17 true (aB v30 1) H21 λv31 H22=>gO v17 true (aC v31 H22) H22 λv32 H23=>gO v17 true (lenSlc v32) H23 λv33 H24=>gV v17 true t15 H24 λv34 H25=>gO v17 true (aF v34) H25 λv35 H26=>gO v17 true (aB v35 2) H26 λv36 H27=>gO v17 true (aC v36 H27) H27 λv37 H28=>gO v17 true (lenSlc v37) H28 λv38 H29=>gO v17 true (aA .add v33 v38) H29 λv39 H30=>gV v17 true t15 H30 λv40 H31=>gO v17 true (aF v40) H31 λv41 H32=>gO v17 true (aB v41 4) H32 λv42 H33=>gO v17 true (aC v42 H33) H33 λv43 H34=>gO v17 true (dD v43) H34 λv44 H35=>gO v17 true (aA .add v39 v44) H35 λv45 H36=>gO v17 true (aV [(0,1),(1,1),(2,1),(3,1)] #[(.int .u16 0),(.int .u8 0),vi 0,vi 0] [(0,v19),(1,v24),(2,v28),(3,v45)]) H36 λv46 H37=>gO v17 true (fU [0,0,0,0] .eql v18 v46) H37 λv47 H38=>opt (pick v17 v47 (.bool false)) λv48=>Q v48 H38))
def F.f55:T9:=λE x0 x1 x2 x3 x4 H Q =>
 E.call 62 [x0,x2,x3,x4] H λv1 H1=>opt (ext v1 0) λv2=>opt (ext v1 1) λv3=>E.call 63 [x0,x2] H1 λv4 H2=>opt (ext v4 0) λv5=>opt (ext v4 1) λv6=>bV [(.int .u16 0),(.int .u8 0),vi 0,vi 0] H2 λv7 H3=>opt (storeN 4 v7 v5 H3) λH4=>opt (bI .i64 x2) λv8=>E.call 26 [x1,v8] H4 λv9 H5=>opt (aF v9) λv10=>opt (aB v10 0) λv11=>opt (aC v11 H5) λv12=>opt (aA .eql v12 (vi 0)) λv13=>ifB v13 (
 F.f55_j1 E Q x2 v2 v3 v7 v6 v9 (.slice none 0 0) (vi 2) H5) (
 opt (aF v9) λv14=>opt (aB v14 0) λv15=>opt (aC v15 H5) λv16=>opt (aA .eql v16 (vi 2)) λv17=>ifB v17 (
 F.f55_j1 E Q x2 v2 v3 v7 v6 v9 (.slice none 0 0) (vi 21) H5) (
 opt (aF v9) λv18=>opt (aB v18 0) λv19=>opt (aC v19 H5) λv20=>opt (aA .neq v20 (vi 1)) λv21=>gV v21 false x3 H5 λv22 H6=>gO v21 false (aA .lss v22 (vi 0)) H6 λv23 H7=>opt (pick v21 (.bool true) v23) λv24=>gV v24 false x4 H7 λv25 H8=>gO v24 false (aA .lss v25 (vi 0)) H8 λv26 H9=>opt (pick v24 (.bool true) v26) λv27=>ifB v27 (
 F.f55_j1 E Q x2 v2 v3 v7 v6 v9 (.slice none 0 0) (vi 22) H9) (
 opt (aF v9) λv28=>opt (aB v28 1) λv29=>opt (aC v29 H9) λv30=>opt (lenSlc v30) λv31=>opt (aA .lss x3 v31) λv32=>ifB v32 (
 opt (aF v9) λv33=>opt (aB v33 1) λv34=>opt (aC v34 H9) λv35=>opt (aF v9) λv36=>opt (aB v36 1) λv37=>opt (aC v37 H9) λv38=>opt (lenSlc v38) λv39=>opt (fY min2 [x4,vi 5000]) λv40=>opt (aA .add x3 v40) λv41=>opt (fY min2 [v39,v41]) λv42=>opt (dQ 1 v35 (some x3) (some v42) none H9) λv43=>F.f55_j1 E Q x2 v2 v3 v7 v6 v9 v43 (vi 0) H9) (
 F.f55_j1 E Q x2 v2 v3 v7 v6 v9 (.slice none 0 0) (vi 0) H9))))

def F.f126_l2(E:Sy)(Q:VK)(X0:LK)(t0 t3 t5 t25 t26 t27 t41:Value)(H:AH)(X1:LK):Prop :=
 nT t41 H λv1 H1=>opt (ext v1 0) λv2=>ifB v2 (
 opt (oW t41 H1) λv3=>opt (ext v3 0) λv4=>opt (ext v3 1) λv5=>opt (aF t0) λv6=>opt (aB v6 0) λv7=>opt (aC v7 H1) λv8=>E.call 44 [v8,v5] H1 λv9 H2=>E.call 65 [v4] H2 λv10 H3=>opt (un .not v10) λv11=>gV v11 false v9 H3 λv12 H4=>gO v11 false (bU dB .eql v12 (.pointer none)) H4 λv13 H5=>opt (pick v11 (.bool true) v13) λv14=>gV v14 false v9 H5 λv15 H6=>gO v14 false (aF v15) H6 λv16 H7=>gO v14 false (aB v16 1) H7 λv17 H8=>gO v14 false (aC v17 H8) H8 λv18 H9=>gO v14 false (aA .eql v18 (.int .u8 2)) H9 λv19 H10=>gV v14 false v19 H10 λv20 H11=>gV v20 true v9 H11 λv21 H12=>gO v20 true (aF v21) H12 λv22 H13=>gO v20 true (aB v22 4) H13 λv23 H14=>gO v20 true (aC v23 H14) H14 λv24 H15=>gV v20 true t5 H15 λv25 H16=>gO v20 true (aA .neq v24 v25) H16 λv26 H17=>gO v14 false (pick v20 v26 (.bool false)) H17 λv27 H18=>opt (pick v14 (.bool true) v27) λv28=>ifB v28 (
 Q (.bool false) H18) (
 opt (look 0 (vi 0) false t3 v5 H18) λv29=>opt (aA .add v29 (vi 1)) λv30=>opt (setMap 0 t3 v5 v30 H18) λH19=>X1 [t0,t3,t5,t25,t26,t27,t41] H19)) (
 opt (aA .add t27 (vi 1)) λv31=>X0 [t0,t3,t25,t26,v31] H1)
def F.f126_l4:T3:=λE Q t0 t158 t159 t160 H X0 =>
 opt (aA .lss t160 t159) λv1=>ifB v1 (
 opt (aP 5 t158 t160) λv2=>opt (aH 5 v2 H) λv3=>bV [vi 0,vi 0,(.int .u16 0),(.int .u16 0),vi 0] H λv4 H1=>opt (storeN 5 v4 v3 H1) λH2=>opt (aF t0) λv5=>opt (aB v5 0) λv6=>opt (aC v6 H2) λv7=>opt (aB v4 3) λv8=>opt (aC v8 H2) λv9=>opt (aF t0) λv10=>opt (aB v10 0) λv11=>opt (aC v11 H2) λv12=>opt (aB v4 1) λv13=>opt (aB v13 1) λv14=>opt (aC v14 H2) λv15=>E.call 44 [v7,v9] H2 λv16 H3=>aC v14 H3=aC v14 H2 /\
 aC v11 H3=aC v11 H2 /\
 E.call 44 [v12,v15] H3 λv17 H4=>opt (bU dB .eql v16 (.pointer none)) λv18=>gV v18 false v16 H4 λv19 H5=>gO v18 false (aF v19) H5 λv20 H6=>gO v18 false (aB v20 1) H6 λv21 H7=>gO v18 false (aC v21 H7) H7 λv22 H8=>gO v18 false (aA .neq v22 (.int .u8 2)) H8 λv23 H9=>opt (pick v18 (.bool true) v23) λv24=>gO v24 false (aB v4 0) H9 λv25 H10=>gO v24 false (aC v25 H10) H10 λv26 H11=>gO v24 false (aA .neq v26 (vi 0)) H11 λv27 H12=>gV v24 false v27 H12 λv28 H13=>gV v28 true v17 H13 λv29 H14=>gO v28 true (bU dB .eql v29 (.pointer none)) H14 λv30 H15=>gV v28 true v30 H15 λv31 H16=>gV v31 false v17 H16 λv32 H17=>gO v31 false (aF v32) H17 λv33 H18=>gO v31 false (aB v33 1) H18 λv34 H19=>gO v31 false (aC v34 H19) H19 λv35 H20=>gO v31 false (aA .neq v35 (.int .u8 2)) H20 λv36 H21=>gO v28 true (pick v31 (.bool true) v36) H21 λv37 H22=>gO v24 false (pick v28 v37 (.bool false)) H22 λv38 H23=>opt (pick v24 (.bool true) v38) λv39=>ifB v39 (
 Q (.bool false) H23) (
 opt (aA .add t160 (vi 1)) λv40=>X0 [t0,t158,t159,v40] H23)) (
 Q (.bool true) H)
def F.f126_l3:T6:=λE Q t0 t3 t84 t85 t86 H X0 =>
 opt (aA .lss t86 t85) λv1=>ifB v1 (
 opt (aP 1 t84 t86) λv2=>opt (aC v2 H) λv3=>opt (aF t0) λv4=>opt (aB v4 0) λv5=>opt (aC v5 H) λv6=>E.call 44 [v6,v3] H λv7 H1=>opt (aF v7) λv8=>opt (aB v8 6) λv9=>opt (aC v9 H1) λv10=>opt (look 0 (vi 0) false t3 v3 H1) λv11=>opt (aA .neq v10 v11) λv12=>gV v12 false v7 H1 λv13 H2=>gO v12 false (aF v13) H2 λv14 H3=>gO v12 false (aB v14 6) H3 λv15 H4=>gO v12 false (aC v15 H4) H4 λv16 H5=>gO v12 false (aA .eql v16 (vi 0)) H5 λv17 H6=>gV v12 false v17 H6 λv18 H7=>gV v18 true v7 H7 λv19 H8=>gO v18 true (aF v19) H8 λv20 H9=>gO v18 true (aB v20 7) H9 λv21 H10=>gO v18 true (aC v21 H10) H10 λv22 H11=>gO v18 true (aA .eql v22 (vi 0)) H11 λv23 H12=>gO v12 false (pick v18 v23 (.bool false)) H12 λv24 H13=>opt (pick v12 (.bool true) v24) λv25=>gV v25 false v7 H13 λv26 H14=>gO v25 false (aF v26) H14 λv27 H15=>gO v25 false (aB v27 1) H15 λv28 H16=>gO v25 false (aC v28 H16) H16 λv29 H17=>gO v25 false (aA .eql v29 (.int .u8 2)) H17 λv30 H18=>gV v25 false v30 H18 λv31 H19=>gV v31 true v7 H19 λv32 H20=>gO v31 true (aF v32) H20 λv33 H21=>gO v31 true (aB v33 6) H21 λv34 H22=>gO v31 true (aC v34 H22) H22 λv35 H23=>gO v31 true (aA .gtr v35 (vi 1)) H23 λv36 H24=>gO v25 false (pick v31 v36 (.bool false)) H24 λv37 H25=>opt (pick v25 (.bool true) v37) λv38=>ifB v38 (
 Q (.bool false) H25) (
 opt (aF v7) λv39=>opt (aB v39 1) λv40=>opt (aC v40 H25) λv41=>opt (aA .eql v41 (.int .u8 2)) λv42=>gV v42 true v7 H25 λv43 H26=>gO v42 true (aF v43) H26 λv44 H27=>gO v42 true (aB v44 6) H27 λv45 H28=>gO v42 true (aC v45 H28) H28 λv46 H29=>gO v42 true (aA .gtr v46 (vi 0)) H29 λv47 H30=>opt (pick v42 v47 (.bool false)) λv48=>gV v48 true t0 H30 λv49 H31=>gO v48 true (aF v49) H31 λv50 H32=>gO v48 true (aB v50 0) H32 λv51 H33=>gO v48 true (aC v51 H33) H33 λv52 H34=>gV v48 true v3 H34 λv53 H35=>gd v48 true (λk=>E.call 66 [v52,v53,(.int .u16 1)] H35 λv h=>k v h) H35 λv54 H36=>gO v48 true (un .not v54) H36 λv55 H37=>opt (pick v48 v55 (.bool false)) λv56=>ifB v56 (
 Q (.bool false) H37) (
 opt (aA .add t86 (vi 1)) λv57=>X0 [t0,t3,t84,t85,v57] H37))) (
 opt (aF t0) λv58=>opt (aB v58 1) λv59=>opt (aC v59 H) λv60=>E.call 67 [v60] H λv61 H38=>opt (lenSlc v61) λv62=>lp4 (F.f126_l4 E Q) [t0,v61,v62,vi 0] H38)
def F.f126_l1:T6:=λE Q t0 t3 t25 t26 t27 H X0 =>
 opt (aA .lss t27 t26) λv1=>ifB v1 (
 opt (aP 1 t25 t27) λv2=>opt (aC v2 H) λv3=>opt (aF t0) λv4=>opt (aB v4 0) λv5=>opt (aC v5 H) λv6=>E.call 44 [v6,v3] H λv7 H1=>opt (aF v7) λv8=>opt (aB v8 3) λv9=>opt (aC v9 H1) λv10=>mk (lY v10 H1) H1 λv11 H2=>lp7 (F.f126_l2 E Q X0) [t0,t3,v3,t25,t26,t27,v11] H2) (
 opt (aF t0) λv12=>opt (aB v12 0) λv13=>opt (aC v13 H) λv14=>E.call 64 [v14] H λv15 H3=>opt (lenSlc v15) λv16=>lp5 (F.f126_l3 E Q) [t0,t3,v15,v16,vi 0] H3)
def F.f126:T2:=λE x0 H Q =>
 opt (bU dB .eql x0 (.pointer none)) λv1=>ifB v1 (
 Q (.bool false) H) (
 aHq H λv2 H1=>opt (setMap 0 v2 (.int .u16 1) (vi 1) H1) λH2=>opt (aF x0) λv3=>opt (aB v3 0) λv4=>opt (aC v4 H2) λv5=>E.call 64 [v5] H2 λv6 H3=>opt (lenSlc v6) λv7=>lp5 (F.f126_l1 E Q) [x0,v2,v6,v7,vi 0] H3)

def F.f129:T2:=λE x0 H Q =>
 E.call 68 [x0] H λv1 H1=>E.call 69 [] H1 λv2 H2=>opt (aV [(0,1),(1,1)] #[(.pointer none),(.pointer none)] [(0,v1),(1,v2)]) λv3=>mk (eX v3) H2 λv4 H3=>Q v4 H3

def F.f57:T2:=λE x0 H Q =>
 opt (aV [(0,1),(1,1),(2,1),(3,1),(4,1),(5,1),(6,1)] #[vi 0,(.slice none 0 0),(.slice none 0 0),vi 0,(.string ⟨#[]⟩),vi 0,vi 0] []) λv1=>opt (aV [(0,1),(1,1),(2,1),(3,1),(4,1),(5,1),(6,1)] #[vi 0,(.slice none 0 0),(.slice none 0 0),vi 0,(.string ⟨#[]⟩),vi 0,vi 0] [(0,(vi 2)),(3,(vi 1)),(5,(vi 1))]) λv2=>mk (buildS 2 7 #[vi 0,(.slice none 0 0),(.slice none 0 0),vi 0,(.string ⟨#[]⟩),vi 0,vi 0] [(0,v1),(1,v2)]) H λv3 H1=>opt (fY max2 [x0,vi 1]) λv4=>opt (fY min2 [v4,vi 256]) λv5=>opt (aV [(0,1),(1,1),(2,2),(4,1)] #[vi 0,vi 0,vi 0,vi 0,vi 0] [(1,(vi 1))]) λv6=>mk (buildS 1 5 #[vi 0,vi 0,vi 0,vi 0,vi 0] [(0,v6)]) H1 λv7 H2=>opt (aV [(0,1),(1,1),(2,1),(3,1),(4,1)] #[(.slice none 0 0),vi 0,(.slice none 0 0),vi 0,vi 0] [(0,v3),(1,v5),(2,v7),(3,(vi 1))]) λv8=>mk (eX v8) H2 λv9 H3=>Q v9 H3

def F.f50_j2:T14:=λE Q X0 t0 t1 t8 t15 t16 t17 H =>
 opt (aF t0) λv1=>opt (aB v1 0) λv2=>opt (aC v2 H) λv3=>opt (aH 10 t8 H) λv4=>E.call 71 [v3,t1,v4] H λv5 H1=>opt (aA .add t17 (vi 1)) λv6=>X0 [t0,t1,t15,t16,v6] H1
def F.f50_j1:T17:=λE Q X0 t0 t1 t7 t8 t15 t16 t17 H =>
 opt (aB t8 0) λv1=>opt (aC v1 H) λv2=>opt (aA .rem v2 (.int .u8 15)) λv3=>opt (aA .eql v3 (.int .u8 3)) λv4=>ifB v4 (
 opt (aB t7 13) λv5=>opt (aC v5 H) λv6=>opt (bI .i64 v6) λv7=>E.call 70 [] H λv8 H1=>aC v5 H1=aC v5 H /\
 E.call 70 [] H1 λv9 H2=>aC v5 H2=aC v5 H /\
 opt (lenSlc v9) λv10=>opt (aA .rem v7 v10) λv11=>opt (aP 1 v8 v11) λv12=>opt (aC v12 H2) λv13=>opt (aB t8 5) λv14=>opt (aR v14 v13 H2) λH3=>F.f50_j2 E Q X0 t0 t1 t8 t15 t16 t17 H3) (
 F.f50_j2 E Q X0 t0 t1 t8 t15 t16 t17 H)
def F.f50_l2(E:Sy)(Q:VK)(X0:LK)(t0 t1 t15 t16 t17 t104 t105 t106:Value)(H:AH)(X1:LK):Prop :=
 opt (aA .lss t106 t105) λv1=>ifB v1 (
 opt (aP 1 t104 t106) λv2=>opt (aC v2 H) λv3=>opt (aF t0) λv4=>opt (aB v4 0) λv5=>opt (aC v5 H) λv6=>opt (bI .u16 v3) λv7=>E.call 72 [v6,v7,(.bool true)] H λv8 H1=>E.call 73 [t1,v3,(.bool true)] H1 λv9 H2=>opt (aA .add t106 (vi 1)) λv10=>X1 [t0,t1,t15,t16,t17,t104,t105,v10] H2) (
 opt (aA .add t17 (vi 1)) λv11=>X0 [t0,t1,t15,t16,v11] H)
def F.f50_l1:T6:=λE Q t0 t1 t15 t16 t17 H X0 =>
 opt (aA .lss t17 t16) λv1=>ifB v1 (
 opt (aP 14 t15 t17) λv2=>opt (aH 14 v2 H) λv3=>bV [(.int .u8 0),(.int .u8 0),(.int .u8 0),(.int .u8 0),(.int .u8 0),(.int .u8 0),(.string ⟨#[]⟩),vi 0,(.slice none 0 0),(.bool false),(.bool false),(.int .u8 0),(.int .u8 0),(.int .u8 0)] H λv4 H1=>opt (storeN 14 v4 v3 H1) λH2=>opt (aA .geq t17 (vi 60)) λv5=>ifB v5 (
 Q (.tuple #[]) H2) (
 opt (aB v4 0) λv6=>opt (aC v6 H2) λv7=>opt (aA .rem v7 (.int .u8 12)) λv8=>opt (aA .lss v8 (.int .u8 10)) λv9=>ifB v9 (
 opt (aB v4 1) λv10=>opt (aH 10 v10 H2) λv11=>bV [(.int .u8 0),(.int .u8 0),(.int .u8 0),(.int .u8 0),(.int .u8 0),(.string ⟨#[]⟩),vi 0,(.slice none 0 0),(.bool false),(.bool false)] H2 λv12 H3=>opt (storeN 10 v12 v11 H3) λH4=>opt (aB v12 9) λv13=>opt (aR v13 (.bool false) H4) λH5=>opt (aB v12 0) λv14=>opt (aC v14 H5) λv15=>opt (aA .rem v15 (.int .u8 15)) λv16=>opt (aA .eql v16 (.int .u8 11)) λv17=>ifB v17 (
 opt (aB v12 8) λv18=>opt (aR v18 (.bool true) H5) λH6=>F.f50_j1 E Q X0 t0 t1 v4 v12 t15 t16 t17 H6) (
 F.f50_j1 E Q X0 t0 t1 v4 v12 t15 t16 t17 H5)) (
 opt (aB v4 11) λv19=>opt (aC v19 H2) λv20=>opt (bI .i64 v20) λv21=>opt (aA .rem v21 (vi 8)) λv22=>opt (aA .add (vi 1) v22) λv23=>opt (aB v4 13) λv24=>opt (aC v24 H2) λv25=>opt (aA .rem v25 (.int .u8 3)) λv26=>opt (bI .i64 v26) λv27=>opt (aB v4 12) λv28=>opt (aC v28 H2) λv29=>opt (aA .rem v29 (.int .u8 8)) λv30=>opt (aA .add (.int .u8 1) v30) λv31=>opt (bI .u16 v31) λv32=>opt (aV [(0,1),(1,1)] #[vi 0,(.int .u16 0)] [(0,v27),(1,v32)]) λv33=>bV [vi 0,(.int .u16 0)] H2 λv34 H7=>opt (storeN 2 v34 v33 H7) λH8=>opt (bI .u16 v23) λv35=>opt (aV [(0,1),(1,1)] #[vi 0,(.int .u16 0)] [(1,v35)]) λv36=>E.call 45 [t0,v36] H8 λv37 H9=>gV v37 true t0 H9 λv38 H10=>gO v37 true (aH 2 v34 H10) H10 λv39 H11=>gd v37 true (λk=>E.call 45 [v38,v39] H11 λv h=>k v h) H11 λv40 H12=>opt (pick v37 v40 (.bool false)) λv41=>ifB v41 (
 opt (aF t0) λv42=>opt (aB v42 1) λv43=>opt (aC v43 H12) λv44=>opt (bI .u16 v23) λv45=>opt (aH 2 v34 H12) λv46=>E.call 61 [v44,v45,v46] H12 λv47 H13=>opt (ext v47 0) λv48=>opt (ext v47 1) λv49=>opt (aA .eql v49 (vi 0)) λv50=>ifB v50 (
 opt (aH 2 v34 H13) λv51=>E.call 13 [v51] H13 λv52 H14=>E.call 27 [t1,v23,v52] H14 λv53 H15=>opt (aB v34 1) λv54=>opt (aC v54 H15) λv55=>opt (bI .i64 v55) λv56=>mk (buildS 2 1 #[vi 0] [(0,v23),(1,v56)]) H15 λv57 H16=>opt (lenSlc v57) λv58=>lp8 (F.f50_l2 E Q X0) [t0,t1,t15,t16,t17,v57,v58,vi 0] H16) (
 opt (aA .add t17 (vi 1)) λv59=>X0 [t0,t1,t15,t16,v59] H13)) (
 opt (aA .add t17 (vi 1)) λv60=>X0 [t0,t1,t15,t16,v60] H12)))) (
 Q (.tuple #[]) H)
def F.f50:T1:=λE x0 x1 x2 H Q =>
 opt (lenSlc x2) λv1=>lp5 (F.f50_l1 E Q) [x0,x1,x2,v1,vi 0] H

def F.f132_l1:T3:=λE Q t0 t6 t9 t11 H X0 =>
 opt (aB t9 3) λv1=>opt (aC v1 H) λv2=>opt (lenSlc v2) λv3=>opt (aA .gtr v3 (vi 0)) λv4=>ifB v4 (
 E.call 43 [t9,(.bool true)] H λv5 H1=>opt (aA .neq v5 (vi 0)) λv6=>ifB v6 (
 opt (aV [(0,1),(1,1)] #[vi 0,(.int .u16 0)] []) λv7=>opt (storeN 2 t6 v7 H1) λH2=>opt (aH 2 t6 H2) λv8=>Q (.tuple #[v8,(.string ⟨#[]⟩),v5]) H2) (
 X0 [t0,t6,t9,t11] H1)) (
 opt (aB t9 1) λv9=>opt (aH 2 v9 H) λv10=>E.call 45 [t0,v10] H λv11 H3=>opt (un .not v11) λv12=>ifB v12 (
 opt (aV [(0,1),(1,1)] #[vi 0,(.int .u16 0)] []) λv13=>opt (storeN 2 t6 v13 H3) λH4=>opt (aH 2 t6 H4) λv14=>Q (.tuple #[v14,(.string ⟨#[]⟩),vi 20]) H4) (
 opt (dD t11) λv15=>opt (aA .gtr v15 (vi 14)) λv16=>ifB v16 (
 opt (aV [(0,1),(1,1)] #[vi 0,(.int .u16 0)] []) λv17=>opt (storeN 2 t6 v17 H3) λH5=>opt (aH 2 t6 H5) λv18=>Q (.tuple #[v18,(.string ⟨#[]⟩),vi 36]) H5) (
 E.call 65 [t11] H3 λv19 H6=>opt (un .not v19) λv20=>ifB v20 (
 opt (aV [(0,1),(1,1)] #[vi 0,(.int .u16 0)] []) λv21=>opt (storeN 2 t6 v21 H6) λH7=>opt (aH 2 t6 H7) λv22=>Q (.tuple #[v22,(.string ⟨#[]⟩),vi 22]) H7) (
 opt (aB t9 1) λv23=>opt (aH 2 v23 H6) λv24=>opt (storeN 2 t6 v24 H6) λH8=>opt (aH 2 t6 H8) λv25=>Q (.tuple #[v25,t11,vi 0]) H8))))
def F.f132:T1:=λE x0 x1 x2 H Q =>
 mk (eX x1) H λv1 H1=>bV [vi 0,(.int .u16 0)] H1 λv2 H2=>opt (aH 2 v1 H2) λv3=>E.call 41 [x0,v3,x2] H2 λv4 H3=>opt (ext v4 0) λv5=>opt (ext v4 1) λv6=>bV [(.pointer none),vi 0,(.int .u16 0),(.slice none 0 0),vi 0] H3 λv7 H4=>opt (storeN 5 v7 v5 H4) λH5=>opt (aA .neq v6 (vi 0)) λv8=>ifB v8 (
 opt (aV [(0,1),(1,1)] #[vi 0,(.int .u16 0)] []) λv9=>opt (storeN 2 v2 v9 H5) λH6=>opt (aH 2 v2 H6) λv10=>Q (.tuple #[v10,(.string ⟨#[]⟩),v6]) H6) (
 opt (aB v7 3) λv11=>opt (aC v11 H5) λv12=>opt (lenSlc v12) λv13=>opt (aA .eql v13 (vi 0)) λv14=>gO v14 false (aB v7 3) H5 λv15 H7=>gO v14 false (aC v15 H7) H7 λv16 H8=>gO v14 false (aB v7 3) H8 λv17 H9=>gO v14 false (aC v17 H9) H9 λv18 H10=>gO v14 false (lenSlc v18) H10 λv19 H11=>gO v14 false (aA .sub v19 (vi 1)) H11 λv20 H12=>gO v14 false (aP 1 v16 v20) H12 λv21 H13=>gO v14 false (aC v21 H13) H13 λv22 H14=>gO v14 false (cH .eql v22 (.string ⟨#[46,46]⟩)) H14 λv23 H15=>opt (pick v14 (.bool true) v23) λv24=>ifB v24 (
 opt (aV [(0,1),(1,1)] #[vi 0,(.int .u16 0)] []) λv25=>opt (storeN 2 v2 v25 H15) λH16=>opt (aH 2 v2 H16) λv26=>Q (.tuple #[v26,(.string ⟨#[]⟩),vi 16]) H16) (
 opt (aB v7 3) λv27=>opt (aC v27 H15) λv28=>opt (aB v7 3) λv29=>opt (aC v29 H15) λv30=>opt (lenSlc v30) λv31=>opt (aA .sub v31 (vi 1)) λv32=>opt (aP 1 v28 v32) λv33=>opt (aC v33 H15) λv34=>opt (aB v7 3) λv35=>opt (aC v35 H15) λv36=>opt (aB v7 3) λv37=>opt (aC v37 H15) λv38=>opt (lenSlc v38) λv39=>opt (aA .sub v39 (vi 1)) λv40=>opt (aB v7 3) λv41=>opt (aC v41 H15) λv42=>opt (lenSlc v42) λv43=>opt (aA .sub v43 (vi 1)) λv44=>opt (dQ 1 v36 none (some v40) (some v44) H15) λv45=>opt (aB v7 3) λv46=>opt (aR v46 v45 H15) λH17=>lp4 (F.f132_l1 E Q) [x0,v2,v7,v34] H17))

def F.f10:T1:=λE x0 x1 x2 H Q =>
 E.call 74 [x0,x1] H λv1 H1=>opt (ext v1 0) λv2=>opt (ext v1 1) λv3=>opt (aA .neq v3 (vi 0)) λv4=>ifB v4 (
 Q (.tuple #[(.int .u16 0),v3]) H1) (
 opt (aF v2) λv5=>opt (aB v5 3) λv6=>opt (aC v6 H1) λv7=>opt (look 1 (.int .u16 0) true v7 x2 H1) λv8=>opt (ext v8 0) λv9=>opt (ext v8 1) λv10=>opt (un .not v10) λv11=>ifB v11 (
 Q (.tuple #[(.int .u16 0),vi 2]) H1) (
 Q (.tuple #[v9,vi 0]) H1))

def F.f79:T1:=λE x0 x1 x2 H Q =>
 mk (eX x1) H λv1 H1=>bV [vi 0,vi 0,vi 0,vi 0,(.slice none 0 0),vi 0] H1 λv2 H2=>opt (cH .eql x2 (.string ⟨#[]⟩)) λv3=>ifB v3 (
 opt (aV [(0,2),(2,2),(4,1),(5,1)] #[vi 0,vi 0,vi 0,vi 0,(.slice none 0 0),vi 0] []) λv4=>opt (storeN 6 v2 v4 H2) λH3=>opt (aH 6 v2 H3) λv5=>Q (.tuple #[v5,vi 2]) H3) (
 opt (dD x2) λv6=>opt (aA .gtr v6 (vi 120)) λv7=>ifB v7 (
 opt (aV [(0,2),(2,2),(4,1),(5,1)] #[vi 0,vi 0,vi 0,vi 0,(.slice none 0 0),vi 0] []) λv8=>opt (storeN 6 v2 v8 H2) λH4=>opt (aH 6 v2 H4) λv9=>Q (.tuple #[v9,vi 36]) H4) (
 opt (aH 2 v1 H2) λv10=>opt (aH 2 v1 H2) λv11=>bV [vi 0,vi 0,vi 0,vi 0,(.slice none 0 0),vi 0] H2 λv12 H5=>E.call 75 [x2] H5 λv13 H6=>H6.get H2.next=H5.get H2.next /\
 aH 2 v1 H6=aH 2 v1 H2 /\
 aH 2 v1 H6=aH 2 v1 H2 /\
 opt (aV [(0,2),(2,2),(4,1),(5,1)] #[vi 0,vi 0,vi 0,vi 0,(.slice none 0 0),vi 0] [(0,v10),(1,v11),(2,v13)]) λv14=>opt (storeN 6 v12 v14 H6) λH7=>opt (eZ x2 (vi 0)) λv15=>opt (aA .eql v15 (.int .u8 47)) λv16=>ifB v16 (
 E.call 7 [] H7 λv17 H8=>E.call 60 [x0,v17] H8 λv18 H9=>opt (aB v12 0) λv19=>opt (storeN 2 v19 v18 H9) λH10=>opt (aB v12 0) λv20=>opt (aH 2 v20 H10) λv21=>opt (aB v12 2) λv22=>opt (storeN 2 v22 v21 H10) λH11=>opt (aH 6 v12 H11) λv23=>opt (storeN 6 v2 v23 H11) λH12=>opt (aH 6 v2 H12) λv24=>Q (.tuple #[v24,vi 0]) H12) (
 opt (aH 6 v12 H7) λv25=>opt (storeN 6 v2 v25 H7) λH13=>opt (aH 6 v2 H13) λv26=>Q (.tuple #[v26,vi 0]) H13)))

def F.f84_j1:T11:=λE Q t4 t6 t11 H =>
 opt (aF t11) λv1=>opt (aB v1 4) λv2=>opt (aC v2 H) λv3=>opt (aB t4 4) λv4=>opt (aC v4 H) λv5=>E.call 75 [v3] H λv6 H1=>aC v4 H1=aC v4 H /\
 gJ (app 1 16 v6 v5 H1) λv7 H2=>opt (aB t4 4) λv8=>opt (aR v8 v7 H2) λH3=>opt (aH 6 t4 H3) λv9=>opt (storeN 6 t6 v9 H3) λH4=>opt (aH 6 t6 H4) λv10=>Q (.tuple #[v10,vi 0]) H4
def F.f84:T1:=λE x0 x1 x2 H Q =>
 mk (eX x1) H λv1 H1=>bV [vi 0,vi 0,vi 0,vi 0,(.slice none 0 0),vi 0] H1 λv2 H2=>opt (aB v1 4) λv3=>opt (aC v3 H2) λv4=>opt (aP 1 v4 (vi 0)) λv5=>opt (aC v5 H2) λv6=>opt (aB v1 4) λv7=>opt (aC v7 H2) λv8=>opt (dQ 1 v8 (some (vi 1)) none none H2) λv9=>opt (aB v1 4) λv10=>opt (aR v10 v9 H2) λH3=>opt (aB v1 0) λv11=>opt (aH 2 v11 H3) λv12=>E.call 25 [x0,v12] H3 λv13 H4=>opt (un .not v13) λv14=>ifB v14 (
 opt (aH 6 v1 H4) λv15=>opt (storeN 6 v2 v15 H4) λH5=>opt (aH 6 v2 H5) λv16=>Q (.tuple #[v16,vi 20]) H5) (
 opt (cH .eql v6 (.string ⟨#[46,46]⟩)) λv17=>ifB v17 (
 opt (aB v1 0) λv18=>opt (aH 2 v18 H4) λv19=>E.call 76 [x0,v19] H4 λv20 H6=>opt (aB v1 0) λv21=>opt (storeN 2 v21 v20 H6) λH7=>opt (aB v1 0) λv22=>opt (aH 2 v22 H7) λv23=>opt (aB v1 2) λv24=>opt (storeN 2 v24 v23 H7) λH8=>opt (aB v1 0) λv25=>opt (aB v25 1) λv26=>opt (aC v26 H8) λv27=>E.call 26 [x0,v27] H8 λv28 H9=>opt (aF v28) λv29=>opt (aB v29 0) λv30=>opt (aC v30 H9) λv31=>opt (aA .neq v31 (vi 0)) λv32=>gV v32 true x0 H9 λv33 H10=>gO v32 true (aB v1 0) H10 λv34 H11=>gO v32 true (aH 2 v34 H11) H11 λv35 H12=>gd v32 true (λk=>E.call 25 [v33,v35] H12 λv h=>k v h) H12 λv36 H13=>gO v32 true (un .not v36) H13 λv37 H14=>opt (pick v32 v37 (.bool false)) λv38=>ifB v38 (
 opt (aH 6 v1 H14) λv39=>opt (storeN 6 v2 v39 H14) λH15=>opt (aH 6 v2 H15) λv40=>Q (.tuple #[v40,vi 2]) H15) (
 opt (aH 6 v1 H14) λv41=>opt (storeN 6 v2 v41 H14) λH16=>opt (aH 6 v2 H16) λv42=>Q (.tuple #[v42,vi 0]) H16)) (
 opt (dD v6) λv43=>opt (aA .gtr v43 (vi 14)) λv44=>ifB v44 (
 opt (aH 6 v1 H4) λv45=>opt (storeN 6 v2 v45 H4) λH17=>opt (aH 6 v2 H17) λv46=>Q (.tuple #[v46,vi 36]) H17) (
 opt (aB v1 0) λv47=>opt (aB v47 1) λv48=>opt (aC v48 H4) λv49=>E.call 12 [x0,v49,v6] H4 λv50 H18=>opt (ext v50 0) λv51=>opt (ext v50 1) λv52=>opt (aA .neq v52 (vi 0)) λv53=>ifB v53 (
 opt (aH 6 v1 H18) λv54=>opt (storeN 6 v2 v54 H18) λH19=>opt (aH 6 v2 H19) λv55=>Q (.tuple #[v55,v52]) H19) (
 E.call 26 [x0,v51] H18 λv56 H20=>opt (aF v56) λv57=>opt (aB v57 0) λv58=>opt (aC v58 H20) λv59=>opt (aA .eql v59 (vi 3)) λv60=>gV v60 true x2 H20 λv61 H21=>gV v60 true v61 H21 λv62 H22=>gO v62 false (aB v1 4) H22 λv63 H23=>gO v62 false (aC v63 H23) H23 λv64 H24=>gO v62 false (lenSlc v64) H24 λv65 H25=>gO v62 false (aA .gtr v65 (vi 0)) H25 λv66 H26=>gO v60 true (pick v62 (.bool true) v66) H26 λv67 H27=>opt (pick v60 v67 (.bool false)) λv68=>ifB v68 (
 opt (aB v1 5) λv69=>opt (aC v69 H27) λv70=>opt (aA .add v70 (vi 1)) λv71=>opt (aB v1 5) λv72=>opt (aR v72 v71 H27) λH28=>opt (aB v1 5) λv73=>opt (aC v73 H28) λv74=>opt (aA .gtr v74 (vi 8)) λv75=>ifB v75 (
 opt (aH 6 v1 H28) λv76=>opt (storeN 6 v2 v76 H28) λH29=>opt (aH 6 v2 H29) λv77=>Q (.tuple #[v77,vi 40]) H29) (
 opt (aF v56) λv78=>opt (aB v78 4) λv79=>opt (aC v79 H28) λv80=>opt (eZ v80 (vi 0)) λv81=>opt (aA .eql v81 (.int .u8 47)) λv82=>ifB v82 (
 E.call 7 [] H28 λv83 H30=>E.call 60 [x0,v83] H30 λv84 H31=>opt (aB v1 0) λv85=>opt (storeN 2 v85 v84 H31) λH32=>opt (aB v1 0) λv86=>opt (aH 2 v86 H32) λv87=>opt (aB v1 2) λv88=>opt (storeN 2 v88 v87 H32) λH33=>F.f84_j1 E Q v1 v2 v56 H33) (
 F.f84_j1 E Q v1 v2 v56 H28))) (
 opt (aB v1 0) λv89=>opt (aH 2 v89 H27) λv90=>opt (aB v1 2) λv91=>opt (storeN 2 v91 v90 H27) λH34=>opt (aB v1 0) λv92=>opt (aB v92 0) λv93=>opt (aC v93 H34) λv94=>opt (aV [(0,1),(1,1)] #[vi 0,vi 0] [(0,v94),(1,v51)]) λv95=>opt (aB v1 0) λv96=>opt (storeN 2 v96 v95 H34) λH35=>opt (aF v56) λv97=>opt (aB v97 0) λv98=>opt (aC v98 H35) λv99=>opt (aA .eql v99 (vi 2)) λv100=>ifB v100 (
 opt (aB v1 0) λv101=>opt (aH 2 v101 H35) λv102=>E.call 60 [x0,v102] H35 λv103 H36=>opt (aB v1 0) λv104=>opt (storeN 2 v104 v103 H36) λH37=>opt (aB v1 0) λv105=>opt (aH 2 v105 H37) λv106=>opt (aB v1 2) λv107=>opt (storeN 2 v107 v106 H37) λH38=>opt (aH 6 v1 H38) λv108=>opt (storeN 6 v2 v108 H38) λH39=>opt (aH 6 v2 H39) λv109=>Q (.tuple #[v109,vi 0]) H39) (
 opt (aH 6 v1 H35) λv110=>opt (storeN 6 v2 v110 H35) λH40=>opt (aH 6 v2 H40) λv111=>Q (.tuple #[v111,vi 0]) H40))))))

def F.f56_l1:T21:=λE Q t0 t3 H X0 =>
 opt (dD t0) λv1=>opt (aA .lss t3 v1) λv2=>ifB v2 (
 opt (eZ t0 t3) λv3=>opt (aA .lss v3 (.int .u8 33)) λv4=>gV v4 false t0 H λv5 H1=>gV v4 false t3 H1 λv6 H2=>gO v4 false (eZ v5 v6) H2 λv7 H3=>gO v4 false (aA .gtr v7 (.int .u8 126)) H3 λv8 H4=>opt (pick v4 (.bool true) v8) λv9=>gV v9 false t0 H4 λv10 H5=>gV v9 false t3 H5 λv11 H6=>gO v9 false (eZ v10 v11) H6 λv12 H7=>gO v9 false (aA .eql v12 (.int .u8 47)) H7 λv13 H8=>opt (pick v9 (.bool true) v13) λv14=>gV v14 false t0 H8 λv15 H9=>gV v14 false t3 H9 λv16 H10=>gO v14 false (eZ v15 v16) H10 λv17 H11=>gO v14 false (aA .eql v17 (.int .u8 35)) H11 λv18 H12=>opt (pick v14 (.bool true) v18) λv19=>ifB v19 (
 Q (.bool false) H12) (
 opt (aA .add t3 (vi 1)) λv20=>X0 [t0,v20] H12)) (
 opt (dD t0) λv21=>opt (aA .geq v21 (vi 1)) λv22=>gV v22 true t0 H λv23 H13=>gO v22 true (dD v23) H13 λv24 H14=>gO v22 true (aA .leq v24 (vi 14)) H14 λv25 H15=>opt (pick v22 v25 (.bool false)) λv26=>gV v26 true t0 H15 λv27 H16=>gO v26 true (cH .neq v27 (.string ⟨#[46]⟩)) H16 λv28 H17=>opt (pick v26 v28 (.bool false)) λv29=>gV v29 true t0 H17 λv30 H18=>gO v29 true (cH .neq v30 (.string ⟨#[46,46]⟩)) H18 λv31 H19=>opt (pick v29 v31 (.bool false)) λv32=>Q v32 H19)
def F.f56:T2:=λE x0 H Q =>
 lp2 (F.f56_l1 E Q) [x0,vi 0] H

def F.f81:T0:=λE x0 x1 H Q =>
 E.call 26 [x0,x1] H λv1 H1=>opt (aF v1) λv2=>opt (aB v2 0) λv3=>opt (aC v3 H1) λv4=>opt (aA .eql v4 (vi 0)) λv5=>ifB v5 (
 Q (vi 2) H1) (
 opt (aA .eql v4 (vi 2)) λv6=>ifB v6 (
 Q (vi 0) H1) (
 Q (vi 20) H1))

def F.f87_l1:T5:=λE Q t0 t1 t5 H X0 =>
 opt (aF t0) λv1=>opt (aB v1 2) λv2=>opt (aC v2 H) λv3=>opt (lenSlc v3) λv4=>opt (aA .lss t5 v4) λv5=>ifB v5 (
 opt (aF t0) λv6=>opt (aB v6 2) λv7=>opt (aC v7 H) λv8=>opt (aP 2 v8 t5) λv9=>opt (aB v9 0) λv10=>opt (aC v10 H) λv11=>opt (cH .eql v11 t1) λv12=>ifB v12 (
 Q t5 H) (
 opt (aA .add t5 (vi 1)) λv13=>X0 [t0,t1,v13] H)) (
 Q (.int .i64 (-1)) H)
def F.f87:T0:=λE x0 x1 H Q =>
 lp3 (F.f87_l1 E Q) [x0,x1,vi 0] H

def F.f134_j1:T11:=λE Q t2 t6 t8 H =>
 E.call 79 [t2] H λv1 H1=>opt (aB t8 3) λv2=>opt (aR v2 v1 H1) λH2=>opt (aH 5 t8 H2) λv3=>opt (storeN 5 t6 v3 H2) λH3=>opt (aH 5 t6 H3) λv4=>Q (.tuple #[v4,vi 0]) H3
def F.f134:T1:=λE x0 x1 x2 H Q =>
 mk (eX x1) H λv1 H1=>bV [(.pointer none),vi 0,(.int .u16 0),(.slice none 0 0),vi 0] H1 λv2 H2=>opt (aH 2 v1 H2) λv3=>opt (aV [(0,1),(1,2),(3,1),(4,1)] #[(.pointer none),vi 0,(.int .u16 0),(.slice none 0 0),vi 0] [(0,x0),(1,v3)]) λv4=>bV [(.pointer none),vi 0,(.int .u16 0),(.slice none 0 0),vi 0] H2 λv5 H3=>opt (storeN 5 v5 v4 H3) λH4=>E.call 77 [x0] H4 λv6 H5=>opt (un .not v6) λv7=>ifB v7 (
 opt (aH 5 v5 H5) λv8=>opt (storeN 5 v2 v8 H5) λH6=>opt (aH 5 v2 H6) λv9=>Q (.tuple #[v9,vi 201]) H6) (
 opt (cH .eql x2 (.string ⟨#[]⟩)) λv10=>ifB v10 (
 opt (aH 5 v5 H5) λv11=>opt (storeN 5 v2 v11 H5) λH7=>opt (aH 5 v2 H7) λv12=>Q (.tuple #[v12,vi 2]) H7) (
 opt (dD x2) λv13=>opt (aA .gtr v13 (vi 120)) λv14=>ifB v14 (
 opt (aH 5 v5 H5) λv15=>opt (storeN 5 v2 v15 H5) λH8=>opt (aH 5 v2 H8) λv16=>Q (.tuple #[v16,vi 36]) H8) (
 opt (eZ x2 (vi 0)) λv17=>opt (aA .eql v17 (.int .u8 47)) λv18=>ifB v18 (
 opt (aF x0) λv19=>opt (aB v19 1) λv20=>opt (aC v20 H5) λv21=>E.call 10 [] H5 λv22 H9=>aC v20 H9=aC v20 H5 /\
 E.call 78 [v21,v22] H9 λv23 H10=>opt (aB v5 1) λv24=>opt (storeN 2 v24 v23 H10) λH11=>F.f134_j1 E Q x2 v2 v5 H11) (
 F.f134_j1 E Q x2 v2 v5 H5))))

def F.f110:T0:=λE x0 x1 H Q =>
 E.call 80 [x0,x1] H λv1 H1=>Q v1 H1

def F.f138:T0:=λE x0 x1 H Q =>
 opt (aF x0) λv1=>opt (aB v1 3) λv2=>opt (aC v2 H) λv3=>opt (aP 1 v3 (vi 0)) λv4=>opt (aC v4 H) λv5=>opt (aF x0) λv6=>opt (aB v6 3) λv7=>opt (aC v7 H) λv8=>opt (dQ 1 v8 (some (vi 1)) none none H) λv9=>opt (aF x0) λv10=>opt (aB v10 3) λv11=>opt (aR v11 v9 H) λH1=>opt (aF x0) λv12=>opt (aB v12 0) λv13=>opt (aC v13 H1) λv14=>opt (aF x0) λv15=>opt (aB v15 1) λv16=>opt (aH 2 v16 H1) λv17=>E.call 45 [v14,v17] H1 λv18 H2=>opt (un .not v18) λv19=>ifB v19 (
 Q (vi 20) H2) (
 opt (cH .eql v5 (.string ⟨#[46,46]⟩)) λv20=>ifB v20 (
 opt (aF x0) λv21=>opt (aB v21 0) λv22=>opt (aC v22 H2) λv23=>opt (aF x0) λv24=>opt (aB v24 1) λv25=>opt (aH 2 v25 H2) λv26=>E.call 81 [v23,v26] H2 λv27 H3=>opt (aF x0) λv28=>opt (aB v28 1) λv29=>opt (storeN 2 v29 v27 H3) λH4=>opt (aF x0) λv30=>opt (aB v30 0) λv31=>opt (aC v31 H4) λv32=>opt (aF v32) λv33=>opt (aB v33 0) λv34=>opt (aC v34 H4) λv35=>opt (aF x0) λv36=>opt (aB v36 1) λv37=>opt (aB v37 1) λv38=>opt (aC v38 H4) λv39=>E.call 44 [v35,v39] H4 λv40 H5=>opt (bU dB .neq v40 (.pointer none)) λv41=>gV v41 true x0 H5 λv42 H6=>gO v41 true (aF v42) H6 λv43 H7=>gO v41 true (aB v43 0) H7 λv44 H8=>gO v41 true (aC v44 H8) H8 λv45 H9=>gV v41 true x0 H9 λv46 H10=>gO v41 true (aF v46) H10 λv47 H11=>gO v41 true (aB v47 1) H11 λv48 H12=>gO v41 true (aH 2 v48 H12) H12 λv49 H13=>gd v41 true (λk=>E.call 45 [v45,v49] H13 λv h=>k v h) H13 λv50 H14=>gO v41 true (un .not v50) H14 λv51 H15=>opt (pick v41 v51 (.bool false)) λv52=>ifB v52 (
 Q (vi 2) H15) (
 Q (vi 0) H15)) (
 opt (dD v5) λv53=>opt (aA .gtr v53 (vi 14)) λv54=>ifB v54 (
 Q (vi 36) H2) (
 opt (aF x0) λv55=>opt (aB v55 0) λv56=>opt (aC v56 H2) λv57=>opt (aF v57) λv58=>opt (aB v58 0) λv59=>opt (aC v59 H2) λv60=>opt (aF x0) λv61=>opt (aB v61 1) λv62=>opt (aB v62 1) λv63=>opt (aC v63 H2) λv64=>E.call 35 [v60,v64,v5] H2 λv65 H16=>opt (ext v65 0) λv66=>opt (ext v65 1) λv67=>opt (aA .neq v67 (vi 0)) λv68=>ifB v68 (
 Q v67 H16) (
 opt (aF x0) λv69=>opt (aB v69 0) λv70=>opt (aC v70 H16) λv71=>opt (aF v71) λv72=>opt (aB v72 0) λv73=>opt (aC v73 H16) λv74=>E.call 44 [v74,v66] H16 λv75 H17=>opt (aF v75) λv76=>opt (aB v76 1) λv77=>opt (aC v77 H17) λv78=>opt (aA .eql v78 (.int .u8 3)) λv79=>gV v79 true x1 H17 λv80 H18=>gV v79 true v80 H18 λv81 H19=>gV v81 false x0 H19 λv82 H20=>gO v81 false (aF v82) H20 λv83 H21=>gO v81 false (aB v83 3) H21 λv84 H22=>gO v81 false (aC v84 H22) H22 λv85 H23=>gO v81 false (lenSlc v85) H23 λv86 H24=>gO v81 false (aA .gtr v86 (vi 0)) H24 λv87 H25=>gO v79 true (pick v81 (.bool true) v87) H25 λv88 H26=>opt (pick v79 v88 (.bool false)) λv89=>ifB v89 (
 opt (aF v75) λv90=>opt (aB v90 5) λv91=>opt (aC v91 H26) λv92=>E.call 82 [x0,v92] H26 λv93 H27=>Q v93 H27) (
 opt (aF x0) λv94=>opt (aB v94 1) λv95=>opt (aB v95 0) λv96=>opt (aC v96 H26) λv97=>opt (aV [(0,1),(1,1)] #[vi 0,(.int .u16 0)] [(0,v97),(1,v66)]) λv98=>opt (aF x0) λv99=>opt (aB v99 1) λv100=>opt (storeN 2 v100 v98 H26) λH28=>opt (aF v75) λv101=>opt (aB v101 1) λv102=>opt (aC v102 H28) λv103=>opt (aA .eql v103 (.int .u8 2)) λv104=>ifB v104 (
 opt (aF x0) λv105=>opt (aB v105 0) λv106=>opt (aC v106 H28) λv107=>opt (aF v107) λv108=>opt (aB v108 1) λv109=>opt (aC v109 H28) λv110=>opt (aF x0) λv111=>opt (aB v111 1) λv112=>opt (aH 2 v112 H28) λv113=>E.call 78 [v110,v113] H28 λv114 H29=>opt (aF x0) λv115=>opt (aB v115 1) λv116=>opt (storeN 2 v116 v114 H29) λH30=>Q (vi 0) H30) (
 Q (vi 0) H28))))))

def F.f8:T0:=λE x0 x1 H Q =>
 opt (bU dB .eql x0 (.pointer none)) λv1=>ifB v1 (
 Q (.pointer none) H) (
 opt (aF x0) λv2=>opt (aB v2 0) λv3=>opt (aC v3 H) λv4=>opt (look 0 (.pointer none) false v4 x1 H) λv5=>Q v5 H)

def F.f130:T0:=λE x0 x1 H Q =>
 mk (eX x1) H λv1 H1=>E.call 77 [x0] H1 λv2 H2=>opt (un .not v2) λv3=>ifB v3 (
 Q (.bool false) H2) (
 opt (aF x0) λv4=>opt (aB v4 0) λv5=>opt (aC v5 H2) λv6=>opt (aB v1 1) λv7=>opt (aC v7 H2) λv8=>E.call 44 [v6,v8] H2 λv9 H3=>opt (aF x0) λv10=>opt (aB v10 1) λv11=>opt (aC v11 H3) λv12=>opt (aB v1 0) λv13=>opt (aC v13 H3) λv14=>bV [vi 0,vi 0,(.int .u16 0),(.int .u16 0),vi 0] H3 λv15 H4=>E.call 83 [v12,v14] H4 λv16 H5=>H5.get H3.next=H4.get H3.next /\
 opt (ext v16 0) λv17=>opt (ext v16 1) λv18=>opt (storeN 5 v15 v17 H5) λH6=>gV v18 true v9 H6 λv19 H7=>gO v18 true (bU dB .neq v19 (.pointer none)) H7 λv20 H8=>opt (pick v18 v20 (.bool false)) λv21=>gV v21 true v9 H8 λv22 H9=>gO v21 true (aF v22) H9 λv23 H10=>gO v21 true (aB v23 1) H10 λv24 H11=>gO v21 true (aC v24 H11) H11 λv25 H12=>gO v21 true (aA .eql v25 (.int .u8 2)) H12 λv26 H13=>opt (pick v21 v26 (.bool false)) λv27=>Q v27 H13)

def F.f11_j1:T15:=λE Q t0 t2 t12 t14 t15 H =>
 opt (aF t0) λv1=>opt (aB v1 0) λv2=>opt (aC v2 H) λv3=>opt (setMap 0 v3 t14 t15 H) λH1=>opt (aF t12) λv4=>opt (aB v4 3) λv5=>opt (aC v5 H1) λv6=>opt (setMap 1 v6 t2 t14 H1) λH2=>opt (aF t0) λv7=>opt (aB v7 2) λv8=>E.call 86 [v8,vi 1] H2 λv9 H3=>Q (.tuple #[t14,vi 0]) H3
def F.f11_l1(E:Sy)(Q:VK)(t0 t1 t2 t3 t4 t12 t14:Value)(H:AH)(X0:LK):Prop :=
 opt (aF t0) λv1=>opt (aB v1 0) λv2=>opt (aC v2 H) λv3=>opt (look 0 (.pointer none) false v3 t14 H) λv4=>opt (bU dB .neq v4 (.pointer none)) λv5=>ifB v5 (
 opt (aA .add t14 (.int .u16 1)) λv6=>X0 [t0,t1,t2,t3,t4,t12,v6] H) (
 opt (aV [(0,1),(1,1),(2,1),(3,1),(4,1),(5,1),(6,1),(7,1)] #[(.int .u16 0),(.int .u8 0),(.slice none 0 0),(.map none),(.int .u16 0),(.string ⟨#[]⟩),vi 0,vi 0] [(0,t14),(1,t3),(6,(vi 1))]) λv7=>mk (eX v7) H λv8 H1=>opt (aA .eql t3 (.int .u8 2)) λv9=>ifB v9 (
 aHq H1 λv10 H2=>opt (aF v8) λv11=>opt (aB v11 3) λv12=>opt (aR v12 v10 H2) λH3=>opt (aF v8) λv13=>opt (aB v13 4) λv14=>opt (aR v14 t1 H3) λH4=>F.f11_j1 E Q t0 t2 t12 t14 v8 H4) (
 opt (aA .eql t3 (.int .u8 3)) λv15=>ifB v15 (
 opt (aF v8) λv16=>opt (aB v16 5) λv17=>opt (aR v17 t4 H1) λH5=>F.f11_j1 E Q t0 t2 t12 t14 v8 H5) (
 F.f11_j1 E Q t0 t2 t12 t14 v8 H1)))
def F.f11:T9:=λE x0 x1 x2 x3 x4 H Q =>
 E.call 84 [x0,x1,x2] H λv1 H1=>opt (ext v1 0) λv2=>opt (ext v1 1) λv3=>opt (aA .neq v3 (vi 0)) λv4=>ifB v4 (
 Q (.tuple #[(.int .u16 0),v3]) H1) (
 opt (aA .lss x3 (.int .u8 1)) λv5=>gV v5 false x3 H1 λv6 H2=>gO v5 false (aA .gtr v6 (.int .u8 3)) H2 λv7 H3=>opt (pick v5 (.bool true) v7) λv8=>ifB v8 (
 Q (.tuple #[(.int .u16 0),vi 22]) H3) (
 opt (aA .eql x3 (.int .u8 3)) λv9=>gV v9 true x4 H3 λv10 H4=>gO v9 true (dD v10) H4 λv11 H5=>gO v9 true (aA .lss v11 (vi 1)) H5 λv12 H6=>gV v9 true v12 H6 λv13 H7=>gV v13 false x4 H7 λv14 H8=>gO v13 false (dD v14) H8 λv15 H9=>gO v13 false (aA .gtr v15 (vi 120)) H9 λv16 H10=>gO v9 true (pick v13 (.bool true) v16) H10 λv17 H11=>opt (pick v9 v17 (.bool false)) λv18=>ifB v18 (
 Q (.tuple #[(.int .u16 0),vi 22]) H11) (
 opt (aF x0) λv19=>opt (aB v19 0) λv20=>opt (aC v20 H11) λv21=>opt (iB v21 H11) λv22=>opt (aF x0) λv23=>opt (aB v23 1) λv24=>opt (aC v24 H11) λv25=>opt (aA .geq v22 v25) λv26=>ifB v26 (
 Q (.tuple #[(.int .u16 0),vi 28]) H11) (
 opt (aA .eql x3 (.int .u8 2)) λv27=>gV v27 true x0 H11 λv28 H12=>gV v27 true x1 H12 λv29 H13=>gd v27 true (λk=>E.call 85 [v28,v29] H13 λv h=>k v h) H13 λv30 H14=>gO v27 true (aA .geq v30 (vi 16)) H14 λv31 H15=>opt (pick v27 v31 (.bool false)) λv32=>ifB v32 (
 Q (.tuple #[(.int .u16 0),vi 28]) H15) (
 lp7 (F.f11_l1 E Q) [x0,x1,x2,x3,x4,v2,(.int .u16 1)] H15)))))

def F.f83:T1:=λE x0 x1 x2 H Q =>
 E.call 39 [x0,x1] H λv1 H1=>opt (aA .neq v1 (vi 0)) λv2=>ifB v2 (
 Q v1 H1) (
 E.call 26 [x0,x1] H1 λv3 H2=>E.call 38 [x2] H2 λv4 H3=>opt (un .not v4) λv5=>ifB v5 (
 Q (vi 22) H3) (
 E.call 40 [v3,x2] H3 λv6 H4=>opt (aA .geq v6 (vi 0)) λv7=>ifB v7 (
 Q (vi 17) H4) (
 opt (aF v3) λv8=>opt (aB v8 5) λv9=>opt (aC v9 H4) λv10=>opt (aA .eql v10 (vi 0)) λv11=>ifB v11 (
 Q (vi 2) H4) (
 opt (aF v3) λv12=>opt (aB v12 2) λv13=>opt (aC v13 H4) λv14=>opt (lenSlc v14) λv15=>opt (aA .geq v15 (vi 32)) λv16=>ifB v16 (
 Q (vi 28) H4) (
 Q (vi 0) H4)))))

def F.f69_l1:T5:=λE Q t0 t3 t4 H X0 =>
 opt (aF t0) λv1=>opt (aB v1 0) λv2=>opt (aC v2 H) λv3=>opt (lenSlc v3) λv4=>opt (aA .lss t4 v4) λv5=>ifB v5 (
 opt (aF t0) λv6=>opt (aB v6 0) λv7=>opt (aC v7 H) λv8=>opt (aP 7 v8 t4) λv9=>opt (aB v9 0) λv10=>opt (aC v10 H) λv11=>opt (aA .gtr v11 (vi 0)) λv12=>ifB v12 (
 opt (aA .add t3 (vi 1)) λv13=>opt (aA .add t4 (vi 1)) λv14=>X0 [t0,v13,v14] H) (
 opt (aA .add t4 (vi 1)) λv15=>X0 [t0,t3,v15] H)) (
 Q t3 H)
def F.f69:T2:=λE x0 H Q =>
 lp3 (F.f69_l1 E Q) [x0,vi 0,vi 0] H

def F.f80_l1:T5:=λE Q t0 t1 t5 H X0 =>
 opt (aA .neq t1 (vi 1)) λv1=>gV v1 true t5 H λv2 H1=>gO v1 true (aA .lss v2 (vi 20)) H1 λv3 H2=>opt (pick v1 v3 (.bool false)) λv4=>ifB v4 (
 E.call 26 [t0,t1] H2 λv5 H3=>opt (aF v5) λv6=>opt (aB v6 3) λv7=>opt (aC v7 H3) λv8=>opt (aA .add t5 (vi 1)) λv9=>X0 [t0,v8,v9] H3) (
 Q t5 H2)
def F.f80:T0:=λE x0 x1 H Q =>
 lp3 (F.f80_l1 E Q) [x0,x1,vi 0] H

def F.f88_l1:T5:=λE Q t0 t3 t5 H X0 =>
 opt (lenSlc t0) λv1=>opt (aA .lss t5 v1) λv2=>gV v2 true t0 H λv3 H1=>gV v2 true t5 H1 λv4 H2=>gO v2 true (aP 2 v3 v4) H2 λv5 H3=>gO v2 true (aB v5 0) H3 λv6 H4=>gO v2 true (aC v6 H4) H4 λv7 H5=>gO v2 true (aB t3 0) H5 λv8 H6=>gO v2 true (aC v8 H6) H6 λv9 H7=>gO v2 true (cH .lss v7 v9) H7 λv10 H8=>opt (pick v2 v10 (.bool false)) λv11=>ifB v11 (
 opt (aA .add t5 (vi 1)) λv12=>X0 [t0,t3,v12] H8) (
 mk (buildS 0 2 #[(.string ⟨#[]⟩),vi 0] []) H8 λv13 H9=>opt (dQ 2 t0 none (some t5) none H9) λv14=>opt (aH 2 t3 H9) λv15=>mk (buildS 1 2 #[(.string ⟨#[]⟩),vi 0] [(0,v15)]) H9 λv16 H10=>opt (dQ 2 t0 (some t5) none none H10) λv17=>gJ (app 2 24 v13 v14 H10) λv18 H11=>dQ 2 t0 (some t5) none none H11=dQ 2 t0 (some t5) none none H10 /\
 H11.get H9.next=H10.get H9.next /\
 aH 2 t3 H11=aH 2 t3 H9 /\
 gJ (app 2 24 v18 v16 H11) λv19 H12=>dQ 2 t0 (some t5) none none H12=dQ 2 t0 (some t5) none none H10 /\
 gJ (app 2 24 v19 v17 H12) λv20 H13=>Q v20 H13)
def F.f88:T0:=λE x0 x1 H Q =>
 mk (eX x1) H λv1 H1=>lp3 (F.f88_l1 E Q) [x0,v1,vi 0] H1

def F.f89:T0:=λE x0 x1 H Q =>
 mk (buildS 0 2 #[(.string ⟨#[]⟩),vi 0] []) H λv1 H1=>opt (dQ 2 x0 none (some x1) none H1) λv2=>opt (aA .add x1 (vi 1)) λv3=>opt (dQ 2 x0 (some v3) none none H1) λv4=>gJ (app 2 24 v1 v2 H1) λv5 H2=>dQ 2 x0 (some v3) none none H2=dQ 2 x0 (some v3) none none H1 /\
 gJ (app 2 24 v5 v4 H2) λv6 H3=>Q v6 H3

def F.f86:T0:=λE x0 x1 H Q =>
 opt (aF x0) λv1=>opt (aB v1 0) λv2=>opt (aC v2 H) λv3=>opt (aP 7 v3 x1) λv4=>opt (aB v4 5) λv5=>opt (aC v5 H) λv6=>opt (aA .eql v6 (vi 0)) λv7=>gV v7 true x0 H λv8 H1=>gO v7 true (aF v8) H1 λv9 H2=>gO v7 true (aB v9 0) H2 λv10 H3=>gO v7 true (aC v10 H3) H3 λv11 H4=>gV v7 true x1 H4 λv12 H5=>gO v7 true (aP 7 v11 v12) H5 λv13 H6=>gO v7 true (aB v13 6) H6 λv14 H7=>gO v7 true (aC v14 H7) H7 λv15 H8=>gO v7 true (aA .eql v15 (vi 0)) H8 λv16 H9=>opt (pick v7 v16 (.bool false)) λv17=>ifB v17 (
 opt (aF x0) λv18=>opt (aB v18 0) λv19=>opt (aC v19 H9) λv20=>opt (aV [(0,1),(1,1),(2,1),(3,1),(4,1),(5,1),(6,1)] #[vi 0,(.slice none 0 0),(.slice none 0 0),vi 0,(.string ⟨#[]⟩),vi 0,vi 0] []) λv21=>opt (aP 7 v20 x1) λv22=>opt (storeN 7 v22 v21 H9) λH10=>Q (.tuple #[]) H10) (
 Q (.tuple #[]) H9)

def F.f40:T0:=λE x0 x1 H Q =>
 mk (eX x1) H λv1 H1=>opt (bU dB .eql x0 (.pointer none)) λv2=>ifB v2 (
 Q (.bool false) H1) (
 opt (aF x0) λv3=>opt (aB v3 0) λv4=>opt (aC v4 H1) λv5=>opt (some (.func (.func 88) #[] #[v1])) λv6=>E.call 87 [v5,v6] H1 λv7 H2=>Q v7 H2)

def F.f7:T4:=λE x0 x1 x2 x3 H Q =>
 E.call 35 [x0,x1,x2] H λv1 H1=>opt (ext v1 0) λv2=>opt (ext v1 1) λv3=>opt (aA .neq v3 (vi 0)) λv4=>ifB v4 (
 Q v3 H1) (
 opt (aF x0) λv5=>opt (aB v5 0) λv6=>opt (aC v6 H1) λv7=>opt (look 0 (.pointer none) false v7 v2 H1) λv8=>gV x3 true v8 H1 λv9 H2=>gO x3 true (aF v9) H2 λv10 H3=>gO x3 true (aB v10 1) H3 λv11 H4=>gO x3 true (aC v11 H4) H4 λv12 H5=>gO x3 true (aA .neq v12 (.int .u8 2)) H5 λv13 H6=>opt (pick x3 v13 (.bool false)) λv14=>ifB v14 (
 Q (vi 20) H6) (
 opt (un .not x3) λv15=>gV v15 true v8 H6 λv16 H7=>gO v15 true (aF v16) H7 λv17 H8=>gO v15 true (aB v17 1) H8 λv18 H9=>gO v15 true (aC v18 H9) H9 λv19 H10=>gO v15 true (aA .eql v19 (.int .u8 2)) H10 λv20 H11=>opt (pick v15 v20 (.bool false)) λv21=>ifB v21 (
 Q (vi 21) H11) (
 gV x3 true v8 H11 λv22 H12=>gO x3 true (aF v22) H12 λv23 H13=>gO x3 true (aB v23 3) H13 λv24 H14=>gO x3 true (aC v24 H14) H14 λv25 H15=>gO x3 true (iB v25 H15) H15 λv26 H16=>gO x3 true (aA .gtr v26 (vi 0)) H16 λv27 H17=>opt (pick x3 v27 (.bool false)) λv28=>ifB v28 (
 Q (vi 39) H17) (
 opt (aF x0) λv29=>opt (aB v29 0) λv30=>opt (aC v30 H17) λv31=>opt (look 0 (.pointer none) false v31 x1 H17) λv32=>opt (aF v32) λv33=>opt (aB v33 3) λv34=>opt (aC v34 H17) λv35=>opt (jN 1 v35 x2 H17) λH18=>opt (aF v8) λv36=>opt (aB v36 6) λv37=>opt (aC v37 H18) λv38=>opt (aA .sub v38 (vi 1)) λv39=>opt (aF v8) λv40=>opt (aB v40 6) λv41=>opt (aR v41 v39 H18) λH19=>opt (aF x0) λv42=>opt (aB v42 2) λv43=>E.call 86 [v43,vi 1] H19 λv44 H20=>E.call 89 [x0,v2] H20 λv45 H21=>Q (vi 0) H21))))

def F.f5:T4:=λE x0 x1 x2 x3 H Q =>
 E.call 44 [x0,x3] H λv1 H1=>E.call 84 [x0,x1,x2] H1 λv2 H2=>opt (ext v2 0) λv3=>opt (ext v2 1) λv4=>opt (bU dB .eql v1 (.pointer none)) λv5=>ifB v5 (
 Q (vi 2) H2) (
 opt (aF v1) λv6=>opt (aB v6 1) λv7=>opt (aC v7 H2) λv8=>opt (aA .eql v8 (.int .u8 2)) λv9=>ifB v9 (
 Q (vi 1) H2) (
 opt (aA .neq v4 (vi 0)) λv10=>ifB v10 (
 Q v4 H2) (
 opt (aF v1) λv11=>opt (aB v11 6) λv12=>opt (aC v12 H2) λv13=>opt (aA .eql v13 (vi 0)) λv14=>ifB v14 (
 Q (vi 2) H2) (
 opt (aF v1) λv15=>opt (aB v15 6) λv16=>opt (aC v16 H2) λv17=>opt (aA .geq v17 (vi 256)) λv18=>ifB v18 (
 Q (vi 31) H2) (
 opt (aF v3) λv19=>opt (aB v19 3) λv20=>opt (aC v20 H2) λv21=>opt (setMap 1 v21 x2 x3 H2) λH3=>opt (aF v1) λv22=>opt (aB v22 6) λv23=>opt (aC v23 H3) λv24=>opt (aA .add v24 (vi 1)) λv25=>opt (aF v1) λv26=>opt (aB v26 6) λv27=>opt (aR v27 v25 H3) λH4=>opt (aF x0) λv28=>opt (aB v28 2) λv29=>E.call 86 [v29,vi 1] H4 λv30 H5=>Q (vi 0) H5)))))

def F.f77_l1:T3:=λE Q t0 t1 t2 t7 H X0 =>
 opt (aA .lss t7 (vi 20)) λv1=>ifB v1 (
 E.call 26 [t0,t1] H λv2 H1=>opt (aF v2) λv3=>opt (aB v3 0) λv4=>opt (aC v4 H1) λv5=>opt (aA .neq v5 (vi 2)) λv6=>ifB v6 (
 Q (.bool false) H1) (
 opt (aA .eql t1 t2) λv7=>ifB v7 (
 Q (.bool true) H1) (
 E.call 26 [t0,t1] H1 λv8 H2=>opt (aF v8) λv9=>opt (aB v9 3) λv10=>opt (aC v10 H2) λv11=>opt (aA .eql t1 v11) λv12=>ifB v12 (
 Q (.bool false) H2) (
 E.call 26 [t0,t1] H2 λv13 H3=>opt (aF v13) λv14=>opt (aB v14 3) λv15=>opt (aC v15 H3) λv16=>opt (aA .add t7 (vi 1)) λv17=>X0 [t0,v16,t2,v17] H3)))) (
 Q (.bool false) H)
def F.f77:T1:=λE x0 x1 x2 H Q =>
 lp4 (F.f77_l1 E Q) [x0,x1,x2,vi 0] H

def F.f85_l1:T3:=λE Q t0 t5 t6 t7 H X0 =>
 opt (aF t6) λv1=>opt (aB v1 2) λv2=>opt (aC v2 H) λv3=>opt (lenSlc v3) λv4=>opt (aA .lss t7 v4) λv5=>ifB v5 (
 opt (aF t6) λv6=>opt (aB v6 2) λv7=>opt (aC v7 H) λv8=>opt (aP 2 v8 t7) λv9=>opt (aB v9 1) λv10=>opt (aC v10 H) λv11=>E.call 26 [t0,v11] H λv12 H1=>opt (aF v12) λv13=>opt (aB v13 0) λv14=>opt (aC v14 H1) λv15=>opt (aA .eql v15 (vi 2)) λv16=>ifB v16 (
 E.call 57 [t0,v11] H1 λv17 H2=>opt (fY max2 [t5,v17]) λv18=>opt (aA .add t7 (vi 1)) λv19=>X0 [t0,v18,t6,v19] H2) (
 opt (aA .add t7 (vi 1)) λv20=>X0 [t0,t5,t6,v20] H1)) (
 opt (aA .add t5 (vi 1)) λv21=>Q v21 H)
def F.f85:T0:=λE x0 x1 H Q =>
 E.call 26 [x0,x1] H λv1 H1=>lp4 (F.f85_l1 E Q) [x0,vi 0,v1,vi 0] H1

def F.f12_j2:T19:=λE Q t0 H =>
 opt (aF t0) λv1=>opt (aB v1 2) λv2=>E.call 86 [v2,vi 1] H λv3 H1=>Q (vi 0) H1
def F.f12_j1:T20:=λE Q t0 t1 t2 t3 t4 t11 t13 t14 H =>
 opt (aF t0) λv1=>opt (aB v1 0) λv2=>opt (aC v2 H) λv3=>opt (look 0 (.pointer none) false v3 t1 H) λv4=>opt (aF v4) λv5=>opt (aB v5 3) λv6=>opt (aC v6 H) λv7=>opt (jN 1 v7 t2 H) λH1=>opt (aF t13) λv8=>opt (aB v8 3) λv9=>opt (aC v9 H1) λv10=>opt (setMap 1 v10 t4 t11 H1) λH2=>opt (aF t14) λv11=>opt (aB v11 1) λv12=>opt (aC v12 H2) λv13=>opt (aA .eql v13 (.int .u8 2)) λv14=>ifB v14 (
 opt (aF t14) λv15=>opt (aB v15 4) λv16=>opt (aR v16 t3 H2) λH3=>F.f12_j2 E Q t0 H3) (
 F.f12_j2 E Q t0 H2)
def F.f12:T9:=λE x0 x1 x2 x3 x4 H Q =>
 E.call 35 [x0,x1,x2] H λv1 H1=>opt (ext v1 0) λv2=>opt (ext v1 1) λv3=>opt (aA .neq v3 (vi 0)) λv4=>ifB v4 (
 Q v3 H1) (
 E.call 74 [x0,x3] H1 λv5 H2=>opt (ext v5 0) λv6=>opt (ext v5 1) λv7=>opt (aA .neq v7 (vi 0)) λv8=>ifB v8 (
 Q v7 H2) (
 opt (aF x0) λv9=>opt (aB v9 0) λv10=>opt (aC v10 H2) λv11=>opt (look 0 (.pointer none) false v11 v2 H2) λv12=>opt (aF v6) λv13=>opt (aB v13 3) λv14=>opt (aC v14 H2) λv15=>opt (look 1 (.int .u16 0) true v15 x4 H2) λv16=>opt (ext v16 0) λv17=>opt (ext v16 1) λv18=>gV v18 true v17 H2 λv19 H3=>gV v18 true v2 H3 λv20 H4=>gO v18 true (aA .eql v19 v20) H4 λv21 H5=>opt (pick v18 v21 (.bool false)) λv22=>ifB v22 (
 Q (vi 0) H5) (
 opt (un .not v18) λv23=>gV v23 true x1 H5 λv24 H6=>gV v23 true x3 H6 λv25 H7=>gO v23 true (aA .neq v24 v25) H7 λv26 H8=>opt (pick v23 v26 (.bool false)) λv27=>gV v27 true v6 H8 λv28 H9=>gO v27 true (aF v28) H9 λv29 H10=>gO v27 true (aB v29 3) H10 λv30 H11=>gO v27 true (aC v30 H11) H11 λv31 H12=>gO v27 true (iB v31 H12) H12 λv32 H13=>gO v27 true (aA .geq v32 (vi 32)) H13 λv33 H14=>opt (pick v27 v33 (.bool false)) λv34=>ifB v34 (
 Q (vi 28) H14) (
 E.call 90 [x0,v12,v6,x4,v18,v17] H14 λv35 H15=>opt (aA .neq v35 (vi 0)) λv36=>ifB v36 (
 Q v35 H15) (
 ifB v18 (
 opt (aF v12) λv37=>opt (aB v37 1) λv38=>opt (aC v38 H15) λv39=>opt (aA .eql v39 (.int .u8 2)) λv40=>E.call 54 [x0,x3,x4,v40] H15 λv41 H16=>opt (aA .neq v41 (vi 0)) λv42=>ifB v42 (
 Q v41 H16) (
 F.f12_j1 E Q x0 x1 x2 x3 x4 v2 v6 v12 H16)) (
 F.f12_j1 E Q x0 x1 x2 x3 x4 v2 v6 v12 H15))))))

def F.f82_l1:T5:=λE Q t0 t1 t5 H X0 =>
 opt (aF t0) λv1=>opt (aB v1 2) λv2=>opt (aC v2 H) λv3=>opt (lenSlc v3) λv4=>opt (aA .lss t5 v4) λv5=>ifB v5 (
 opt (aF t0) λv6=>opt (aB v6 2) λv7=>opt (aC v7 H) λv8=>opt (aP 5 v8 t5) λv9=>opt (aB v9 0) λv10=>opt (aC v10 H) λv11=>opt (aA .eql v11 t1) λv12=>ifB v12 (
 Q t5 H) (
 opt (aA .add t5 (vi 1)) λv13=>X0 [t0,t1,v13] H)) (
 Q (.int .i64 (-1)) H)
def F.f82:T0:=λE x0 x1 H Q =>
 lp3 (F.f82_l1 E Q) [x0,x1,vi 0] H

def F.f74_l2:T18:=λE Q X0 t0 t3 t4 t5 t6 t7 H X1 =>
 opt (aF t0) λv1=>opt (aB v1 2) λv2=>opt (aC v2 H) λv3=>opt (lenSlc v3) λv4=>opt (aA .lss t7 v4) λv5=>ifB v5 (
 opt (aF t0) λv6=>opt (aB v6 2) λv7=>opt (aC v7 H) λv8=>opt (aP 5 v8 t7) λv9=>opt (aB v9 0) λv10=>opt (aC v10 H) λv11=>opt (aA .neq v11 (vi 0)) λv12=>gV v12 true t0 H λv13 H1=>gO v12 true (aF v13) H1 λv14 H2=>gO v12 true (aB v14 2) H2 λv15 H3=>gO v12 true (aC v15 H3) H3 λv16 H4=>gV v12 true t7 H4 λv17 H5=>gO v12 true (aP 5 v16 v17) H5 λv18 H6=>gO v12 true (aB v18 2) H6 λv19 H7=>gO v12 true (aH 2 v19 H7) H7 λv20 H8=>gO v12 true (aH 2 t3 H8) H8 λv21 H9=>gO v12 true (fU [0,0] .eql v20 v21) H9 λv22 H10=>opt (pick v12 v22 (.bool false)) λv23=>ifB v23 (
 opt (aA .add t7 (vi 1)) λv24=>X1 [t0,t3,t4,t5,t7,v24] H10) (
 opt (aA .add t7 (vi 1)) λv25=>X1 [t0,t3,t4,t5,t6,v25] H10)) (
 opt (aA .lss t6 (vi 0)) λv26=>ifB v26 (
 opt (aH 2 t3 H) λv27=>opt (storeN 2 t4 v27 H) λH11=>opt (aH 2 t4 H11) λv28=>Q v28 H11) (
 opt (aF t0) λv29=>opt (aB v29 2) λv30=>opt (aC v30 H) λv31=>opt (aP 5 v31 t6) λv32=>opt (aB v32 0) λv33=>opt (aC v33 H) λv34=>opt (aF t0) λv35=>opt (aB v35 2) λv36=>opt (aC v36 H) λv37=>opt (aP 5 v37 t6) λv38=>opt (aB v38 1) λv39=>opt (aC v39 H) λv40=>opt (aV [(0,1),(1,1)] #[vi 0,vi 0] [(0,v34),(1,v40)]) λv41=>opt (storeN 2 t3 v41 H) λH12=>opt (aA .add t5 (vi 1)) λv42=>X0 [t0,t3,t4,v42] H12))
def F.f74_l1:T3:=λE Q t0 t3 t4 t5 H X0 =>
 opt (aA .lss t5 (vi 20)) λv1=>ifB v1 (
 lp6 (F.f74_l2 E Q X0) [t0,t3,t4,t5,(.int .i64 (-1)),vi 0] H) (
 opt (aH 2 t3 H) λv2=>opt (storeN 2 t4 v2 H) λH1=>opt (aH 2 t4 H1) λv3=>Q v3 H1)
def F.f74:T0:=λE x0 x1 H Q =>
 mk (eX x1) H λv1 H1=>bV [vi 0,vi 0] H1 λv2 H2=>lp4 (F.f74_l1 E Q) [x0,v1,v2,vi 0] H2

def F.f34:T1:=λE x0 x1 x2 H Q =>
 mk (eX x2) H λv1 H1=>opt (bU dB .eql x0 (.pointer none)) λv2=>ifB v2 (
 Q (.tuple #[vi 0,vi 201]) H1) (
 opt (aB v1 0) λv3=>opt (aC v3 H1) λv4=>E.call 91 [x0,v4] H1 λv5 H2=>opt (aA .lss v5 (vi 0)) λv6=>ifB v6 (
 Q (.tuple #[vi 0,vi 22]) H2) (
 opt (aH 2 v1 H2) λv7=>opt (aH 2 v1 H2) λv8=>E.call 78 [x0,v7] H2 λv9 H3=>aH 2 v1 H3=aH 2 v1 H2 /\
 opt (fU [0,0] .neq v9 v8) λv10=>ifB v10 (
 Q (.tuple #[vi 0,vi 16]) H3) (
 opt (aF x0) λv11=>opt (aB v11 0) λv12=>opt (aC v12 H3) λv13=>opt (lenSlc v13) λv14=>opt (aA .geq v14 (vi 16)) λv15=>ifB v15 (
 Q (.tuple #[vi 0,vi 28]) H3) (
 opt (aF x0) λv16=>opt (aB v16 1) λv17=>opt (aC v17 H3) λv18=>opt (aF x0) λv19=>opt (aB v19 1) λv20=>opt (aC v20 H3) λv21=>opt (aA .add v21 (vi 1)) λv22=>opt (aF x0) λv23=>opt (aB v23 1) λv24=>opt (aR v24 v22 H3) λH4=>opt (aF x0) λv25=>opt (aB v25 0) λv26=>opt (aC v26 H4) λv27=>opt (aH 2 v1 H4) λv28=>opt (aV [(0,1),(1,2),(3,1),(4,1)] #[vi 0,vi 0,(.int .u16 0),(.int .u16 0),vi 0] [(0,v18),(1,v28),(2,x1)]) λv29=>mk (buildS 1 5 #[vi 0,vi 0,(.int .u16 0),(.int .u16 0),vi 0] [(0,v29)]) H4 λv30 H5=>gJ (app 5 40 v27 v30 H5) λv31 H6=>opt (aF x0) λv32=>opt (aB v32 0) λv33=>opt (aR v33 v31 H6) λH7=>Q (.tuple #[v18,vi 0]) H7))))

def F.f123:T4:=λE x0 x1 x2 x3 H Q =>
 opt (bU dB .eql x0 (.pointer none)) λv1=>ifB v1 (
 Q (.tuple #[(.slice none 0 0),vi 201]) H) (
 opt (aF x0) λv2=>opt (aB v2 0) λv3=>opt (aC v3 H) λv4=>E.call 44 [v4,x1] H λv5 H1=>opt (bU dB .eql v5 (.pointer none)) λv6=>ifB v6 (
 Q (.tuple #[(.slice none 0 0),vi 2]) H1) (
 opt (aF v5) λv7=>opt (aB v7 1) λv8=>opt (aC v8 H1) λv9=>opt (aA .eql v9 (.int .u8 2)) λv10=>ifB v10 (
 Q (.tuple #[(.slice none 0 0),vi 21]) H1) (
 opt (aF v5) λv11=>opt (aB v11 1) λv12=>opt (aC v12 H1) λv13=>opt (aA .neq v13 (.int .u8 1)) λv14=>gV v14 false x2 H1 λv15 H2=>gO v14 false (aA .lss v15 (vi 0)) H2 λv16 H3=>opt (pick v14 (.bool true) v16) λv17=>gV v17 false x3 H3 λv18 H4=>gO v17 false (aA .lss v18 (vi 0)) H4 λv19 H5=>opt (pick v17 (.bool true) v19) λv20=>ifB v20 (
 Q (.tuple #[(.slice none 0 0),vi 22]) H5) (
 opt (aF v5) λv21=>opt (aB v21 2) λv22=>opt (aC v22 H5) λv23=>opt (lenSlc v23) λv24=>opt (aA .geq x2 v24) λv25=>ifB v25 (
 Q (.tuple #[(.slice none 0 0),vi 0]) H5) (
 mk (buildS 0 1 #[(.int .u8 0)] []) H5 λv26 H6=>opt (aF v5) λv27=>opt (aB v27 2) λv28=>opt (aC v28 H6) λv29=>opt (aF v5) λv30=>opt (aB v30 2) λv31=>opt (aC v31 H6) λv32=>opt (lenSlc v32) λv33=>opt (aA .sub v33 x2) λv34=>opt (fY min2 [x3,v34]) λv35=>opt (aA .add x2 v35) λv36=>opt (dQ 1 v29 (some x2) (some v36) none H6) λv37=>gJ (app 1 1 v26 v37 H6) λv38 H7=>Q (.tuple #[v38,vi 0]) H7)))))

def F.f128:T0:=λE x0 x1 H Q =>
 bV [(.int .u16 0),(.int .u8 0),vi 0,vi 0] H λv1 H1=>opt (bU dB .eql x0 (.pointer none)) λv2=>ifB v2 (
 opt (aV [(0,1),(1,1),(2,1),(3,1)] #[(.int .u16 0),(.int .u8 0),vi 0,vi 0] []) λv3=>opt (storeN 4 v1 v3 H1) λH2=>opt (aH 4 v1 H2) λv4=>Q (.tuple #[v4,vi 201]) H2) (
 opt (aF x0) λv5=>opt (aB v5 0) λv6=>opt (aC v6 H1) λv7=>E.call 44 [v7,x1] H1 λv8 H3=>opt (bU dB .eql v8 (.pointer none)) λv9=>ifB v9 (
 opt (aV [(0,1),(1,1),(2,1),(3,1)] #[(.int .u16 0),(.int .u8 0),vi 0,vi 0] []) λv10=>opt (storeN 4 v1 v10 H3) λH4=>opt (aH 4 v1 H4) λv11=>Q (.tuple #[v11,vi 2]) H4) (
 opt (aF v8) λv12=>opt (aB v12 1) λv13=>opt (aC v13 H3) λv14=>opt (aF v8) λv15=>opt (aB v15 6) λv16=>opt (aC v16 H3) λv17=>opt (aV [(0,1),(1,1),(2,1),(3,1)] #[(.int .u16 0),(.int .u8 0),vi 0,vi 0] [(0,x1),(1,v14),(2,v17)]) λv18=>bV [(.int .u16 0),(.int .u8 0),vi 0,vi 0] H3 λv19 H5=>opt (storeN 4 v19 v18 H5) λH6=>opt (aF v8) λv20=>opt (aB v20 1) λv21=>opt (aC v21 H6) λv22=>opt (aA .eql v22 (.int .u8 1)) λv23=>ifB v23 (
 opt (aF v8) λv24=>opt (aB v24 2) λv25=>opt (aC v25 H6) λv26=>opt (lenSlc v26) λv27=>opt (aB v19 3) λv28=>opt (aR v28 v27 H6) λH7=>opt (aH 4 v19 H7) λv29=>opt (storeN 4 v1 v29 H7) λH8=>opt (aH 4 v1 H8) λv30=>Q (.tuple #[v30,vi 0]) H8) (
 opt (aA .eql v22 (.int .u8 2)) λv31=>ifB v31 (
 opt (aF v8) λv32=>opt (aB v32 3) λv33=>opt (aC v33 H6) λv34=>opt (iB v34 H6) λv35=>opt (aB v19 3) λv36=>opt (aR v36 v35 H6) λH9=>opt (aH 4 v19 H9) λv37=>opt (storeN 4 v1 v37 H9) λH10=>opt (aH 4 v1 H10) λv38=>Q (.tuple #[v38,vi 0]) H10) (
 opt (aA .eql v22 (.int .u8 3)) λv39=>ifB v39 (
 opt (aF v8) λv40=>opt (aB v40 5) λv41=>opt (aC v41 H6) λv42=>opt (dD v42) λv43=>opt (aB v19 3) λv44=>opt (aR v44 v43 H6) λH11=>opt (aH 4 v19 H11) λv45=>opt (storeN 4 v1 v45 H11) λH12=>opt (aH 4 v1 H12) λv46=>Q (.tuple #[v46,vi 0]) H12) (
 opt (aH 4 v19 H6) λv47=>opt (storeN 4 v1 v47 H6) λH13=>opt (aH 4 v1 H13) λv48=>Q (.tuple #[v48,vi 0]) H13)))))

def F.f13_l1:T21:=λE Q t3 t11 H X0 =>
 nT t11 H λv1 H1=>opt (ext v1 0) λv2=>ifB v2 (
 opt (oW t11 H1) λv3=>opt (ext v3 0) λv4=>mk (buildS 1 1 #[(.int .u16 0)] [(0,v4)]) H1 λv5 H2=>gJ (app 1 2 t3 v5 H2) λv6 H3=>X0 [v6,t11] H3) (
 E.call 92 [t3] H1 λv7 H4=>Q t3 H4)
def F.f13:T2:=λE x0 H Q =>
 opt (bU dB .eql x0 (.pointer none)) λv1=>ifB v1 (
 Q (.slice none 0 0) H) (
 opt (aF x0) λv2=>opt (aB v2 0) λv3=>opt (aC v3 H) λv4=>mk (lY v4 H) H λv5 H1=>lp2 (F.f13_l1 E Q) [(.slice none 0 0),v5] H1)

def F.f2:T2:=λE x0 H Q =>
 opt (dD x0) λv1=>opt (aA .lss v1 (vi 1)) λv2=>gV v2 false x0 H λv3 H1=>gO v2 false (dD v3) H1 λv4 H2=>gO v2 false (aA .gtr v4 (vi 14)) H2 λv5 H3=>opt (pick v2 (.bool true) v5) λv6=>gV v6 false x0 H3 λv7 H4=>gO v6 false (cH .eql v7 (.string ⟨#[46]⟩)) H4 λv8 H5=>opt (pick v6 (.bool true) v8) λv9=>gV v9 false x0 H5 λv10 H6=>gO v9 false (cH .eql v10 (.string ⟨#[46,46]⟩)) H6 λv11 H7=>opt (pick v9 (.bool true) v11) λv12=>ifB v12 (
 Q (.bool false) H7) (
 E.call 93 [x0,(.func (.func 94) #[] #[])] H7 λv13 H8=>opt (aA .lss v13 (vi 0)) λv14=>Q v14 H8)

def F.f14_l1:T3:=λE Q t0 t2 t7 t11 H X0 =>
 opt (aA .lss t11 (vi 18)) λv1=>ifB v1 (
 opt (bU dB .eql t7 (.pointer none)) λv2=>gV v2 false t7 H λv3 H1=>gO v2 false (aF v3) H1 λv4 H2=>gO v2 false (aB v4 1) H2 λv5 H3=>gO v2 false (aC v5 H3) H3 λv6 H4=>gO v2 false (aA .neq v6 (.int .u8 2)) H4 λv7 H5=>opt (pick v2 (.bool true) v7) λv8=>ifB v8 (
 Q (.bool false) H5) (
 opt (aF t7) λv9=>opt (aB v9 0) λv10=>opt (aC v10 H5) λv11=>opt (aA .eql v11 t2) λv12=>ifB v12 (
 Q (.bool true) H5) (
 opt (aF t7) λv13=>opt (aB v13 4) λv14=>opt (aC v14 H5) λv15=>opt (aF t7) λv16=>opt (aB v16 0) λv17=>opt (aC v17 H5) λv18=>opt (aA .eql v15 v18) λv19=>ifB v19 (
 Q (.bool false) H5) (
 opt (aF t0) λv20=>opt (aB v20 0) λv21=>opt (aC v21 H5) λv22=>opt (aF t7) λv23=>opt (aB v23 4) λv24=>opt (aC v24 H5) λv25=>opt (look 0 (.pointer none) false v22 v25 H5) λv26=>opt (aA .add t11 (vi 1)) λv27=>X0 [t0,t2,v26,v27] H5)))) (
 Q (.bool false) H)
def F.f14:T1:=λE x0 x1 x2 H Q =>
 E.call 44 [x0,x1] H λv1 H1=>lp4 (F.f14_l1 E Q) [x0,x2,v1,vi 0] H1

def F.f37:T2:=λE x0 H Q =>
 opt (bU dB .eql x0 (.pointer none)) λv1=>ifB v1 (
 Q (.slice none 0 0) H) (
 opt (aF x0) λv2=>opt (aB v2 0) λv3=>opt (aC v3 H) λv4=>E.call 95 [v4] H λv5 H1=>Q v5 H1)

def F.f4:T2:=λE x0 H Q =>
 aHq H λv1 H1=>opt (fY max2 [x0,vi 1]) λv2=>opt (fY min2 [v2,vi 256]) λv3=>opt (aV [(0,1),(1,1),(2,1)] #[(.map none),vi 0,vi 0] [(0,v1),(1,v3)]) λv4=>mk (eX v4) H1 λv5 H2=>opt (aF v5) λv6=>opt (aB v6 0) λv7=>opt (aC v7 H2) λv8=>aHq H2 λv9 H3=>opt (aV [(0,1),(1,1),(2,1),(3,1),(4,1),(5,1),(6,1),(7,1)] #[(.int .u16 0),(.int .u8 0),(.slice none 0 0),(.map none),(.int .u16 0),(.string ⟨#[]⟩),vi 0,vi 0] [(0,(.int .u16 1)),(1,(.int .u8 2)),(3,v9),(4,(.int .u16 1)),(6,(vi 1))]) λv10=>mk (eX v10) H3 λv11 H4=>opt (setMap 0 v8 (.int .u16 1) v11 H4) λH5=>Q v5 H5

def F.f33:T8:=λE H Q =>
 opt (aV [(0,1),(1,2),(3,1),(4,1)] #[vi 0,vi 0,(.int .u16 0),(.int .u16 0),vi 0] [(2,(.int .u16 1))]) λv1=>mk (buildS 1 5 #[vi 0,vi 0,(.int .u16 0),(.int .u16 0),vi 0] [(0,v1)]) H λv2 H1=>opt (aV [(0,1),(1,1)] #[(.slice none 0 0),vi 0] [(0,v2),(1,(vi 1))]) λv3=>mk (eX v3) H1 λv4 H2=>Q v4 H2

def F.f52:T8:=λE H Q =>
 mk (buildS 12 1 #[(.string ⟨#[]⟩)] [(0,(.string ⟨#[97]⟩)),(1,(.string ⟨#[47,97]⟩)),(2,(.string ⟨#[46,46,47,98]⟩)),(3,(.string ⟨#[98,47,99]⟩)),(4,(.string ⟨#[47]⟩)),(5,(.string ⟨#[46]⟩)),(6,(.string ⟨#[46,46]⟩)),(7,(.string ⟨#[47,98,47,46,46,47,97]⟩)),(8,(.string ⟨#[102]⟩)),(9,(.string ⟨#[97,47]⟩)),(10,(.string ⟨#[110,111,116,104,105,110,103]⟩)),(11,(.string ⟨#[47,97,47,98,47,99]⟩))]) H λv1 H1=>Q v1 H1

def F.f45_j1:T16:=λE Q t0 t1 t5 t7 t8 t9 t10 H =>
 opt (bI .u16 t7) λv1=>opt (bI .u16 t8) λv2=>opt (aB t5 0) λv3=>opt (aC v3 H) λv4=>opt (aA .rem v4 (.int .u8 15)) λv5=>opt (aA .lss v5 (.int .u8 5)) λv6=>ifB v6 (
 opt (aB t5 4) λv7=>opt (aC v7 H) λv8=>mk (buildS 5 1 #[(.int .u8 0)] [(0,(.int .u8 1)),(1,(.int .u8 2)),(2,(.int .u8 2)),(3,(.int .u8 3)),(4,v8)]) H λv9 H1=>opt (aP 1 v9 v5) λv10=>opt (aC v10 H1) λv11=>opt (aB t5 5) λv12=>opt (aC v12 H1) λv13=>E.call 46 [t0,v1,t9,v11,v13] H1 λv14 H2=>opt (ext v14 0) λv15=>opt (ext v14 1) λv16=>opt (bI .i64 v11) λv17=>opt (aB t5 5) λv18=>opt (aC v18 H2) λv19=>E.call 17 [t1,t7,t9,v17,v19] H2 λv20 H3=>opt (ext v20 0) λv21=>opt (ext v20 1) λv22=>opt (bI .i64 v15) λv23=>opt (aA .eql v23 v21) λv24=>gV v24 true v16 H3 λv25 H4=>gV v24 true v22 H4 λv26 H5=>gO v24 true (aA .eql v25 v26) H5 λv27 H6=>opt (pick v24 v27 (.bool false)) λv28=>Q v28 H6) (
 opt (aA .eql v5 (.int .u8 5)) λv29=>ifB v29 (
 E.call 55 [t0,v1,t9,v2] H λv30 H7=>E.call 21 [t1,t7,t9,t8] H7 λv31 H8=>opt (aA .eql v30 v31) λv32=>Q v32 H8) (
 opt (aA .lss v5 (.int .u8 8)) λv33=>ifB v33 (
 opt (aB t5 8) λv34=>opt (aC v34 H) λv35=>opt (aB t5 8) λv36=>opt (aC v36 H) λv37=>E.call 54 [t0,v1,t9,v35] H λv38 H9=>aC v36 H9=aC v36 H /\
 E.call 19 [t1,t7,t9,v37] H9 λv39 H10=>opt (aA .eql v38 v39) λv40=>Q v40 H10) (
 opt (aA .lss v5 (.int .u8 11)) λv41=>ifB v41 (
 E.call 58 [t0,v1,t9,v2,t10] H λv42 H11=>E.call 23 [t1,t7,t9,t8,t10] H11 λv43 H12=>opt (aA .eql v42 v43) λv44=>Q v44 H12) (
 opt (aA .eql v5 (.int .u8 11)) λv45=>ifB v45 (
 opt (aB t5 8) λv46=>opt (aC v46 H) λv47=>opt (aB t5 8) λv48=>opt (aC v48 H) λv49=>E.call 72 [t0,v1,v47] H λv50 H13=>aC v48 H13=aC v48 H /\
 E.call 73 [t1,t7,v49] H13 λv51 H14=>opt (aA .eql v50 v51) λv52=>Q v52 H14) (
 opt (aA .eql v5 (.int .u8 12)) λv53=>ifB v53 (
 opt (aB t5 6) λv54=>opt (aC v54 H) λv55=>opt (aB t5 7) λv56=>opt (aC v56 H) λv57=>opt (aB t5 6) λv58=>opt (aC v58 H) λv59=>opt (aB t5 7) λv60=>opt (aC v60 H) λv61=>E.call 97 [t0,v1,v55,v57] H λv62 H15=>aC v60 H15=aC v60 H /\
 aC v58 H15=aC v58 H /\
 E.call 98 [t1,t7,v59,v61] H15 λv63 H16=>opt (aA .eql v62 v63) λv64=>Q v64 H16) (
 opt (aA .eql v5 (.int .u8 13)) λv65=>ifB v65 (
 opt (aB t5 6) λv66=>opt (aC v66 H) λv67=>opt (aB t5 6) λv68=>opt (aC v68 H) λv69=>E.call 99 [t0,v1,v67] H λv70 H17=>aC v68 H17=aC v68 H /\
 E.call 100 [t1,t7,v69] H17 λv71 H18=>opt (aA .eql v70 v71) λv72=>Q v72 H18) (
 E.call 35 [t0,v1,t9] H λv73 H19=>opt (ext v73 0) λv74=>opt (ext v73 1) λv75=>E.call 12 [t1,t7,t9] H19 λv76 H20=>opt (ext v76 0) λv77=>opt (ext v76 1) λv78=>opt (bI .i64 v74) λv79=>opt (aA .eql v79 v77) λv80=>gV v80 true v75 H20 λv81 H21=>gV v80 true v78 H21 λv82 H22=>gO v80 true (aA .eql v81 v82) H22 λv83 H23=>opt (pick v80 v83 (.bool false)) λv84=>Q v84 H23)))))))
def F.f45:T1:=λE x0 x1 x2 H Q =>
 mk (eX x2) H λv1 H1=>opt (aB v1 1) λv2=>opt (aC v2 H1) λv3=>opt (aA .rem v3 (.int .u8 8)) λv4=>opt (bI .i64 v4) λv5=>opt (aB v1 2) λv6=>opt (aC v6 H1) λv7=>opt (aA .rem v7 (.int .u8 8)) λv8=>opt (bI .i64 v8) λv9=>opt (aB v1 3) λv10=>opt (aC v10 H1) λv11=>opt (bI .i64 v11) λv12=>opt (aB v1 4) λv13=>opt (aC v13 H1) λv14=>opt (bI .i64 v14) λv15=>E.call 96 [] H1 λv16 H2=>aC v13 H2=aC v13 H1 /\
 aC v10 H2=aC v10 H1 /\
 E.call 96 [] H2 λv17 H3=>aC v13 H3=aC v13 H1 /\
 aC v10 H3=aC v10 H1 /\
 opt (lenSlc v17) λv18=>opt (aA .rem v12 v18) λv19=>opt (aP 1 v16 v19) λv20=>opt (aC v20 H3) λv21=>E.call 96 [] H3 λv22 H4=>aC v20 H4=aC v20 H3 /\
 aC v13 H4=aC v13 H1 /\
 aC v10 H4=aC v10 H1 /\
 E.call 96 [] H4 λv23 H5=>aC v20 H5=aC v20 H3 /\
 aC v13 H5=aC v13 H1 /\
 aC v10 H5=aC v10 H1 /\
 opt (lenSlc v23) λv24=>opt (aA .rem v15 v24) λv25=>opt (aP 1 v22 v25) λv26=>opt (aC v26 H5) λv27=>opt (aB v1 9) λv28=>opt (aC v28 H5) λv29=>ifB v29 (
 opt (aB v1 5) λv30=>opt (aC v30 H5) λv31=>opt (aB v1 6) λv32=>opt (aC v32 H5) λv33=>opt (aA .and v33 (vi 65535)) λv34=>F.f45_j1 E Q x0 x1 v1 v34 v9 v31 v27 H5) (
 F.f45_j1 E Q x0 x1 v1 v5 v9 v21 v27 H5)

def F.f9:T1:=λE x0 x1 x2 H Q =>
 E.call 44 [x0,x1] H λv1 H1=>opt (bU dB .eql v1 (.pointer none)) λv2=>ifB v2 (
 Q (vi 2) H1) (
 opt (un .not x2) λv3=>gV v3 true v1 H1 λv4 H2=>gO v3 true (aF v4) H2 λv5 H3=>gO v3 true (aB v5 7) H3 λv6 H4=>gO v3 true (aC v6 H4) H4 λv7 H5=>gO v3 true (aA .eql v7 (vi 0)) H5 λv8 H6=>opt (pick v3 v8 (.bool false)) λv9=>ifB v9 (
 Q (vi 22) H6) (
 ifB x2 (
 opt (aF v1) λv10=>opt (aB v10 7) λv11=>opt (aC v11 H6) λv12=>opt (aA .add v12 (vi 1)) λv13=>opt (aF v1) λv14=>opt (aB v14 7) λv15=>opt (aR v15 v13 H6) λH7=>Q (vi 0) H7) (
 opt (aF v1) λv16=>opt (aB v16 7) λv17=>opt (aC v17 H6) λv18=>opt (aA .sub v18 (vi 1)) λv19=>opt (aF v1) λv20=>opt (aB v20 7) λv21=>opt (aR v21 v19 H6) λH8=>E.call 89 [x0,x1] H8 λv22 H9=>Q (vi 0) H9)))

def F.f67:T1:=λE x0 x1 x2 H Q =>
 E.call 26 [x0,x1] H λv1 H1=>opt (aF v1) λv2=>opt (aB v2 0) λv3=>opt (aC v3 H1) λv4=>opt (aA .eql v4 (vi 0)) λv5=>ifB v5 (
 Q (vi 2) H1) (
 ifB x2 (
 opt (aF v1) λv6=>opt (aB v6 6) λv7=>opt (aC v7 H1) λv8=>opt (aA .add v8 (vi 1)) λv9=>opt (aF v1) λv10=>opt (aB v10 6) λv11=>opt (aR v11 v9 H1) λH2=>Q (vi 0) H2) (
 opt (aF v1) λv12=>opt (aB v12 6) λv13=>opt (aC v13 H1) λv14=>opt (aA .eql v14 (vi 0)) λv15=>ifB v15 (
 Q (vi 22) H1) (
 opt (aF v1) λv16=>opt (aB v16 6) λv17=>opt (aC v17 H1) λv18=>opt (aA .sub v18 (vi 1)) λv19=>opt (aF v1) λv20=>opt (aB v20 6) λv21=>opt (aR v21 v19 H1) λH3=>E.call 52 [x0,x1] H3 λv22 H4=>Q (vi 0) H4)))

def F.f17:T0:=λE x0 x1 H Q =>
 E.call 44 [x0,x1] H λv1 H1=>opt (bU dB .eql v1 (.pointer none)) λv2=>ifB v2 (
 Q (.tuple #[(.pointer none),vi 2]) H1) (
 opt (aF v1) λv3=>opt (aB v3 1) λv4=>opt (aC v4 H1) λv5=>opt (aA .neq v5 (.int .u8 2)) λv6=>ifB v6 (
 Q (.tuple #[(.pointer none),vi 20]) H1) (
 Q (.tuple #[v1,vi 0]) H1))

def F.f58_l1:T3:=λE Q t0 t3 t4 t5 H X0 =>
 opt (dD t0) λv1=>opt (aA .leq t5 v1) λv2=>ifB v2 (
 opt (dD t0) λv3=>opt (aA .lss t5 v3) λv4=>gV v4 true t0 H λv5 H1=>gV v4 true t5 H1 λv6 H2=>gO v4 true (eZ v5 v6) H2 λv7 H3=>gO v4 true (aA .neq v7 (.int .u8 47)) H3 λv8 H4=>opt (pick v4 v8 (.bool false)) λv9=>ifB v9 (
 opt (eZ t0 t5) λv10=>mk (buildS 1 1 #[(.int .u8 0)] [(0,v10)]) H4 λv11 H5=>opt (rC v11 H5) λv12=>opt (cH .add t4 v12) λv13=>opt (aA .add t5 (vi 1)) λv14=>X0 [t0,t3,v13,v14] H5) (
 opt (cH .neq t4 (.string ⟨#[]⟩)) λv15=>gV v15 true t4 H4 λv16 H6=>gO v15 true (cH .neq v16 (.string ⟨#[46]⟩)) H6 λv17 H7=>opt (pick v15 v17 (.bool false)) λv18=>ifB v18 (
 mk (buildS 1 1 #[(.string ⟨#[]⟩)] [(0,t4)]) H7 λv19 H8=>gJ (app 1 16 t3 v19 H8) λv20 H9=>opt (aA .add t5 (vi 1)) λv21=>X0 [t0,v20,(.string ⟨#[]⟩),v21] H9) (
 opt (aA .add t5 (vi 1)) λv22=>X0 [t0,t3,(.string ⟨#[]⟩),v22] H7))) (
 Q t3 H)
def F.f58:T2:=λE x0 H Q =>
 lp4 (F.f58_l1 E Q) [x0,(.slice none 0 0),(.string ⟨#[]⟩),vi 0] H

def F.f75_j1:T11:=λE Q t0 t3 t4 H =>
 opt (aB t3 1) λv1=>opt (aC v1 H) λv2=>E.call 26 [t0,v2] H λv3 H1=>opt (aF v3) λv4=>opt (aB v4 0) λv5=>opt (aC v5 H1) λv6=>opt (aA .eql v6 (vi 0)) λv7=>ifB v7 (
 E.call 7 [] H1 λv8 H2=>opt (storeN 2 t4 v8 H2) λH3=>opt (aH 2 t4 H3) λv9=>Q v9 H3) (
 opt (aB t3 0) λv10=>opt (aC v10 H1) λv11=>opt (aB t3 1) λv12=>opt (aC v12 H1) λv13=>E.call 26 [t0,v13] H1 λv14 H4=>aC v10 H4=aC v10 H1 /\
 opt (aF v14) λv15=>opt (aB v15 3) λv16=>opt (aC v16 H4) λv17=>opt (aV [(0,1),(1,1)] #[vi 0,vi 0] [(0,v11),(1,v17)]) λv18=>E.call 60 [t0,v18] H4 λv19 H5=>opt (storeN 2 t4 v19 H5) λH6=>opt (aH 2 t4 H6) λv20=>Q v20 H6)
def F.f75_l1:T3:=λE Q t0 t3 t4 t5 H X0 =>
 opt (aA .lss t5 (vi 20)) λv1=>ifB v1 (
 opt (aH 2 t3 H) λv2=>E.call 101 [t0,v2] H λv3 H1=>opt (ext v3 0) λv4=>opt (ext v3 1) λv5=>bV [vi 0,vi 0] H1 λv6 H2=>opt (storeN 2 v6 v4 H2) λH3=>opt (un .not v5) λv7=>ifB v7 (
 F.f75_j1 E Q t0 t3 t4 H3) (
 opt (aH 2 v6 H3) λv8=>opt (storeN 2 t3 v8 H3) λH4=>opt (aA .add t5 (vi 1)) λv9=>X0 [t0,t3,t4,v9] H4)) (
 F.f75_j1 E Q t0 t3 t4 H)
def F.f75:T0:=λE x0 x1 H Q =>
 mk (eX x1) H λv1 H1=>bV [vi 0,vi 0] H1 λv2 H2=>opt (aH 2 v1 H2) λv3=>E.call 25 [x0,v3] H2 λv4 H3=>opt (un .not v4) λv5=>ifB v5 (
 E.call 7 [] H3 λv6 H4=>opt (storeN 2 v2 v6 H4) λH5=>opt (aH 2 v2 H5) λv7=>Q v7 H5) (
 lp4 (F.f75_l1 E Q) [x0,v1,v2,vi 0] H3)

def F.f135:T2:=λE x0 H Q =>
 opt (bU dB .neq x0 (.pointer none)) λv1=>gV v1 true x0 H λv2 H1=>gO v1 true (aF v2) H1 λv3 H2=>gO v1 true (aB v3 0) H2 λv4 H3=>gO v1 true (aC v4 H3) H3 λv5 H4=>gO v1 true (bU dB .neq v5 (.pointer none)) H4 λv6 H5=>opt (pick v1 v6 (.bool false)) λv7=>gV v7 true x0 H5 λv8 H6=>gO v7 true (aF v8) H6 λv9 H7=>gO v7 true (aB v9 1) H7 λv10 H8=>gO v7 true (aC v10 H8) H8 λv11 H9=>gO v7 true (bU dB .neq v11 (.pointer none)) H9 λv12 H10=>opt (pick v7 v12 (.bool false)) λv13=>Q v13 H10

def F.f38_l1:T5:=λE Q t0 t3 t4 H X0 =>
 opt (aF t0) λv1=>opt (aB v1 0) λv2=>opt (aC v2 H) λv3=>opt (some (.func (.func 103) #[] #[t3])) λv4=>E.call 102 [v3,v4] H λv5 H1=>opt (aA .lss v5 (vi 0)) λv6=>ifB v6 (
 opt (aH 2 t3 H1) λv7=>opt (storeN 2 t4 v7 H1) λH2=>opt (aH 2 t4 H2) λv8=>Q v8 H2) (
 opt (aF t0) λv9=>opt (aB v9 0) λv10=>opt (aC v10 H1) λv11=>opt (aP 5 v11 v5) λv12=>opt (aB v12 0) λv13=>opt (aC v13 H1) λv14=>opt (aF t0) λv15=>opt (aB v15 0) λv16=>opt (aC v16 H1) λv17=>opt (aP 5 v17 v5) λv18=>opt (aB v18 3) λv19=>opt (aC v19 H1) λv20=>opt (aV [(0,1),(1,1)] #[vi 0,(.int .u16 0)] [(0,v14),(1,v20)]) λv21=>opt (storeN 2 t3 v21 H1) λH3=>X0 [t0,t3,t4] H3)
def F.f38:T0:=λE x0 x1 H Q =>
 mk (eX x1) H λv1 H1=>bV [vi 0,(.int .u16 0)] H1 λv2 H2=>opt (bU dB .eql x0 (.pointer none)) λv3=>ifB v3 (
 opt (aH 2 v1 H2) λv4=>opt (storeN 2 v2 v4 H2) λH3=>opt (aH 2 v2 H3) λv5=>Q v5 H3) (
 lp3 (F.f38_l1 E Q) [x0,v1,v2] H2)

def F.f136_l1:T3:=λE Q t3 t7 t8 t9 H X0 =>
 opt (aA .lss t9 t8) λv1=>ifB v1 (
 opt (aP 1 t7 t9) λv2=>opt (aC v2 H) λv3=>opt (cH .neq v3 (.string ⟨#[]⟩)) λv4=>gV v4 true v3 H λv5 H1=>gO v4 true (cH .neq v5 (.string ⟨#[46]⟩)) H1 λv6 H2=>opt (pick v4 v6 (.bool false)) λv7=>ifB v7 (
 mk (buildS 1 1 #[(.string ⟨#[]⟩)] [(0,v3)]) H2 λv8 H3=>gJ (app 1 16 t3 v8 H3) λv9 H4=>opt (aA .add t9 (vi 1)) λv10=>X0 [v9,t7,t8,v10] H4) (
 opt (aA .add t9 (vi 1)) λv11=>X0 [t3,t7,t8,v11] H2)) (
 Q t3 H)
def F.f136:T2:=λE x0 H Q =>
 E.call 104 [x0,(.string ⟨#[47]⟩)] H λv1 H1=>opt (lenSlc v1) λv2=>lp4 (F.f136_l1 E Q) [(.slice none 0 0),v1,v2,vi 0] H1

def F.f27:T0:=λE x0 x1 H Q =>
 opt (dD x0) λv1=>opt (dD x1) λv2=>opt (aA .geq v1 v2) λv3=>gV v3 true x0 H λv4 H1=>gV v3 true x0 H1 λv5 H2=>gO v3 true (dD v5) H2 λv6 H3=>gV v3 true x1 H3 λv7 H4=>gO v3 true (dD v7) H4 λv8 H5=>gO v3 true (aA .sub v6 v8) H5 λv9 H6=>gO v3 true (jY v4 (some v9) none) H6 λv10 H7=>gV v3 true x1 H7 λv11 H8=>gO v3 true (cH .eql v10 v11) H8 λv12 H9=>opt (pick v3 v12 (.bool false)) λv13=>Q v13 H9

def F.f133_l1:T5:=λE Q t0 t3 t4 H X0 =>
 opt (aF t0) λv1=>opt (aB v1 1) λv2=>opt (aC v2 H) λv3=>opt (aH 2 t3 H) λv4=>bV [vi 0,(.int .u16 0)] H λv5 H1=>E.call 105 [v3,v4] H1 λv6 H2=>H2.get H.next=H1.get H.next /\
 opt (ext v6 0) λv7=>opt (ext v6 1) λv8=>opt (storeN 2 v5 v7 H2) λH3=>opt (un .not v8) λv9=>ifB v9 (
 opt (aF t0) λv10=>opt (aB v10 0) λv11=>opt (aC v11 H3) λv12=>opt (aB t3 1) λv13=>opt (aC v13 H3) λv14=>E.call 44 [v12,v14] H3 λv15 H4=>opt (bU dB .eql v15 (.pointer none)) λv16=>ifB v16 (
 E.call 10 [] H4 λv17 H5=>opt (storeN 2 t4 v17 H5) λH6=>opt (aH 2 t4 H6) λv18=>Q v18 H6) (
 opt (aF t0) λv19=>opt (aB v19 1) λv20=>opt (aC v20 H4) λv21=>opt (aB t3 0) λv22=>opt (aC v22 H4) λv23=>opt (aF v15) λv24=>opt (aB v24 4) λv25=>opt (aC v25 H4) λv26=>opt (aV [(0,1),(1,1)] #[vi 0,(.int .u16 0)] [(0,v23),(1,v26)]) λv27=>E.call 78 [v21,v27] H4 λv28 H7=>opt (storeN 2 t4 v28 H7) λH8=>opt (aH 2 t4 H8) λv29=>Q v29 H8)) (
 opt (aH 2 v5 H3) λv30=>opt (storeN 2 t3 v30 H3) λH9=>X0 [t0,t3,t4] H9)
def F.f133:T0:=λE x0 x1 H Q =>
 mk (eX x1) H λv1 H1=>bV [vi 0,(.int .u16 0)] H1 λv2 H2=>opt (aH 2 v1 H2) λv3=>E.call 45 [x0,v3] H2 λv4 H3=>opt (un .not v4) λv5=>ifB v5 (
 E.call 10 [] H3 λv6 H4=>opt (storeN 2 v2 v6 H4) λH5=>opt (aH 2 v2 H5) λv7=>Q v7 H5) (
 lp3 (F.f133_l1 E Q) [x0,v1,v2] H3)

def F.f137_j1:T12:=λE Q t0 t1 H =>
 opt (aF t0) λv1=>opt (aB v1 3) λv2=>opt (aC v2 H) λv3=>E.call 79 [t1] H λv4 H1=>aC v2 H1=aC v2 H /\
 gJ (app 1 16 v4 v3 H1) λv5 H2=>opt (aF t0) λv6=>opt (aB v6 3) λv7=>opt (aR v7 v5 H2) λH3=>Q (vi 0) H3
def F.f137:T0:=λE x0 x1 H Q =>
 opt (aF x0) λv1=>opt (aB v1 4) λv2=>opt (aC v2 H) λv3=>opt (aA .add v3 (vi 1)) λv4=>opt (aF x0) λv5=>opt (aB v5 4) λv6=>opt (aR v6 v4 H) λH1=>opt (aF x0) λv7=>opt (aB v7 4) λv8=>opt (aC v8 H1) λv9=>opt (aA .gtr v9 (vi 8)) λv10=>ifB v10 (
 Q (vi 40) H1) (
 opt (eZ x1 (vi 0)) λv11=>opt (aA .eql v11 (.int .u8 47)) λv12=>ifB v12 (
 opt (aF x0) λv13=>opt (aB v13 0) λv14=>opt (aC v14 H1) λv15=>opt (aF v15) λv16=>opt (aB v16 1) λv17=>opt (aC v17 H1) λv18=>E.call 10 [] H1 λv19 H2=>aC v17 H2=aC v17 H1 /\
 aC v14 H2=aC v14 H1 /\
 E.call 78 [v18,v19] H2 λv20 H3=>opt (aF x0) λv21=>opt (aB v21 1) λv22=>opt (storeN 2 v22 v20 H3) λH4=>F.f137_j1 E Q x0 x1 H4) (
 F.f137_j1 E Q x0 x1 H1))

def F.f36:T0:=λE x0 x1 H Q =>
 bV [vi 0,vi 0,(.int .u16 0),(.int .u16 0),vi 0] H λv1 H1=>E.call 91 [x0,x1] H1 λv2 H2=>opt (aA .lss v2 (vi 0)) λv3=>ifB v3 (
 opt (aV [(0,1),(1,2),(3,1),(4,1)] #[vi 0,vi 0,(.int .u16 0),(.int .u16 0),vi 0] []) λv4=>opt (storeN 5 v1 v4 H2) λH3=>opt (aH 5 v1 H3) λv5=>Q (.tuple #[v5,(.bool false)]) H3) (
 opt (aF x0) λv6=>opt (aB v6 0) λv7=>opt (aC v7 H2) λv8=>opt (aP 5 v8 v2) λv9=>opt (aH 5 v9 H2) λv10=>opt (storeN 5 v1 v10 H2) λH4=>opt (aH 5 v1 H4) λv11=>Q (.tuple #[v11,(.bool true)]) H4)

def F.f19:T1:=λE x0 x1 x2 H Q =>
 E.call 74 [x0,x1] H λv1 H1=>opt (ext v1 0) λv2=>opt (ext v1 1) λv3=>opt (aA .neq v3 (vi 0)) λv4=>ifB v4 (
 Q (.tuple #[(.pointer none),v3]) H1) (
 E.call 65 [x2] H1 λv5 H2=>opt (un .not v5) λv6=>ifB v6 (
 Q (.tuple #[(.pointer none),vi 22]) H2) (
 opt (aF v2) λv7=>opt (aB v7 3) λv8=>opt (aC v8 H2) λv9=>opt (look 1 (.int .u16 0) true v9 x2 H2) λv10=>opt (ext v10 0) λv11=>opt (ext v10 1) λv12=>ifB v12 (
 Q (.tuple #[(.pointer none),vi 17]) H2) (
 opt (aF v2) λv13=>opt (aB v13 6) λv14=>opt (aC v14 H2) λv15=>opt (aA .eql v15 (vi 0)) λv16=>ifB v16 (
 Q (.tuple #[(.pointer none),vi 2]) H2) (
 opt (aF v2) λv17=>opt (aB v17 3) λv18=>opt (aC v18 H2) λv19=>opt (iB v19 H2) λv20=>opt (aA .geq v20 (vi 32)) λv21=>ifB v21 (
 Q (.tuple #[(.pointer none),vi 28]) H2) (
 Q (.tuple #[v2,vi 0]) H2)))))

def F.f16_l1:T5:=λE Q t0 t1 t5 H X0 =>
 opt (aA .neq t1 (.int .u16 1)) λv1=>gV v1 true t5 H λv2 H1=>gO v1 true (aA .leq v2 (vi 16)) H1 λv3 H2=>opt (pick v1 v3 (.bool false)) λv4=>ifB v4 (
 opt (aF t0) λv5=>opt (aB v5 0) λv6=>opt (aC v6 H2) λv7=>opt (look 0 (.pointer none) false v7 t1 H2) λv8=>opt (aF v8) λv9=>opt (aB v9 4) λv10=>opt (aC v10 H2) λv11=>opt (aA .add t5 (vi 1)) λv12=>X0 [t0,v11,v12] H2) (
 Q t5 H2)
def F.f16:T0:=λE x0 x1 H Q =>
 lp3 (F.f16_l1 E Q) [x0,x1,vi 0] H

def F.f118:T0:=λE x0 x1 H Q =>
 opt (aF x0) λv1=>opt (aB v1 0) λv2=>E.call 106 [v2,x1] H λv3 H1=>Q v3 H1

def F.f41:T0:=λE x0 x1 H Q =>
 mk (eX x0) H λv1 H1=>opt (aB v1 3) λv2=>opt (aC v2 H1) λv3=>opt (aC x1 H1) λv4=>opt (aA .eql v3 v4) λv5=>gO v5 false (aB v1 0) H1 λv6 H2=>gO v5 false (aC v6 H2) H2 λv7 H3=>gO v5 false (aA .neq v7 (vi 0)) H3 λv8 H4=>gV v5 false v8 H4 λv9 H5=>gO v9 true (aB v1 1) H5 λv10 H6=>gO v9 true (aB v10 1) H6 λv11 H7=>gO v9 true (aC v11 H7) H7 λv12 H8=>gO v9 true (aC x1 H8) H8 λv13 H9=>gO v9 true (aA .eql v12 v13) H9 λv14 H10=>gO v5 false (pick v9 v14 (.bool false)) H10 λv15 H11=>opt (pick v5 (.bool true) v15) λv16=>Q v16 H11

def F.f91:T0:=λE x0 x1 H Q =>
 E.call 102 [x0,x1] H λv1 H1=>opt (aA .geq v1 (vi 0)) λv2=>Q v2 H1

def F.f21:T0:=λE x0 x1 H Q =>
 opt (aF x0) λv1=>opt (aB v1 0) λv2=>opt (aC v2 H) λv3=>opt (look 0 (.pointer none) false v3 x1 H) λv4=>opt (bU dB .neq v4 (.pointer none)) λv5=>gV v5 true v4 H λv6 H1=>gO v5 true (aF v6) H1 λv7 H2=>gO v5 true (aB v7 6) H2 λv8 H3=>gO v5 true (aC v8 H3) H3 λv9 H4=>gO v5 true (aA .eql v9 (vi 0)) H4 λv10 H5=>opt (pick v5 v10 (.bool false)) λv11=>gV v11 true v4 H5 λv12 H6=>gO v11 true (aF v12) H6 λv13 H7=>gO v11 true (aB v13 7) H7 λv14 H8=>gO v11 true (aC v14 H8) H8 λv15 H9=>gO v11 true (aA .eql v15 (vi 0)) H9 λv16 H10=>opt (pick v11 v16 (.bool false)) λv17=>ifB v17 (
 opt (aF x0) λv18=>opt (aB v18 0) λv19=>opt (aC v19 H10) λv20=>opt (jN 0 v20 x1 H10) λH11=>Q (.tuple #[]) H11) (
 Q (.tuple #[]) H10)

def F.f18(E:Sy)(x0 x1 x2 x3 x4 x5:Value)(H:AH)(Q:VK):Prop :=
 E.call 65 [x3] H λv1 H1=>opt (un .not v1) λv2=>ifB v2 (
 Q (vi 22) H1) (
 opt (aF x2) λv3=>opt (aB v3 6) λv4=>opt (aC v4 H1) λv5=>opt (aA .eql v5 (vi 0)) λv6=>ifB v6 (
 Q (vi 2) H1) (
 opt (aF x1) λv7=>opt (aB v7 1) λv8=>opt (aC v8 H1) λv9=>opt (aA .eql v9 (.int .u8 2)) λv10=>gV v10 true x0 H1 λv11 H2=>gV v10 true x2 H2 λv12 H3=>gO v10 true (aF v12) H3 λv13 H4=>gO v10 true (aB v13 0) H4 λv14 H5=>gO v10 true (aC v14 H5) H5 λv15 H6=>gV v10 true x1 H6 λv16 H7=>gO v10 true (aF v16) H7 λv17 H8=>gO v10 true (aB v17 0) H8 λv18 H9=>gO v10 true (aC v18 H9) H9 λv19 H10=>gd v10 true (λk=>E.call 66 [v11,v15,v19] H10 λv h=>k v h) H10 λv20 H11=>opt (pick v10 v20 (.bool false)) λv21=>ifB v21 (
 Q (vi 22) H11) (
 opt (aF x1) λv22=>opt (aB v22 1) λv23=>opt (aC v23 H11) λv24=>opt (aA .eql v24 (.int .u8 2)) λv25=>gV v25 true x0 H11 λv26 H12=>gV v25 true x2 H12 λv27 H13=>gO v25 true (aF v27) H13 λv28 H14=>gO v25 true (aB v28 0) H14 λv29 H15=>gO v25 true (aC v29 H15) H15 λv30 H16=>gV v25 true x0 H16 λv31 H17=>gV v25 true x1 H17 λv32 H18=>gO v25 true (aF v32) H18 λv33 H19=>gO v25 true (aB v33 0) H19 λv34 H20=>gO v25 true (aC v34 H20) H20 λv35 H21=>gd v25 true (λk=>E.call 85 [v26,v30] H21 λv h=>k v h) H21 λv36 H22=>gdC v25 true (aC v34 H22=aC v34 H20) /\
 gd v25 true (λk=>E.call 107 [v31,v35] H22 λv h=>k v h) H22 λv37 H23=>gO v25 true (aA .add v36 v37) H23 λv38 H24=>gO v25 true (aA .gtr v38 (vi 16)) H24 λv39 H25=>opt (pick v25 v39 (.bool false)) λv40=>ifB v40 (
 Q (vi 28) H25) (
 opt (un .not x4) λv41=>ifB v41 (
 Q (vi 0) H25) (
 opt (aF x0) λv42=>opt (aB v42 0) λv43=>opt (aC v43 H25) λv44=>opt (look 0 (.pointer none) false v44 x5 H25) λv45=>opt (aF x1) λv46=>opt (aB v46 1) λv47=>opt (aC v47 H25) λv48=>opt (aA .eql v48 (.int .u8 2)) λv49=>gV v49 true v45 H25 λv50 H26=>gO v49 true (aF v50) H26 λv51 H27=>gO v49 true (aB v51 1) H27 λv52 H28=>gO v49 true (aC v52 H28) H28 λv53 H29=>gO v49 true (aA .neq v53 (.int .u8 2)) H29 λv54 H30=>opt (pick v49 v54 (.bool false)) λv55=>ifB v55 (
 Q (vi 20) H30) (
 opt (aF x1) λv56=>opt (aB v56 1) λv57=>opt (aC v57 H30) λv58=>opt (aA .neq v58 (.int .u8 2)) λv59=>gV v59 true v45 H30 λv60 H31=>gO v59 true (aF v60) H31 λv61 H32=>gO v59 true (aB v61 1) H32 λv62 H33=>gO v59 true (aC v62 H33) H33 λv63 H34=>gO v59 true (aA .eql v63 (.int .u8 2)) H34 λv64 H35=>opt (pick v59 v64 (.bool false)) λv65=>ifB v65 (
 Q (vi 21) H35) (
 opt (aF v45) λv66=>opt (aB v66 1) λv67=>opt (aC v67 H35) λv68=>opt (aA .eql v68 (.int .u8 2)) λv69=>gV v69 true v45 H35 λv70 H36=>gO v69 true (aF v70) H36 λv71 H37=>gO v69 true (aB v71 3) H37 λv72 H38=>gO v69 true (aC v72 H38) H38 λv73 H39=>gO v69 true (iB v73 H39) H39 λv74 H40=>gO v69 true (aA .gtr v74 (vi 0)) H40 λv75 H41=>opt (pick v69 v75 (.bool false)) λv76=>ifB v76 (
 Q (vi 39) H41) (
 Q (vi 0) H41))))))))

def F.f42:T0:=λE x0 x1 H Q =>
 mk (eX x1) H λv1 H1=>opt (bU dB .eql x0 (.pointer none)) λv2=>ifB v2 (
 Q (.int .i64 (-1)) H1) (
 opt (aF x0) λv3=>opt (aB v3 0) λv4=>opt (aC v4 H1) λv5=>opt (some (.func (.func 108) #[] #[v1])) λv6=>E.call 102 [v5,v6] H1 λv7 H2=>Q v7 H2)

def F.f93:T2:=λE x0 H Q =>
 opt (lenSlc x0) λv1=>opt (bI .u64 v1) λv2=>E.call 110 [v2] H λv3 H1=>E.call 109 [x0,vi 0,v1,v3] H1 λv4 H2=>Q (.tuple #[]) H2

def F.f112:T0:=λE x0 x1 H Q =>
 E.call 111 [x0,x1,(.bool true)] H λv1 H1=>Q v1 H1

def F.f3:T2:=λE x0 H Q =>
 opt (aA .lss x0 (.int .i32 33)) λv1=>gV v1 false x0 H λv2 H1=>gO v1 false (aA .gtr v2 (.int .i32 126)) H1 λv3 H2=>opt (pick v1 (.bool true) v3) λv4=>gV v4 false x0 H2 λv5 H3=>gO v4 false (aA .eql v5 (.int .i32 47)) H3 λv6 H4=>opt (pick v4 (.bool true) v6) λv7=>gV v7 false x0 H4 λv8 H5=>gO v7 false (aA .eql v8 (.int .i32 35)) H5 λv9 H6=>opt (pick v7 (.bool true) v9) λv10=>Q v10 H6

def F.f90:T2:=λE x0 H Q =>
 opt (bU tL .eql x0 (.slice none 0 0)) λv1=>ifB v1 (
 Q (.slice none 0 0) H) (
 mk (buildS 0 5 #[vi 0,vi 0,(.int .u16 0),(.int .u16 0),vi 0] []) H λv2 H1=>gJ (app 5 40 v2 x0 H1) λv3 H2=>Q v3 H2)

def F.f46:T8:=λE H Q =>
 mk (buildS 9 1 #[(.string ⟨#[]⟩)] [(0,(.string ⟨#[97]⟩)),(1,(.string ⟨#[98]⟩)),(2,(.string ⟨#[99]⟩)),(3,(.string ⟨#[100,46,101]⟩)),(4,(.string ⟨#[102]⟩)),(5,(.string ⟨#[103]⟩)),(6,(.string ⟨#[]⟩)),(7,(.string ⟨#[46,46]⟩)),(8,(.string ⟨#[97,47,98]⟩))]) H λv1 H1=>Q v1 H1

def F.f15:T4:=λE x0 x1 x2 x3 H Q =>
 E.call 44 [x0,x1] H λv1 H1=>opt (bU dB .eql v1 (.pointer none)) λv2=>ifB v2 (
 Q (vi 2) H1) (
 opt (aF v1) λv3=>opt (aB v3 1) λv4=>opt (aC v4 H1) λv5=>opt (aA .eql v5 (.int .u8 2)) λv6=>ifB v6 (
 Q (vi 21) H1) (
 opt (aF v1) λv7=>opt (aB v7 1) λv8=>opt (aC v8 H1) λv9=>opt (aA .neq v9 (.int .u8 1)) λv10=>gV v10 false x2 H1 λv11 H2=>gO v10 false (aA .lss v11 (vi 0)) H2 λv12 H3=>opt (pick v10 (.bool true) v12) λv13=>ifB v13 (
 Q (vi 22) H3) (
 opt (aA .gtr x2 (vi 1024)) λv14=>gV v14 false x3 H3 λv15 H4=>gO v14 false (lenSlc v15) H4 λv16 H5=>gV v14 false x2 H5 λv17 H6=>gO v14 false (aA .sub (vi 1024) v17) H6 λv18 H7=>gO v14 false (aA .gtr v16 v18) H7 λv19 H8=>opt (pick v14 (.bool true) v19) λv20=>ifB v20 (
 Q (vi 27) H8) (
 opt (aF v1) λv21=>opt (aB v21 2) λv22=>opt (aC v22 H8) λv23=>opt (lenSlc v23) λv24=>opt (lenSlc x3) λv25=>opt (aA .add x2 v25) λv26=>opt (fY max2 [v24,v26]) λv27=>mk (xA 1 1 #[(.int .u8 0)] v27 v27) H8 λv28 H9=>opt (aF v1) λv29=>opt (aB v29 2) λv30=>opt (aC v30 H9) λv31=>gJ (vQ 1 v28 v31 H9) λv32 H10=>opt (dQ 1 v28 (some x2) none none H10) λv33=>gJ (vQ 1 v33 x3 H10) λv34 H11=>opt (aF v1) λv35=>opt (aB v35 2) λv36=>opt (aR v36 v28 H11) λH12=>opt (aF x0) λv37=>opt (aB v37 2) λv38=>E.call 86 [v38,vi 1] H12 λv39 H13=>Q (vi 0) H13))))

def F.f78_l2:T7:=λE Q t0 t2 t3 t9 t10 t11 H X0 =>
 opt (lenSlc t3) λv1=>opt (aA .lss t11 v1) λv2=>ifB v2 (
 opt (aA .add t2 t11) λv3=>opt (aP 1 t3 t11) λv4=>opt (aC v4 H) λv5=>opt (aP 1 t10 v3) λv6=>opt (aR v6 v5 H) λH1=>opt (aA .add t11 (vi 1)) λv7=>X0 [t0,t2,t3,t9,t10,v7] H1) (
 opt (aF t9) λv8=>opt (aB v8 1) λv9=>opt (aR v9 t10 H) λH2=>opt (aF t0) λv10=>opt (aB v10 4) λv11=>opt (aC v11 H2) λv12=>opt (aA .add v12 (vi 1)) λv13=>opt (aF t0) λv14=>opt (aB v14 4) λv15=>opt (aR v15 v13 H2) λH3=>Q (vi 0) H3)
def F.f78_l1:T6:=λE Q t0 t2 t3 t9 t10 H X0 =>
 opt (lenSlc t10) λv1=>opt (lenSlc t3) λv2=>opt (aA .add t2 v2) λv3=>opt (aA .lss v1 v3) λv4=>ifB v4 (
 mk (buildS 1 1 #[(.int .u8 0)] [(0,(.int .u8 0))]) H λv5 H1=>gJ (app 1 1 t10 v5 H1) λv6 H2=>X0 [t0,t2,t3,t9,v6] H2) (
 lp6 (F.f78_l2 E Q) [t0,t2,t3,t9,t10,vi 0] H)
def F.f78:T4:=λE x0 x1 x2 x3 H Q =>
 E.call 26 [x0,x1] H λv1 H1=>opt (aF v1) λv2=>opt (aB v2 0) λv3=>opt (aC v3 H1) λv4=>opt (aA .eql v4 (vi 0)) λv5=>ifB v5 (
 Q (vi 2) H1) (
 opt (aF v1) λv6=>opt (aB v6 0) λv7=>opt (aC v7 H1) λv8=>opt (aA .eql v8 (vi 2)) λv9=>ifB v9 (
 Q (vi 21) H1) (
 opt (aF v1) λv10=>opt (aB v10 0) λv11=>opt (aC v11 H1) λv12=>opt (aA .neq v12 (vi 1)) λv13=>gV v13 false x2 H1 λv14 H2=>gO v13 false (aA .lss v14 (vi 0)) H2 λv15 H3=>opt (pick v13 (.bool true) v15) λv16=>ifB v16 (
 Q (vi 22) H3) (
 opt (aA .gtr x2 (vi 1024)) λv17=>gV v17 false x2 H3 λv18 H4=>gV v17 false x3 H4 λv19 H5=>gO v17 false (lenSlc v19) H5 λv20 H6=>gO v17 false (aA .add v18 v20) H6 λv21 H7=>gO v17 false (aA .gtr v21 (vi 1024)) H7 λv22 H8=>opt (pick v17 (.bool true) v22) λv23=>ifB v23 (
 Q (vi 27) H8) (
 mk (buildS 0 1 #[(.int .u8 0)] []) H8 λv24 H9=>opt (aF v1) λv25=>opt (aB v25 1) λv26=>opt (aC v26 H9) λv27=>gJ (app 1 1 v24 v27 H9) λv28 H10=>lp5 (F.f78_l1 E Q) [x0,x2,x3,v1,v28] H10))))

def F.f6:T1:=λE x0 x1 x2 H Q =>
 E.call 44 [x0,x1] H λv1 H1=>opt (bU dB .eql v1 (.pointer none)) λv2=>ifB v2 (
 Q (vi 2) H1) (
 opt (aF v1) λv3=>opt (aB v3 1) λv4=>opt (aC v4 H1) λv5=>opt (aA .eql v5 (.int .u8 2)) λv6=>ifB v6 (
 Q (vi 21) H1) (
 opt (aF v1) λv7=>opt (aB v7 1) λv8=>opt (aC v8 H1) λv9=>opt (aA .neq v9 (.int .u8 1)) λv10=>gV v10 false x2 H1 λv11 H2=>gO v10 false (aA .lss v11 (vi 0)) H2 λv12 H3=>opt (pick v10 (.bool true) v12) λv13=>ifB v13 (
 Q (vi 22) H3) (
 opt (aA .gtr x2 (vi 1024)) λv14=>ifB v14 (
 Q (vi 27) H3) (
 mk (xA 1 1 #[(.int .u8 0)] x2 x2) H3 λv15 H4=>opt (aF v1) λv16=>opt (aB v16 2) λv17=>opt (aC v17 H4) λv18=>gJ (vQ 1 v15 v18 H4) λv19 H5=>opt (aF v1) λv20=>opt (aB v20 2) λv21=>opt (aR v21 v15 H5) λH6=>opt (aF x0) λv22=>opt (aB v22 2) λv23=>E.call 86 [v23,vi 1] H6 λv24 H7=>Q (vi 0) H7))))

def F.f62_l1:T3:=λE Q t0 t2 t7 t8 H X0 =>
 opt (lenSlc t8) λv1=>opt (aA .lss v1 t2) λv2=>ifB v2 (
 mk (buildS 1 1 #[(.int .u8 0)] [(0,(.int .u8 0))]) H λv3 H1=>gJ (app 1 1 t8 v3 H1) λv4 H2=>X0 [t0,t2,t7,v4] H2) (
 opt (dQ 1 t8 none (some t2) none H) λv5=>opt (aF t7) λv6=>opt (aB v6 1) λv7=>opt (aR v7 v5 H) λH3=>opt (aF t0) λv8=>opt (aB v8 4) λv9=>opt (aC v9 H3) λv10=>opt (aA .add v10 (vi 1)) λv11=>opt (aF t0) λv12=>opt (aB v12 4) λv13=>opt (aR v13 v11 H3) λH4=>Q (vi 0) H4)
def F.f62:T1:=λE x0 x1 x2 H Q =>
 E.call 26 [x0,x1] H λv1 H1=>opt (aF v1) λv2=>opt (aB v2 0) λv3=>opt (aC v3 H1) λv4=>opt (aA .eql v4 (vi 0)) λv5=>ifB v5 (
 Q (vi 2) H1) (
 opt (aF v1) λv6=>opt (aB v6 0) λv7=>opt (aC v7 H1) λv8=>opt (aA .eql v8 (vi 2)) λv9=>ifB v9 (
 Q (vi 21) H1) (
 opt (aF v1) λv10=>opt (aB v10 0) λv11=>opt (aC v11 H1) λv12=>opt (aA .neq v12 (vi 1)) λv13=>gV v13 false x2 H1 λv14 H2=>gO v13 false (aA .lss v14 (vi 0)) H2 λv15 H3=>opt (pick v13 (.bool true) v15) λv16=>ifB v16 (
 Q (vi 22) H3) (
 opt (aA .gtr x2 (vi 1024)) λv17=>ifB v17 (
 Q (vi 27) H3) (
 mk (buildS 0 1 #[(.int .u8 0)] []) H3 λv18 H4=>opt (aF v1) λv19=>opt (aB v19 1) λv20=>opt (aC v20 H4) λv21=>gJ (app 1 1 v18 v21 H4) λv22 H5=>lp4 (F.f62_l1 E Q) [x0,x2,v1,v22] H5))))

def F.f64:T0:=λE x0 x1 H Q =>
 mk (eX x1) H λv1 H1=>bV [vi 0,vi 0] H1 λv2 H2=>opt (aB v1 0) λv3=>opt (aC v3 H2) λv4=>E.call 59 [x0,v4] H2 λv5 H3=>opt (aA .lss v5 (vi 0)) λv6=>gO v6 false (aB v1 0) H3 λv7 H4=>gO v6 false (aC v7 H4) H4 λv8 H5=>gO v6 false (aA .eql v8 (vi 0)) H5 λv9 H6=>opt (pick v6 (.bool true) v9) λv10=>gV v10 false x0 H6 λv11 H7=>gO v10 false (aF v11) H7 λv12 H8=>gO v10 false (aB v12 2) H8 λv13 H9=>gO v10 false (aC v13 H9) H9 λv14 H10=>gV v10 false v5 H10 λv15 H11=>gO v10 false (aP 5 v14 v15) H11 λv16 H12=>gO v10 false (aB v16 1) H12 λv17 H13=>gO v10 false (aC v17 H13) H13 λv18 H14=>gO v10 false (aB v1 1) H14 λv19 H15=>gO v10 false (aC v19 H15) H15 λv20 H16=>gO v10 false (aA .neq v18 v20) H16 λv21 H17=>opt (pick v10 (.bool true) v21) λv22=>ifB v22 (
 opt (aV [(0,1),(1,1)] #[vi 0,vi 0] []) λv23=>opt (storeN 2 v2 v23 H17) λH18=>opt (aH 2 v2 H18) λv24=>Q (.tuple #[v24,(.bool false)]) H18) (
 opt (aF x0) λv25=>opt (aB v25 2) λv26=>opt (aC v26 H17) λv27=>opt (aP 5 v27 v5) λv28=>opt (aB v28 2) λv29=>opt (aH 2 v29 H17) λv30=>opt (storeN 2 v2 v30 H17) λH19=>opt (aH 2 v2 H19) λv31=>Q (.tuple #[v31,(.bool true)]) H19)

def F.f39:T0:=λE x0 x1 H Q =>
 mk (eX x0) H λv1 H1=>opt (aB v1 0) λv2=>opt (aC v2 H1) λv3=>opt (aA .neq v3 (vi 0)) λv4=>gO v4 true (aB v1 1) H1 λv5 H2=>gO v4 true (aH 2 v5 H2) H2 λv6 H3=>gO v4 true (aH 2 x1 H3) H3 λv7 H4=>gO v4 true (fU [0,0] .eql v6 v7) H4 λv8 H5=>opt (pick v4 v8 (.bool false)) λv9=>Q v9 H5

def F.f92_l1:T3:=λE Q t0 t1 t7 t8 H X0 =>
 opt (aA .lss t8 t7) λv1=>ifB v1 (
 opt (aP 5 t0 t8) λv2=>opt (aH 5 v2 H) λv3=>nO E.call t1 [v3] H λv4 H1=>ifB v4 (
 Q t8 H1) (
 opt (aA .add t8 (vi 1)) λv5=>X0 [t0,t1,t7,v5] H1)) (
 Q (.int .i64 (-1)) H)
def F.f92:T0:=λE x0 x1 H Q =>
 opt (lenSlc x0) λv1=>lp4 (F.f92_l1 E Q) [x0,x1,v1,vi 0] H

def F.f113:T0:=λE x0 x1 H Q =>
 E.call 112 [x0,x1,vi 0,(.int .i64 (-1))] H λv1 H1=>Q v1 H1

def F.f35:T0:=λE x0 x1 H Q =>
 mk (eX x1) H λv1 H1=>bV [vi 0,(.int .u16 0)] H1 λv2 H2=>opt (aB v1 0) λv3=>opt (aC v3 H2) λv4=>E.call 83 [x0,v4] H2 λv5 H3=>opt (ext v5 0) λv6=>opt (ext v5 1) λv7=>bV [vi 0,vi 0,(.int .u16 0),(.int .u16 0),vi 0] H3 λv8 H4=>opt (storeN 5 v8 v6 H4) λH5=>opt (un .not v7) λv9=>gO v9 false (aB v8 0) H5 λv10 H6=>gO v9 false (aC v10 H6) H6 λv11 H7=>gO v9 false (aA .eql v11 (vi 0)) H7 λv12 H8=>opt (pick v9 (.bool true) v12) λv13=>gO v13 false (aB v8 3) H8 λv14 H9=>gO v13 false (aC v14 H9) H9 λv15 H10=>gO v13 false (aB v1 1) H10 λv16 H11=>gO v13 false (aC v16 H11) H11 λv17 H12=>gO v13 false (aA .neq v15 v17) H12 λv18 H13=>opt (pick v13 (.bool true) v18) λv19=>ifB v19 (
 opt (aV [(0,1),(1,1)] #[vi 0,(.int .u16 0)] []) λv20=>opt (storeN 2 v2 v20 H13) λH14=>opt (aH 2 v2 H14) λv21=>Q (.tuple #[v21,(.bool false)]) H14) (
 opt (aB v8 1) λv22=>opt (aH 2 v22 H13) λv23=>opt (storeN 2 v2 v23 H13) λH15=>opt (aH 2 v2 H15) λv24=>Q (.tuple #[v24,(.bool true)]) H15)

def F.f20_l1:T5:=λE Q t0 t5 t17 H X0 =>
 nT t17 H λv1 H1=>opt (ext v1 0) λv2=>ifB v2 (
 opt (oW t17 H1) λv3=>opt (ext v3 1) λv4=>opt (aF t0) λv5=>opt (aB v5 0) λv6=>opt (aC v6 H1) λv7=>opt (look 0 (.pointer none) false v7 v4 H1) λv8=>opt (aF v8) λv9=>opt (aB v9 1) λv10=>opt (aC v10 H1) λv11=>opt (aA .eql v11 (.int .u8 2)) λv12=>ifB v12 (
 E.call 107 [t0,v4] H1 λv13 H2=>opt (fY max2 [t5,v13]) λv14=>X0 [t0,v14,t17] H2) (
 X0 [t0,t5,t17] H1)) (
 opt (aA .add t5 (vi 1)) λv15=>Q v15 H1)
def F.f20:T0:=λE x0 x1 H Q =>
 opt (aF x0) λv1=>opt (aB v1 0) λv2=>opt (aC v2 H) λv3=>opt (look 0 (.pointer none) false v3 x1 H) λv4=>opt (aF v4) λv5=>opt (aB v5 3) λv6=>opt (aC v6 H) λv7=>mk (lY v7 H) H λv8 H1=>lp3 (F.f20_l1 E Q) [x0,vi 0,v8] H1

def F.f43:T0:=λE x0 x1 H Q =>
 mk (eX x0) H λv1 H1=>opt (aB v1 0) λv2=>opt (aC v2 H1) λv3=>opt (aC x1 H1) λv4=>opt (aA .eql v3 v4) λv5=>Q v5 H1

def F.f30:T2:=λE x0 H Q =>
 ifB (.bool false) (
 opt (bI .u32 x0) λv1=>E.call 122 [v1] H λv2 H1=>Q v2 H1) (
 E.call 123 [x0] H λv3 H2=>Q v3 H2)

def F.f105_j3:T22:=λE Q X0 t0 t1 t2 t3 t8 t9 t10 t11 H =>
 opt (aA .gtr t1 (vi 0)) λv1=>gV v1 true t0 H λv2 H1=>gV v1 true t1 H1 λv3 H2=>gO v1 true (aA .sub v3 (vi 1)) H2 λv4 H3=>gO v1 true (aP 1 v2 v4) H3 λv5 H4=>gO v1 true (aC v5 H4) H4 λv6 H5=>gV v1 true t0 H5 λv7 H6=>gV v1 true t11 H6 λv8 H7=>gO v1 true (aP 1 v7 v8) H7 λv9 H8=>gO v1 true (aC v9 H8) H8 λv10 H9=>gd v1 true (λk=>E.call 119 [v6,v10] H9 λv h=>k v h) H9 λv11 H10=>gO v1 true (un .not v11) H10 λv12 H11=>opt (pick v1 v12 (.bool false)) λv13=>ifB v13 (
 E.call 120 [t0,t1,t2,t11] H11 λv14 H12=>X0 [t0,v14,t2,t3,t8,t9] H12) (
 E.call 121 [t0,t1,t2,t11] H11 λv15 H13=>opt (ext v15 0) λv16=>opt (ext v15 1) λv17=>opt (aA .sub v16 t1) λv18=>opt (aA .sub t2 v16) λv19=>opt (aA .quo t10 (vi 8)) λv20=>opt (aA .lss v18 v19) λv21=>ifB v21 (
 opt (aA .geq v18 v20) λv22=>E.call 109 [t0,t1,v16,t3] H13 λv23 H14=>opt (aA .add v16 (vi 1)) λv24=>X0 [t0,v24,t2,t3,v22,v17] H14) (
 opt (aA .geq v19 v20) λv25=>opt (aA .add v16 (vi 1)) λv26=>E.call 109 [t0,v26,t2,t3] H13 λv27 H15=>X0 [t0,t1,v16,t3,v25,v17] H15))
def F.f105_j2:T10:=λE Q X0 t0 t1 t2 t3 t8 t9 t10 t11 t12 H =>
 gV t8 true t9 H λv1 H1=>opt (pick t8 v1 (.bool false)) λv2=>gV v2 true t12 H1 λv3 H2=>gO v2 true (aA .eql v3 (vi 1)) H2 λv4 H3=>opt (pick v2 v4 (.bool false)) λv5=>ifB v5 (
 E.call 118 [t0,t1,t2] H3 λv6 H4=>ifB v6 (
 Q (.tuple #[]) H4) (
 F.f105_j3 E Q X0 t0 t1 t2 t3 t8 t9 t10 t11 H4)) (
 F.f105_j3 E Q X0 t0 t1 t2 t3 t8 t9 t10 t11 H3)
def F.f105_j1:T17:=λE Q X0 t0 t1 t2 t3 t8 t9 t10 H =>
 E.call 116 [t0,t1,t2] H λv1 H1=>opt (ext v1 0) λv2=>opt (ext v1 1) λv3=>opt (aA .eql v3 (vi 2)) λv4=>ifB v4 (
 E.call 117 [t0,t1,t2] H1 λv5 H2=>opt (aA .sub t2 (vi 1)) λv6=>opt (aA .sub v2 t1) λv7=>opt (aA .sub v6 v7) λv8=>F.f105_j2 E Q X0 t0 t1 t2 t3 t8 t9 t10 v8 (vi 1) H2) (
 F.f105_j2 E Q X0 t0 t1 t2 t3 t8 t9 t10 v2 v3 H1)
def F.f105_l1:T7:=λE Q t0 t1 t2 t3 t8 t9 H X0 =>
 opt (aA .sub t2 t1) λv1=>opt (aA .leq v1 (vi 12)) λv2=>ifB v2 (
 E.call 113 [t0,t1,t2] H λv3 H1=>Q (.tuple #[]) H1) (
 opt (aA .eql t3 (vi 0)) λv4=>ifB v4 (
 E.call 114 [t0,t1,t2] H λv5 H2=>Q (.tuple #[]) H2) (
 opt (un .not t8) λv6=>ifB v6 (
 E.call 115 [t0,t1,t2] H λv7 H3=>opt (aA .sub t3 (vi 1)) λv8=>F.f105_j1 E Q X0 t0 t1 t2 v8 t8 t9 v1 H3) (
 F.f105_j1 E Q X0 t0 t1 t2 t3 t8 t9 v1 H)))
def F.f105:T4:=λE x0 x1 x2 x3 H Q =>
 lp6 (F.f105_l1 E Q) [x0,x1,x2,x3,(.bool true),(.bool true)] H

def F.f116_l1:T5:=λE Q t1 t2 t10 H X0 =>
 gJ (aBT t10 H) λv1 H1=>opt (ext v1 0) λv2=>ifB v2 (
 opt (ext v1 1) λv3=>opt (ext v1 2) λv4=>nO E.call t1 [v4] H1 λv5 H2=>opt (oD .eql v5 t2) λv6=>ifB v6 (
 Q v3 H2) (
 X0 [t1,t2,t10] H2)) (
 Q (.int .i64 (-1)) H1)
def F.f116:T1:=λE x0 x1 x2 H Q =>
 mk (wH x0) H λv1 H1=>lp3 (F.f116_l1 E Q) [x1,x2,v1] H1

def F.f115_j2:T11:=λE Q t0 t9 t10 H =>
 opt (aP 1 t9 t10) λv1=>opt (aR v1 t0 H) λH1=>opt (aA .add t10 (vi 1)) λv2=>opt (dQ 1 t9 none (some v2) none H1) λv3=>Q v3 H1
def F.f115_l1:T7:=λE Q t0 t1 t2 t3 t9 t10 H X0 =>
 opt (aA .lss t10 t3) λv1=>ifB v1 (
 E.call 126 [t0,t1] H λv2 H1=>opt (aA .lss v2 (vi 0)) λv3=>ifB v3 (
 F.f115_j2 E Q t0 t9 t10 H1) (
 opt (aA .add v2 t2) λv4=>opt (jY t0 none (some v4)) λv5=>opt (aP 1 t9 t10) λv6=>opt (aR v6 v5 H1) λH2=>opt (dD t1) λv7=>opt (aA .add v2 v7) λv8=>opt (jY t0 (some v8) none) λv9=>opt (aA .add t10 (vi 1)) λv10=>X0 [v9,t1,t2,t3,t9,v10] H2)) (
 F.f115_j2 E Q t0 t9 t10 H)
def F.f115_j1(E:Sy)(Q:VK)(t0 t1 t2 t3:Value)(H:AH):Prop :=
 opt (dD t0) λv1=>opt (aA .add v1 (vi 1)) λv2=>opt (fY min2 [t3,v2]) λv3=>mk (xA 1 16 #[(.string ⟨#[]⟩)] v3 v3) H λv4 H1=>opt (aA .sub v3 (vi 1)) λv5=>lp6 (F.f115_l1 E Q) [t0,t1,t2,v5,v4,vi 0] H1
def F.f115:T4:=λE x0 x1 x2 x3 H Q =>
 opt (aA .eql x3 (vi 0)) λv1=>ifB v1 (
 Q (.slice none 0 0) H) (
 opt (cH .eql x1 (.string ⟨#[]⟩)) λv2=>ifB v2 (
 E.call 124 [x0,x3] H λv3 H1=>Q v3 H1) (
 opt (aA .lss x3 (vi 0)) λv4=>ifB v4 (
 E.call 125 [x0,x1] H λv5 H2=>opt (aA .add v5 (vi 1)) λv6=>F.f115_j1 E Q x0 x1 x2 v6 H2) (
 F.f115_j1 E Q x0 x1 x2 x3 H)))

def F.f32_j3:T12:=λE Q t0 t2 H =>
 opt (bI .u8 t0) λv1=>opt (eZ (.string ⟨#[0,1,2,2,3,3,3,3,4,4,4,4,4,4,4,4,5,5,5,5,5,5,5,5,5,5,5,5,5,5,5,5,6,6,6,6,6,6,6,6,6,6,6,6,6,6,6,6,6,6,6,6,6,6,6,6,6,6,6,6,6,6,6,6,7,7,7,7,7,7,7,7,7,7,7,7,7,7,7,7,7,7,7,7,7,7,7,7,7,7,7,7,7,7,7,7,7,7,7,7,7,7,7,7,7,7,7,7,7,7,7,7,7,7,7,7,7,7,7,7,7,7,7,7,7,7,7,7,8,8,8,8,8,8,8,8,8,8,8,8,8,8,8,8,8,8,8,8,8,8,8,8,8,8,8,8,8,8,8,8,8,8,8,8,8,8,8,8,8,8,8,8,8,8,8,8,8,8,8,8,8,8,8,8,8,8,8,8,8,8,8,8,8,8,8,8,8,8,8,8,8,8,8,8,8,8,8,8,8,8,8,8,8,8,8,8,8,8,8,8,8,8,8,8,8,8,8,8,8,8,8,8,8,8,8,8,8,8,8,8,8,8,8,8,8,8,8,8,8,8,8,8,8,8,8,8]⟩) v1) λv2=>opt (bI .i64 v2) λv3=>opt (aA .add t2 v3) λv4=>Q v4 H
def F.f32_j2:T12:=λE Q t0 t2 H =>
 opt (aA .geq t0 (.int .u64 256)) λv1=>ifB v1 (
 opt (aA .shr t0 (.int .u64 8)) λv2=>opt (aA .add t2 (vi 8)) λv3=>F.f32_j3 E Q v2 v3 H) (
 F.f32_j3 E Q t0 t2 H)
def F.f32_j1:T12:=λE Q t0 t2 H =>
 opt (aA .geq t0 (.int .u64 65536)) λv1=>ifB v1 (
 opt (aA .shr t0 (.int .u64 16)) λv2=>opt (aA .add t2 (vi 16)) λv3=>F.f32_j2 E Q v2 v3 H) (
 F.f32_j2 E Q t0 t2 H)
def F.f32:T2:=λE x0 H Q =>
 opt (aA .geq x0 (.int .u64 4294967296)) λv1=>ifB v1 (
 opt (aA .shr x0 (.int .u64 32)) λv2=>F.f32_j1 E Q v2 (vi 32) H) (
 F.f32_j1 E Q x0 (vi 0) H)

def F.f97_l2:T23:=λE Q X0 t0 t1 t2 t6 t7 H X1 =>
 opt (aA .gtr t7 t1) λv1=>gV v1 true t0 H λv2 H1=>gV v1 true t7 H1 λv3 H2=>gO v1 true (aP 1 v2 v3) H2 λv4 H3=>gO v1 true (aC v4 H3) H3 λv5 H4=>gV v1 true t0 H4 λv6 H5=>gV v1 true t7 H5 λv7 H6=>gO v1 true (aA .sub v7 (vi 1)) H6 λv8 H7=>gO v1 true (aP 1 v6 v8) H7 λv9 H8=>gO v1 true (aC v9 H8) H8 λv10 H9=>gd v1 true (λk=>E.call 119 [v5,v10] H9 λv h=>k v h) H9 λv11 H10=>opt (pick v1 v11 (.bool false)) λv12=>ifB v12 (
 opt (aA .sub t7 (vi 1)) λv13=>opt (aA .sub t7 (vi 1)) λv14=>opt (aP 1 t0 v14) λv15=>opt (aC v15 H10) λv16=>opt (aP 1 t0 t7) λv17=>opt (aC v17 H10) λv18=>opt (aP 1 t0 t7) λv19=>opt (aR v19 v16 H10) λH11=>opt (aP 1 t0 v13) λv20=>opt (aR v20 v18 H11) λH12=>opt (aA .sub t7 (vi 1)) λv21=>X1 [t0,t1,t2,t6,v21] H12) (
 opt (aA .add t6 (vi 1)) λv22=>X0 [t0,t1,t2,v22] H10)
def F.f97_l1:T3:=λE Q t0 t1 t2 t6 H X0 =>
 opt (aA .lss t6 t2) λv1=>ifB v1 (
 lp5 (F.f97_l2 E Q X0) [t0,t1,t2,t6,t6] H) (
 Q (.tuple #[]) H)
def F.f97:T1:=λE x0 x1 x2 H Q =>
 opt (aA .add x1 (vi 1)) λv1=>lp4 (F.f97_l1 E Q) [x0,x1,x2,v1] H

def F.f96_l2:T3:=λE Q t0 t6 t7 t10 H X0 =>
 opt (aA .geq t10 (vi 0)) λv1=>ifB v1 (
 opt (aA .add t6 t10) λv2=>opt (aA .add t6 t10) λv3=>opt (aP 1 t0 v3) λv4=>opt (aC v4 H) λv5=>opt (aP 1 t0 t6) λv6=>opt (aC v6 H) λv7=>opt (aP 1 t0 t6) λv8=>opt (aR v8 v5 H) λH1=>opt (aP 1 t0 v2) λv9=>opt (aR v9 v7 H1) λH2=>E.call 127 [t0,t7,t10,t6] H2 λv10 H3=>opt (aA .sub t10 (vi 1)) λv11=>X0 [t0,t6,t7,v11] H3) (
 Q (.tuple #[]) H)
def F.f96_l1:T6:=λE Q t0 t6 t7 t8 t9 H X0 =>
 opt (aA .geq t9 (vi 0)) λv1=>ifB v1 (
 E.call 127 [t0,t9,t8,t6] H λv2 H1=>opt (aA .sub t9 (vi 1)) λv3=>X0 [t0,t6,t7,t8,v3] H1) (
 opt (aA .sub t8 (vi 1)) λv4=>lp4 (F.f96_l2 E Q) [t0,t6,t7,v4] H)
def F.f96:T1:=λE x0 x1 x2 H Q =>
 opt (aA .sub x2 x1) λv1=>opt (aA .sub v1 (vi 1)) λv2=>opt (aA .quo v2 (vi 2)) λv3=>lp5 (F.f96_l1 E Q) [x0,x1,vi 0,v1,v3] H

def F.f94_j1:T17:=λE Q X0 t0 t1 t6 t7 t8 t9 t10 H =>
 opt (aA .add t1 t10) λv1=>opt (aA .add t1 t10) λv2=>opt (aP 1 t0 v2) λv3=>opt (aC v3 H) λv4=>opt (aP 1 t0 t9) λv5=>opt (aC v5 H) λv6=>opt (aP 1 t0 t9) λv7=>opt (aR v7 v4 H) λH1=>opt (aP 1 t0 v1) λv8=>opt (aR v8 v6 H1) λH2=>opt (aA .add t9 (vi 1)) λv9=>X0 [t0,t1,t6,t7,t8,v9] H2
def F.f94_l1:T7:=λE Q t0 t1 t6 t7 t8 t9 H X0 =>
 opt (aA .quo t6 (vi 4)) λv1=>opt (aA .mul v1 (vi 2)) λv2=>opt (aA .add t1 v2) λv3=>opt (aA .add v3 (vi 1)) λv4=>opt (aA .leq t9 v4) λv5=>ifB v5 (
 E.call 129 [t7] H λv6 H1=>opt (aA .sub t8 (.int .u64 1)) λv7=>opt (aA .and v6 v7) λv8=>opt (bI .i64 v8) λv9=>opt (aA .geq v9 t6) λv10=>ifB v10 (
 opt (aA .sub v9 t6) λv11=>F.f94_j1 E Q X0 t0 t1 t6 t7 t8 t9 v11 H1) (
 F.f94_j1 E Q X0 t0 t1 t6 t7 t8 t9 v9 H1)) (
 Q (.tuple #[]) H)
def F.f94:T1:=λE x0 x1 x2 H Q =>
 opt (aA .sub x2 x1) λv1=>opt (aA .geq v1 (vi 8)) λv2=>ifB v2 (
 opt (bI .u64 v1) λv3=>bV [(.int .u64 0)] H λv4 H1=>opt (aR v4 v3 H1) λH2=>E.call 128 [v1] H2 λv5 H3=>opt (aA .quo v1 (vi 4)) λv6=>opt (aA .mul v6 (vi 2)) λv7=>opt (aA .add x1 v7) λv8=>opt (aA .sub v8 (vi 1)) λv9=>lp6 (F.f94_l1 E Q) [x0,x1,v1,v4,v5,v9] H3) (
 Q (.tuple #[]) H)

def F.f95_j1:T12:=λE Q t9 t11 H =>
 opt (aC t9 H) λv1=>opt (aA .eql v1 (vi 0)) λv2=>ifB v2 (
 Q (.tuple #[t11,vi 1]) H) (
 opt (aA .eql v1 (vi 12)) λv3=>ifB v3 (
 Q (.tuple #[t11,vi 2]) H) (
 Q (.tuple #[t11,vi 0]) H))
def F.f95_j2:T15:=λE Q t0 t9 t10 t11 t12 H =>
 E.call 131 [t0,t10,t11,t12,t9] H λv1 H1=>F.f95_j1 E Q t9 v1 H1
def F.f95:T1:=λE x0 x1 x2 H Q =>
 opt (aA .sub x2 x1) λv1=>bV [vi 0] H λv2 H1=>opt (aA .quo v1 (vi 4)) λv3=>opt (aA .mul v3 (vi 1)) λv4=>opt (aA .add x1 v4) λv5=>opt (aA .quo v1 (vi 4)) λv6=>opt (aA .mul v6 (vi 2)) λv7=>opt (aA .add x1 v7) λv8=>opt (aA .quo v1 (vi 4)) λv9=>opt (aA .mul v9 (vi 3)) λv10=>opt (aA .add x1 v10) λv11=>opt (aA .geq v1 (vi 8)) λv12=>ifB v12 (
 opt (aA .geq v1 (vi 50)) λv13=>ifB v13 (
 E.call 130 [x0,v5,v2] H1 λv14 H2=>E.call 130 [x0,v8,v2] H2 λv15 H3=>E.call 130 [x0,v11,v2] H3 λv16 H4=>F.f95_j2 E Q x0 v2 v14 v15 v16 H4) (
 F.f95_j2 E Q x0 v2 v5 v8 v11 H1)) (
 F.f95_j1 E Q v2 v8 H1)

def F.f106_l1:T5:=λE Q t0 t6 t7 H X0 =>
 opt (aA .lss t6 t7) λv1=>ifB v1 (
 opt (aP 1 t0 t7) λv2=>opt (aC v2 H) λv3=>opt (aP 1 t0 t6) λv4=>opt (aC v4 H) λv5=>opt (aP 1 t0 t6) λv6=>opt (aR v6 v3 H) λH1=>opt (aP 1 t0 t7) λv7=>opt (aR v7 v5 H1) λH2=>opt (aA .add t6 (vi 1)) λv8=>opt (aA .sub t7 (vi 1)) λv9=>X0 [t0,v8,v9] H2) (
 Q (.tuple #[]) H)
def F.f106:T1:=λE x0 x1 x2 H Q =>
 opt (aA .sub x2 (vi 1)) λv1=>lp3 (F.f106_l1 E Q) [x0,x1,v1] H

def F.f102_l3:T18:=λE Q X0 t0 t1 t2 t7 t8 t10 H X1 =>
 opt (aA .lss t10 t2) λv1=>ifB v1 (
 opt (aP 1 t0 t10) λv2=>opt (aC v2 H) λv3=>opt (aA .sub t10 (vi 1)) λv4=>opt (aP 1 t0 v4) λv5=>opt (aC v5 H) λv6=>E.call 119 [v3,v6] H λv7 H1=>opt (un .not v7) λv8=>ifB v8 (
 opt (aA .add t8 (vi 1)) λv9=>X0 [t0,t1,t2,t7,v9] H1) (
 opt (aA .sub t10 (vi 1)) λv10=>opt (aA .sub t10 (vi 1)) λv11=>opt (aP 1 t0 v11) λv12=>opt (aC v12 H1) λv13=>opt (aP 1 t0 t10) λv14=>opt (aC v14 H1) λv15=>opt (aP 1 t0 t10) λv16=>opt (aR v16 v13 H1) λH2=>opt (aP 1 t0 v10) λv17=>opt (aR v17 v15 H2) λH3=>opt (aA .add t10 (vi 1)) λv18=>X1 [t0,t1,t2,t7,t8,v18] H3)) (
 opt (aA .add t8 (vi 1)) λv19=>X0 [t0,t1,t2,t7,v19] H)
def F.f102_j1:T24:=λE Q X0 t0 t1 t2 t7 t8 H =>
 opt (aA .sub t2 t7) λv1=>opt (aA .geq v1 (vi 2)) λv2=>ifB v2 (
 opt (aA .add t7 (vi 1)) λv3=>lp6 (F.f102_l3 E Q X0) [t0,t1,t2,t7,t8,v3] H) (
 opt (aA .add t8 (vi 1)) λv4=>X0 [t0,t1,t2,t7,v4] H)
def F.f102_l4:T18:=λE Q X0 t0 t1 t2 t7 t8 t9 H X1 =>
 opt (aA .geq t9 (vi 1)) λv1=>ifB v1 (
 opt (aP 1 t0 t9) λv2=>opt (aC v2 H) λv3=>opt (aA .sub t9 (vi 1)) λv4=>opt (aP 1 t0 v4) λv5=>opt (aC v5 H) λv6=>E.call 119 [v3,v6] H λv7 H1=>opt (un .not v7) λv8=>ifB v8 (
 F.f102_j1 E Q X0 t0 t1 t2 t7 t8 H1) (
 opt (aA .sub t9 (vi 1)) λv9=>opt (aA .sub t9 (vi 1)) λv10=>opt (aP 1 t0 v10) λv11=>opt (aC v11 H1) λv12=>opt (aP 1 t0 t9) λv13=>opt (aC v13 H1) λv14=>opt (aP 1 t0 t9) λv15=>opt (aR v15 v12 H1) λH2=>opt (aP 1 t0 v9) λv16=>opt (aR v16 v14 H2) λH3=>opt (aA .sub t9 (vi 1)) λv17=>X1 [t0,t1,t2,t7,t8,v17] H3)) (
 F.f102_j1 E Q X0 t0 t1 t2 t7 t8 H)
def F.f102_l2:T23:=λE Q X0 t0 t1 t2 t7 t8 H X1 =>
 opt (aA .lss t7 t2) λv1=>gV v1 true t0 H λv2 H1=>gV v1 true t7 H1 λv3 H2=>gO v1 true (aP 1 v2 v3) H2 λv4 H3=>gO v1 true (aC v4 H3) H3 λv5 H4=>gV v1 true t0 H4 λv6 H5=>gV v1 true t7 H5 λv7 H6=>gO v1 true (aA .sub v7 (vi 1)) H6 λv8 H7=>gO v1 true (aP 1 v6 v8) H7 λv9 H8=>gO v1 true (aC v9 H8) H8 λv10 H9=>gd v1 true (λk=>E.call 119 [v5,v10] H9 λv h=>k v h) H9 λv11 H10=>gO v1 true (un .not v11) H10 λv12 H11=>opt (pick v1 v12 (.bool false)) λv13=>ifB v13 (
 opt (aA .add t7 (vi 1)) λv14=>X1 [t0,t1,t2,v14,t8] H11) (
 opt (aA .eql t7 t2) λv15=>ifB v15 (
 Q (.bool true) H11) (
 opt (aA .sub t2 t1) λv16=>opt (aA .lss v16 (vi 50)) λv17=>ifB v17 (
 Q (.bool false) H11) (
 opt (aA .sub t7 (vi 1)) λv18=>opt (aA .sub t7 (vi 1)) λv19=>opt (aP 1 t0 v19) λv20=>opt (aC v20 H11) λv21=>opt (aP 1 t0 t7) λv22=>opt (aC v22 H11) λv23=>opt (aP 1 t0 t7) λv24=>opt (aR v24 v21 H11) λH12=>opt (aP 1 t0 v18) λv25=>opt (aR v25 v23 H12) λH13=>opt (aA .sub t7 t1) λv26=>opt (aA .geq v26 (vi 2)) λv27=>ifB v27 (
 opt (aA .sub t7 (vi 1)) λv28=>lp6 (F.f102_l4 E Q X0) [t0,t1,t2,t7,t8,v28] H13) (
 F.f102_j1 E Q X0 t0 t1 t2 t7 t8 H13))))
def F.f102_l1:T6:=λE Q t0 t1 t2 t7 t8 H X0 =>
 opt (aA .lss t8 (vi 5)) λv1=>ifB v1 (
 lp5 (F.f102_l2 E Q X0) [t0,t1,t2,t7,t8] H) (
 Q (.bool false) H)
def F.f102:T1:=λE x0 x1 x2 H Q =>
 opt (aA .add x1 (vi 1)) λv1=>lp5 (F.f102_l1 E Q) [x0,x1,x2,v1,vi 0] H

def F.f0:T0:=λE x0 x1 H Q =>
 E.call 132 [x0] H λv1 H1=>gV v1 true x1 H1 λv2 H2=>gd v1 true (λk=>E.call 132 [v2] H2 λv h=>k v h) H2 λv3 H3=>gO v1 true (un .not v3) H3 λv4 H4=>opt (pick v1 v4 (.bool false)) λv5=>gV v5 false x0 H4 λv6 H5=>gV v5 false x1 H5 λv7 H6=>gO v5 false (aA .lss v6 v7) H6 λv8 H7=>opt (pick v5 (.bool true) v8) λv9=>Q v9 H7

def F.f103_l3:T13:=λE Q X0 t0 t1 t9 t10 H X1 =>
 opt (aA .leq t9 t10) λv1=>gV v1 true t0 H λv2 H1=>gV v1 true t1 H1 λv3 H2=>gO v1 true (aP 1 v2 v3) H2 λv4 H3=>gO v1 true (aC v4 H3) H3 λv5 H4=>gV v1 true t0 H4 λv6 H5=>gV v1 true t10 H5 λv7 H6=>gO v1 true (aP 1 v6 v7) H6 λv8 H7=>gO v1 true (aC v8 H7) H7 λv9 H8=>gd v1 true (λk=>E.call 119 [v5,v9] H8 λv h=>k v h) H8 λv10 H9=>opt (pick v1 v10 (.bool false)) λv11=>ifB v11 (
 opt (aA .sub t10 (vi 1)) λv12=>X1 [t0,t1,t9,v12] H9) (
 opt (aA .gtr t9 t10) λv13=>ifB v13 (
 Q t9 H9) (
 opt (aP 1 t0 t10) λv14=>opt (aC v14 H9) λv15=>opt (aP 1 t0 t9) λv16=>opt (aC v16 H9) λv17=>opt (aP 1 t0 t9) λv18=>opt (aR v18 v15 H9) λH10=>opt (aP 1 t0 t10) λv19=>opt (aR v19 v17 H10) λH11=>opt (aA .add t9 (vi 1)) λv20=>opt (aA .sub t10 (vi 1)) λv21=>X0 [t0,t1,v20,v21] H11))
def F.f103_l2:T13:=λE Q X0 t0 t1 t9 t10 H X1 =>
 opt (aA .leq t9 t10) λv1=>gV v1 true t0 H λv2 H1=>gV v1 true t1 H1 λv3 H2=>gO v1 true (aP 1 v2 v3) H2 λv4 H3=>gO v1 true (aC v4 H3) H3 λv5 H4=>gV v1 true t0 H4 λv6 H5=>gV v1 true t9 H5 λv7 H6=>gO v1 true (aP 1 v6 v7) H6 λv8 H7=>gO v1 true (aC v8 H7) H7 λv9 H8=>gd v1 true (λk=>E.call 119 [v5,v9] H8 λv h=>k v h) H8 λv10 H9=>gO v1 true (un .not v10) H9 λv11 H10=>opt (pick v1 v11 (.bool false)) λv12=>ifB v12 (
 opt (aA .add t9 (vi 1)) λv13=>X1 [t0,t1,v13,t10] H10) (
 lp4 (F.f103_l3 E Q X0) [t0,t1,t9,t10] H10)
def F.f103_l1:T3:=λE Q t0 t1 t9 t10 H X0 =>
 lp4 (F.f103_l2 E Q X0) [t0,t1,t9,t10] H
def F.f103:T4:=λE x0 x1 x2 x3 H Q =>
 opt (aP 1 x0 x3) λv1=>opt (aC v1 H) λv2=>opt (aP 1 x0 x1) λv3=>opt (aC v3 H) λv4=>opt (aP 1 x0 x1) λv5=>opt (aR v5 v2 H) λH1=>opt (aP 1 x0 x3) λv6=>opt (aR v6 v4 H1) λH2=>opt (aA .add x1 (vi 1)) λv7=>opt (aA .sub x2 (vi 1)) λv8=>lp4 (F.f103_l1 E Q) [x0,x1,v7,v8] H2

def F.f104_l5:T13:=λE Q X0 t0 t1 t10 t11 H X1 =>
 opt (aA .leq t10 t11) λv1=>gV v1 true t0 H λv2 H1=>gV v1 true t11 H1 λv3 H2=>gO v1 true (aP 1 v2 v3) H2 λv4 H3=>gO v1 true (aC v4 H3) H3 λv5 H4=>gV v1 true t0 H4 λv6 H5=>gV v1 true t1 H5 λv7 H6=>gO v1 true (aP 1 v6 v7) H6 λv8 H7=>gO v1 true (aC v8 H7) H7 λv9 H8=>gd v1 true (λk=>E.call 119 [v5,v9] H8 λv h=>k v h) H8 λv10 H9=>gO v1 true (un .not v10) H9 λv11 H10=>opt (pick v1 v11 (.bool false)) λv12=>ifB v12 (
 opt (aA .sub t11 (vi 1)) λv13=>X1 [t0,t1,t10,v13] H10) (
 opt (aA .gtr t10 t11) λv14=>ifB v14 (
 opt (aP 1 t0 t1) λv15=>opt (aC v15 H10) λv16=>opt (aP 1 t0 t11) λv17=>opt (aC v17 H10) λv18=>opt (aP 1 t0 t11) λv19=>opt (aR v19 v16 H10) λH11=>opt (aP 1 t0 t1) λv20=>opt (aR v20 v18 H11) λH12=>Q (.tuple #[t11,(.bool false)]) H12) (
 opt (aP 1 t0 t11) λv21=>opt (aC v21 H10) λv22=>opt (aP 1 t0 t10) λv23=>opt (aC v23 H10) λv24=>opt (aP 1 t0 t10) λv25=>opt (aR v25 v22 H10) λH13=>opt (aP 1 t0 t11) λv26=>opt (aR v26 v24 H13) λH14=>opt (aA .add t10 (vi 1)) λv27=>opt (aA .sub t11 (vi 1)) λv28=>X0 [t0,t1,v27,v28] H14))
def F.f104_l4:T13:=λE Q X0 t0 t1 t10 t11 H X1 =>
 opt (aA .leq t10 t11) λv1=>gV v1 true t0 H λv2 H1=>gV v1 true t10 H1 λv3 H2=>gO v1 true (aP 1 v2 v3) H2 λv4 H3=>gO v1 true (aC v4 H3) H3 λv5 H4=>gV v1 true t0 H4 λv6 H5=>gV v1 true t1 H5 λv7 H6=>gO v1 true (aP 1 v6 v7) H6 λv8 H7=>gO v1 true (aC v8 H7) H7 λv9 H8=>gd v1 true (λk=>E.call 119 [v5,v9] H8 λv h=>k v h) H8 λv10 H9=>opt (pick v1 v10 (.bool false)) λv11=>ifB v11 (
 opt (aA .add t10 (vi 1)) λv12=>X1 [t0,t1,v12,t11] H9) (
 lp4 (F.f104_l5 E Q X0) [t0,t1,t10,t11] H9)
def F.f104_l3:T3:=λE Q t0 t1 t10 t11 H X0 =>
 lp4 (F.f104_l4 E Q X0) [t0,t1,t10,t11] H
def F.f104_l2:T3:=λE Q t0 t1 t10 t11 H X0 =>
 opt (aA .leq t10 t11) λv1=>gV v1 true t0 H λv2 H1=>gV v1 true t11 H1 λv3 H2=>gO v1 true (aP 1 v2 v3) H2 λv4 H3=>gO v1 true (aC v4 H3) H3 λv5 H4=>gV v1 true t0 H4 λv6 H5=>gV v1 true t1 H5 λv7 H6=>gO v1 true (aP 1 v6 v7) H6 λv8 H7=>gO v1 true (aC v8 H7) H7 λv9 H8=>gd v1 true (λk=>E.call 119 [v5,v9] H8 λv h=>k v h) H8 λv10 H9=>gO v1 true (un .not v10) H9 λv11 H10=>opt (pick v1 v11 (.bool false)) λv12=>ifB v12 (
 opt (aA .sub t11 (vi 1)) λv13=>X0 [t0,t1,t10,v13] H10) (
 opt (aA .gtr t10 t11) λv14=>ifB v14 (
 opt (aP 1 t0 t1) λv15=>opt (aC v15 H10) λv16=>opt (aP 1 t0 t11) λv17=>opt (aC v17 H10) λv18=>opt (aP 1 t0 t11) λv19=>opt (aR v19 v16 H10) λH11=>opt (aP 1 t0 t1) λv20=>opt (aR v20 v18 H11) λH12=>Q (.tuple #[t11,(.bool true)]) H12) (
 opt (aP 1 t0 t11) λv21=>opt (aC v21 H10) λv22=>opt (aP 1 t0 t10) λv23=>opt (aC v23 H10) λv24=>opt (aP 1 t0 t10) λv25=>opt (aR v25 v22 H10) λH13=>opt (aP 1 t0 t11) λv26=>opt (aR v26 v24 H13) λH14=>opt (aA .add t10 (vi 1)) λv27=>opt (aA .sub t11 (vi 1)) λv28=>lp4 (F.f104_l3 E Q) [t0,t1,v27,v28] H14))
def F.f104_l1:T3:=λE Q t0 t1 t10 t11 H X0 =>
 opt (aA .leq t10 t11) λv1=>gV v1 true t0 H λv2 H1=>gV v1 true t10 H1 λv3 H2=>gO v1 true (aP 1 v2 v3) H2 λv4 H3=>gO v1 true (aC v4 H3) H3 λv5 H4=>gV v1 true t0 H4 λv6 H5=>gV v1 true t1 H5 λv7 H6=>gO v1 true (aP 1 v6 v7) H6 λv8 H7=>gO v1 true (aC v8 H7) H7 λv9 H8=>gd v1 true (λk=>E.call 119 [v5,v9] H8 λv h=>k v h) H8 λv10 H9=>opt (pick v1 v10 (.bool false)) λv11=>ifB v11 (
 opt (aA .add t10 (vi 1)) λv12=>X0 [t0,t1,v12,t11] H9) (
 lp4 (F.f104_l2 E Q) [t0,t1,t10,t11] H9)
def F.f104:T4:=λE x0 x1 x2 x3 H Q =>
 opt (aP 1 x0 x3) λv1=>opt (aC v1 H) λv2=>opt (aP 1 x0 x1) λv3=>opt (aC v3 H) λv4=>opt (aP 1 x0 x1) λv5=>opt (aR v5 v2 H) λH1=>opt (aP 1 x0 x3) λv6=>opt (aR v6 v4 H1) λH2=>opt (aA .add x1 (vi 1)) λv7=>opt (aA .sub x2 (vi 1)) λv8=>lp4 (F.f104_l1 E Q) [x0,x1,v7,v8] H2

def F.f109_l1:T5:=λE Q t0 t1 t5 H X0 =>
 E.call 126 [t0,t1] H λv1 H1=>opt (aA .eql v1 (.int .i64 (-1))) λv2=>ifB v2 (
 Q t5 H1) (
 opt (aA .add t5 (vi 1)) λv3=>opt (dD t1) λv4=>opt (aA .add v1 v4) λv5=>opt (jY t0 (some v5) none) λv6=>X0 [v6,t1,v3] H1)
def F.f109:T0:=λE x0 x1 H Q =>
 opt (dD x1) λv1=>opt (aA .eql v1 (vi 0)) λv2=>ifB v2 (
 E.call 133 [x0] H λv3 H1=>opt (aA .add v3 (vi 1)) λv4=>Q v4 H1) (
 opt (dD x1) λv5=>opt (aA .eql v5 (vi 1)) λv6=>ifB v6 (
 opt (eZ x1 (vi 0)) λv7=>E.call 135 [x0,v7] H λv8 H2=>Q v8 H2) (
 lp3 (F.f109_l1 E Q) [x0,x1,vi 0] H))

def F.f111:T0:=λE x0 x1 H Q =>
 E.call 136 [x0,x1] H λv1 H1=>Q v1 H1

def F.f107_j1:T24:=λE Q X0 t0 t2 t3 t8 t9 H =>
 opt (aA .add t3 t8) λv1=>opt (aP 1 t0 v1) λv2=>opt (aC v2 H) λv3=>opt (aA .add t3 t9) λv4=>opt (aP 1 t0 v4) λv5=>opt (aC v5 H) λv6=>E.call 119 [v3,v6] H λv7 H1=>opt (un .not v7) λv8=>ifB v8 (
 Q (.tuple #[]) H1) (
 opt (aA .add t3 t8) λv9=>opt (aA .add t3 t9) λv10=>opt (aA .add t3 t9) λv11=>opt (aP 1 t0 v11) λv12=>opt (aC v12 H1) λv13=>opt (aA .add t3 t8) λv14=>opt (aP 1 t0 v14) λv15=>opt (aC v15 H1) λv16=>opt (aP 1 t0 v9) λv17=>opt (aR v17 v13 H1) λH2=>opt (aP 1 t0 v10) λv18=>opt (aR v18 v16 H2) λH3=>X0 [t0,t2,t3,t9] H3)
def F.f107_l1:T3:=λE Q t0 t2 t3 t8 H X0 =>
 opt (aA .mul (vi 2) t8) λv1=>opt (aA .add v1 (vi 1)) λv2=>opt (aA .geq v2 t2) λv3=>ifB v3 (
 Q (.tuple #[]) H) (
 opt (aA .add v2 (vi 1)) λv4=>opt (aA .lss v4 t2) λv5=>gV v5 true t0 H λv6 H1=>gV v5 true t3 H1 λv7 H2=>gV v5 true v2 H2 λv8 H3=>gO v5 true (aA .add v7 v8) H3 λv9 H4=>gO v5 true (aP 1 v6 v9) H4 λv10 H5=>gO v5 true (aC v10 H5) H5 λv11 H6=>gV v5 true t0 H6 λv12 H7=>gV v5 true t3 H7 λv13 H8=>gV v5 true v2 H8 λv14 H9=>gO v5 true (aA .add v13 v14) H9 λv15 H10=>gO v5 true (aA .add v15 (vi 1)) H10 λv16 H11=>gO v5 true (aP 1 v12 v16) H11 λv17 H12=>gO v5 true (aC v17 H12) H12 λv18 H13=>gd v5 true (λk=>E.call 119 [v11,v18] H13 λv h=>k v h) H13 λv19 H14=>opt (pick v5 v19 (.bool false)) λv20=>ifB v20 (
 opt (aA .add v2 (vi 1)) λv21=>F.f107_j1 E Q X0 t0 t2 t3 t8 v21 H14) (
 F.f107_j1 E Q X0 t0 t2 t3 t8 v2 H14))
def F.f107:T4:=λE x0 x1 x2 x3 H Q =>
 lp4 (F.f107_l1 E Q) [x0,x2,x3,x1] H

def F.f100:T2:=λE x0 H Q =>
 opt (bI .u64 x0) λv1=>E.call 110 [v1] H λv2 H1=>opt (aA .shl (.int .u64 1) v2) λv3=>Q v3 H1

def F.f108:T2:=λE x0 H Q =>
 opt (aF x0) λv1=>opt (aC v1 H) λv2=>opt (aF x0) λv3=>opt (aC v3 H) λv4=>opt (aA .shl v4 (.int .u64 13)) λv5=>opt (aA .xor v2 v5) λv6=>opt (aF x0) λv7=>opt (aR v7 v6 H) λH1=>opt (aF x0) λv8=>opt (aC v8 H1) λv9=>opt (aF x0) λv10=>opt (aC v10 H1) λv11=>opt (aA .shr v11 (.int .u64 7)) λv12=>opt (aA .xor v9 v12) λv13=>opt (aF x0) λv14=>opt (aR v14 v13 H1) λH2=>opt (aF x0) λv15=>opt (aC v15 H2) λv16=>opt (aF x0) λv17=>opt (aC v17 H2) λv18=>opt (aA .shl v18 (.int .u64 17)) λv19=>opt (aA .xor v16 v19) λv20=>opt (aF x0) λv21=>opt (aR v21 v20 H2) λH3=>opt (aF x0) λv22=>opt (aC v22 H3) λv23=>Q v23 H3

def F.f98:T1:=λE x0 x1 x2 H Q =>
 opt (aA .sub x1 (vi 1)) λv1=>opt (aA .add x1 (vi 1)) λv2=>E.call 131 [x0,v1,x1,v2,x2] H λv3 H1=>Q v3 H1

def F.f99:T9:=λE x0 x1 x2 x3 x4 H Q =>
 E.call 137 [x0,x1,x2,x4] H λv1 H1=>opt (ext v1 0) λv2=>opt (ext v1 1) λv3=>E.call 137 [x0,v3,x3,x4] H1 λv4 H2=>opt (ext v4 0) λv5=>opt (ext v4 1) λv6=>E.call 137 [x0,v2,v5,x4] H2 λv7 H3=>opt (ext v7 0) λv8=>opt (ext v7 1) λv9=>Q v9 H3

def F.f1:T2:=λE x0 H Q =>
 opt (aA .neq x0 x0) λv1=>Q v1 H

def F.f28_j1:T22:=λE Q X0 t0 t1 t5 t6 t7 t8 t9 t10 H =>
 opt (aA .add t8 (vi 1)) λv1=>opt (eZ t0 v1) λv2=>opt (aA .eql v2 t7) λv3=>gV v3 true t0 H λv4 H1=>gV v3 true t8 H1 λv5 H2=>gV v3 true t8 H2 λv6 H3=>gV v3 true t5 H3 λv7 H4=>gO v3 true (aA .add v6 v7) H4 λv8 H5=>gO v3 true (jY v4 (some v5) (some v8)) H5 λv9 H6=>gV v3 true t1 H6 λv10 H7=>gO v3 true (cH .eql v9 v10) H7 λv11 H8=>opt (pick v3 v11 (.bool false)) λv12=>ifB v12 (
 Q t8 H8) (
 opt (aA .add t8 (vi 1)) λv13=>opt (aA .add t10 (vi 1)) λv14=>opt (aC (.pointer (some ⟨E.gid 0,0,none⟩)) H8) λv15=>opt (aA .leq t5 v15) λv16=>gV v16 true v14 H8 λv17 H9=>gV v16 true v13 H9 λv18 H10=>gd v16 true (λk=>E.call 141 [v18] H10 λv h=>k v h) H10 λv19 H11=>gO v16 true (aA .gtr v17 v19) H11 λv20 H12=>opt (pick v16 v20 (.bool false)) λv21=>ifB v21 (
 opt (jY t0 (some v13) none) λv22=>E.call 140 [v22,t1] H12 λv23 H13=>opt (aA .geq v23 (vi 0)) λv24=>ifB v24 (
 opt (aA .add v23 v13) λv25=>Q v25 H13) (
 Q (.int .i64 (-1)) H13)) (
 opt (aC (.pointer (some ⟨E.gid 0,0,none⟩)) H12) λv26=>opt (aA .gtr t5 v26) λv27=>gV v27 true v14 H12 λv28 H14=>gV v27 true v13 H14 λv29 H15=>gO v27 true (aA .shr v29 (.int .u64 4)) H15 λv30 H16=>gO v27 true (aA .add (vi 4) v30) H16 λv31 H17=>gO v27 true (aA .geq v28 v31) H17 λv32 H18=>opt (pick v27 v32 (.bool false)) λv33=>gV v33 true v13 H18 λv34 H19=>gV v33 true t9 H19 λv35 H20=>gO v33 true (aA .lss v34 v35) H20 λv36 H21=>opt (pick v33 v36 (.bool false)) λv37=>ifB v37 (
 opt (jY t0 (some v13) none) λv38=>E.call 142 [v38,t1] H21 λv39 H22=>opt (aA .lss v39 (vi 0)) λv40=>ifB v40 (
 Q (.int .i64 (-1)) H22) (
 opt (aA .add v13 v39) λv41=>Q v41 H22)) (
 X0 [t0,t1,t5,t6,t7,v13,t9,v14] H21)))
def F.f28_l1(E:Sy)(Q:VK)(t0 t1 t5 t6 t7 t8 t9 t10:Value)(H:AH)(X0:LK):Prop :=
 opt (aA .lss t8 t9) λv1=>ifB v1 (
 opt (eZ t0 t8) λv2=>opt (aA .neq v2 t6) λv3=>ifB v3 (
 opt (aA .add t8 (vi 1)) λv4=>opt (jY t0 (some v4) (some t9)) λv5=>E.call 139 [v5,t6] H λv6 H1=>opt (aA .lss v6 (vi 0)) λv7=>ifB v7 (
 Q (.int .i64 (-1)) H1) (
 opt (aA .add v6 (vi 1)) λv8=>opt (aA .add t8 v8) λv9=>F.f28_j1 E Q X0 t0 t1 t5 t6 t7 v9 t9 t10 H1)) (
 F.f28_j1 E Q X0 t0 t1 t5 t6 t7 t8 t9 t10 H)) (
 Q (.int .i64 (-1)) H)
def F.f28:T0:=λE x0 x1 H Q =>
 opt (dD x1) λv1=>opt (aA .eql v1 (vi 0)) λv2=>gV v2 false x1 H λv3 H1=>gV v2 false x0 H1 λv4 H2=>gO v2 false (cH .eql v3 v4) H2 λv5 H3=>opt (pick v2 (.bool true) v5) λv6=>ifB v6 (
 Q (vi 0) H3) (
 opt (aA .eql v1 (vi 1)) λv7=>ifB v7 (
 opt (eZ x1 (vi 0)) λv8=>E.call 139 [x0,v8] H3 λv9 H4=>Q v9 H4) (
 opt (dD x0) λv10=>opt (aA .geq v1 v10) λv11=>ifB v11 (
 Q (.int .i64 (-1)) H3) (
 opt (aC (.pointer (some ⟨E.gid 0,0,none⟩)) H3) λv12=>opt (aA .leq v1 v12) λv13=>gV v13 true x0 H3 λv14 H5=>gO v13 true (dD v14) H5 λv15 H6=>gO v13 true (aA .leq v15 (vi 64)) H6 λv16 H7=>opt (pick v13 v16 (.bool false)) λv17=>ifB v17 (
 E.call 140 [x0,x1] H7 λv18 H8=>Q v18 H8) (
 opt (eZ x1 (vi 0)) λv19=>opt (eZ x1 (vi 1)) λv20=>opt (dD x0) λv21=>opt (aA .sub v21 v1) λv22=>opt (aA .add v22 (vi 1)) λv23=>lp8 (F.f28_l1 E Q) [x0,x1,v1,v19,v20,vi 0,v23,vi 0] H7))))

def F.f101:T4:=λE x0 x1 x2 x3 H Q =>
 opt (aP 1 x0 x2) λv1=>opt (aC v1 H) λv2=>opt (aP 1 x0 x1) λv3=>opt (aC v3 H) λv4=>E.call 119 [v2,v4] H λv5 H1=>ifB v5 (
 opt (aF x3) λv6=>opt (aC v6 H1) λv7=>opt (aA .add v7 (vi 1)) λv8=>opt (aF x3) λv9=>opt (aR v9 v8 H1) λH2=>Q (.tuple #[x2,x1]) H2) (
 Q (.tuple #[x1,x2]) H1)

def F.f29:T0:=λE x0 x1 H Q =>
 E.call 143 [x0,x1] H λv1 H1=>Q v1 H1
structure bF(E:Sy):Prop where
  mono:aDD E.call
  f54:G2 E.call 3 (F.f54 E)
  f53:G0 E.call 4 (F.f53 E)
  f49:G1 E.call 5 (F.f49 E)
  f48:G1 E.call 6 (F.f48 E)
  f59:G0 E.call 7 (F.f59 E)
  f51:G2 E.call 8 (F.f51 E)
  f44:G0 E.call 10 (F.f44 E)
  f127:G3 E.call 9 (F.f127 E)
  f68:G3 E.call 11 (F.f68 E)
  f70:G3 E.call 12 (F.f70 E)
  f47:G1 E.call 13 (F.f47 E)
  f131:G4 E.call 14 (F.f131 E)
  f66:G4 E.call 15 (F.f66 E)
  f122:G4 E.call 16 (F.f122 E)
  f71:G5 E.call 17 (F.f71 E)
  f76:G2 E.call 18 (F.f76 E)
  f65:G4 E.call 19 (F.f65 E)
  f124:G3 E.call 20 (F.f124 E)
  f60:G4 E.call 21 (F.f60 E)
  f121:G3 E.call 22 (F.f121 E)
  f72:G5 E.call 23 (F.f72 E)
  f125:G3 E.call 24 (F.f125 E)
  f63:G2 E.call 25 (F.f63 E)
  f73:G2 E.call 26 (F.f73 E)
  f61:G3 E.call 27 (F.f61 E)
  f120:G3 E.call 28 (F.f120 E)
  f55:G5 E.call 29 (F.f55 E)
  f126:G1 E.call 30 (F.f126 E)
  f129:G1 E.call 31 (F.f129 E)
  f57:G1 E.call 32 (F.f57 E)
  f50:G3 E.call 33 (F.f50 E)
  f132:G3 E.call 34 (F.f132 E)
  f10:G3 E.call 35 (F.f10 E)
  f79:G3 E.call 36 (F.f79 E)
  f84:G3 E.call 37 (F.f84 E)
  f56:G1 E.call 38 (F.f56 E)
  f81:G2 E.call 39 (F.f81 E)
  f87:G2 E.call 40 (F.f87 E)
  f134:G3 E.call 41 (F.f134 E)
  f110:G2 E.call 42 (F.f110 E)
  f138:G2 E.call 43 (F.f138 E)
  f8:G2 E.call 44 (F.f8 E)
  f130:G2 E.call 45 (F.f130 E)
  f11:G5 E.call 46 (F.f11 E)
  f83:G3 E.call 47 (F.f83 E)
  f69:G1 E.call 48 (F.f69 E)
  f80:G2 E.call 49 (F.f80 E)
  f88:G2 E.call 50 (F.f88 E)
  f89:G2 E.call 51 (F.f89 E)
  f86:G2 E.call 52 (F.f86 E)
  f40:G2 E.call 53 (F.f40 E)
  f7:G4 E.call 54 (F.f7 E)
  f5:G4 E.call 55 (F.f5 E)
  f77:G3 E.call 56 (F.f77 E)
  f85:G2 E.call 57 (F.f85 E)
  f12:G5 E.call 58 (F.f12 E)
  f82:G2 E.call 59 (F.f82 E)
  f74:G2 E.call 60 (F.f74 E)
  f34:G3 E.call 61 (F.f34 E)
  f123:G4 E.call 62 (F.f123 E)
  f128:G2 E.call 63 (F.f128 E)
  f13:G1 E.call 64 (F.f13 E)
  f2:G1 E.call 65 (F.f2 E)
  f14:G3 E.call 66 (F.f14 E)
  f37:G1 E.call 67 (F.f37 E)
  f4:G1 E.call 68 (F.f4 E)
  f33:G0 E.call 69 (F.f33 E)
  f52:G0 E.call 70 (F.f52 E)
  f45:G3 E.call 71 (F.f45 E)
  f9:G3 E.call 72 (F.f9 E)
  f67:G3 E.call 73 (F.f67 E)
  f17:G2 E.call 74 (F.f17 E)
  f58:G1 E.call 75 (F.f58 E)
  f75:G2 E.call 76 (F.f75 E)
  f135:G1 E.call 77 (F.f135 E)
  f38:G2 E.call 78 (F.f38 E)
  f136:G1 E.call 79 (F.f136 E)
  f27:G2 E.call 80 (F.f27 E)
  f133:G2 E.call 81 (F.f133 E)
  f137:G2 E.call 82 (F.f137 E)
  f36:G2 E.call 83 (F.f36 E)
  f19:G3 E.call 84 (F.f19 E)
  f16:G2 E.call 85 (F.f16 E)
  f118:G2 E.call 86 (F.f118 E)
  f41:G2 E.call 88 (F.f41 E)
  f91:G2 E.call 87 (F.f91 E)
  f21:G2 E.call 89 (F.f21 E)
  f18:G6 E.call 90 (F.f18 E)
  f42:G2 E.call 91 (F.f42 E)
  f93:G1 E.call 92 (F.f93 E)
  f112:G2 E.call 93 (F.f112 E)
  f3:G1 E.call 94 (F.f3 E)
  f90:G1 E.call 95 (F.f90 E)
  f46:G0 E.call 96 (F.f46 E)
  f15:G4 E.call 97 (F.f15 E)
  f78:G4 E.call 98 (F.f78 E)
  f6:G3 E.call 99 (F.f6 E)
  f62:G3 E.call 100 (F.f62 E)
  f64:G2 E.call 101 (F.f64 E)
  f39:G2 E.call 103 (F.f39 E)
  f92:G2 E.call 102 (F.f92 E)
  f113:G2 E.call 104 (F.f113 E)
  f35:G2 E.call 105 (F.f35 E)
  f20:G2 E.call 107 (F.f20 E)
  f43:G2 E.call 108 (F.f43 E)
  f30:G1 E.call 110 (F.f30 E)
  f105:G4 E.call 109 (F.f105 E)
  f116:G3 E.call 111 (F.f116 E)
  f115:G4 E.call 112 (F.f115 E)
  f32:G1 E.call 123 (F.f32 E)
  f97:G3 E.call 113 (F.f97 E)
  f96:G3 E.call 114 (F.f96 E)
  f94:G3 E.call 115 (F.f94 E)
  f95:G3 E.call 116 (F.f95 E)
  f106:G3 E.call 117 (F.f106 E)
  f102:G3 E.call 118 (F.f102 E)
  f0:G2 E.call 119 (F.f0 E)
  f103:G4 E.call 120 (F.f103 E)
  f104:G4 E.call 121 (F.f104 E)
  f109:G2 E.call 125 (F.f109 E)
  f111:G2 E.call 126 (F.f111 E)
  f107:G4 E.call 127 (F.f107 E)
  f100:G1 E.call 128 (F.f100 E)
  f108:G1 E.call 129 (F.f108 E)
  f98:G3 E.call 130 (F.f98 E)
  f99:G5 E.call 131 (F.f99 E)
  f1:G1 E.call 132 (F.f1 E)
  f28:G2 E.call 136 (F.f28 E)
  f101:G4 E.call 137 (F.f101 E)
  f29:G2 E.call 139 (F.f29 E)
  f117:∀ x0 x1 H Q,nR x0 x1 H Q->E.call 106 [x0,x1] H Q
  f22:∀ x0 x1 H Q,qT x0 x1 H Q->E.call 135 [x0,x1] H Q
  f24:∀ x0 x1 H Q,qO x0 x1 H Q->E.call 143 [x0,x1] H Q
end Go.AM
