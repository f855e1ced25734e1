/- THE FUNCTIONS, AS THE ABSTRACT MACHINE SEES THEM: written by program (gen2.py). -/
import Derived.Test.YtgeenpollgalkaaGreatS3068A1
set_option linter.all false
set_option linter.unusedVariables false
namespace Go.AM
abbrev LK:=List Value->AH->Prop
abbrev VK:=Value->AH->Prop
def i.f30:Nat:=68
def i.f33:Nat:=69
def i.f31:Nat:=71
def i.f50:Nat:=78
def i.f39:Nat:=79
def i.f61:Nat:=81
def i.f32:Nat:=84
def i.f52:Nat:=85
def i.f34:Nat:=88
def i.f73:Nat:=89
def i.f35:Nat:=90
def i.f66:Nat:=95
def i.f36:Nat:=97
def i.f8:Nat:=100
def i.f16:Nat:=101
def i.f14:Nat:=102
def i.f11:Nat:=103
def i.f13:Nat:=104
def i.f20:Nat:=105
def i.f17:Nat:=107
def i.f9:Nat:=108
def i.f58:Nat:=110
def i.f12:Nat:=111
def i.f6:Nat:=112
def i.f49:Nat:=113
def i.f56:Nat:=115
def i.f19:Nat:=116
def i.f62:Nat:=117
def i.f59:Nat:=118
def i.f15:Nat:=121
def i.f18:Nat:=123
def i.f10:Nat:=125
def i.f37:Nat:=128
def i.f24:Nat:=130
def i.f21:Nat:=131
def i.f114:Nat:=132
def i.f26:Nat:=133
def i.f22:Nat:=134
def i.f23:Nat:=135
def i.f67:Nat:=136
def i.f64:Nat:=137
def i.f71:Nat:=138
def i.f7:Nat:=139
def i.f111:Nat:=140
def i.f60:Nat:=141
def i.f57:Nat:=142
def i.f65:Nat:=143
def i.f70:Nat:=144
def i.f68:Nat:=145
def i.f72:Nat:=146
def i.f54:Nat:=147
def i.f38:Nat:=149
def i.f51:Nat:=150
def i.f55:Nat:=151
def i.f63:Nat:=152
def i.f53:Nat:=153
def i.f113:Nat:=154
def i.f25:Nat:=155
def i.f75:Nat:=156
def i.f27:Nat:=157
def i.f98:Nat:=158
def i.f112:Nat:=159
def i.f69:Nat:=160
def i.f74:Nat:=161
def i.f97:Nat:=162
def i.f28:Nat:=164
def i.f29:Nat:=165
def i.f83:Nat:=166
def i.f81:Nat:=167
def i.f79:Nat:=168
def i.f3:Nat:=169
def i.f94:Nat:=170
def i.f96:Nat:=171
def i.f92:Nat:=172
def i.f100:Nat:=173
def i.f77:Nat:=174
def i.f82:Nat:=175
def i.f80:Nat:=176
def i.f78:Nat:=177
def i.f2:Nat:=178
def i.f93:Nat:=179
def i.f95:Nat:=180
def i.f91:Nat:=181
def i.f99:Nat:=182
def i.f76:Nat:=183
def i.f102:Nat:=184
def i.f88:Nat:=185
def i.f103:Nat:=186
def i.f87:Nat:=187
def i.f85:Nat:=188
def i.f5:Nat:=189
def i.f101:Nat:=190
def i.f86:Nat:=191
def i.f84:Nat:=192
def i.f4:Nat:=193
def i.f90:Nat:=194
def i.f89:Nat:=195
def i.f115:Nat:=198
def i.f116:Nat:=239
def i.f117:Nat:=245
def i.f44:Nat:=273
def i.f41:Nat:=274
def i.f40:Nat:=275
def i.f107:Nat:=276
def i.f42:Nat:=277
def i.f106:Nat:=278
def i.f47:Nat:=281
def i.f45:Nat:=282
def i.f46:Nat:=283
def i.f104:Nat:=284
def i.f48:Nat:=285
def i.f105:Nat:=288
def i.f43:Nat:=290
def i.f109:Nat:=291
def i.f110:Nat:=292
def i.f108:Nat:=294
def i.f0:Nat:=295
def i.f1:Nat:=296
def F.f45_l2 (E:Sy) (Q:VK) (X0:LK) (t6 t7 t8 t9 t10 t11 t12 t14 t15 t16 t17 t18 t61 t62:Value) (H:AH) (X1:LK):Prop :=
 opt (aC t14 2) fun v1=>opt (aB v1 H) fun v2=>opt (lenSlc v2) fun v3=>opt (aA .lss t17 v3) fun v4=>gd v4 false (fun k=>k t18 H) H fun v5 H1=>gd v4 false (fun k=>opt (aC t15 2) fun v=>k v H1) H1 fun v6 H2=>gd v4 false (fun k=>opt (aB v6 H2) fun v=>k v H2) H2 fun v7 H3=>gd v4 false (fun k=>opt (lenSlc v7) fun v=>k v H3) H3 fun v8 H4=>gd v4 false (fun k=>opt (aA .lss v5 v8) fun v=>k v H4) H4 fun v9 H5=>opt (pick v4 (.bool true) v9) fun v10=>ifB v10 (
 opt (aC t15 2) fun v11=>opt (aB v11 H5) fun v12=>opt (lenSlc v12) fun v13=>opt (aA .eql t18 v13) fun v14=>gd v14 false (fun k=>k t17 H5) H5 fun v15 H6=>gd v14 false (fun k=>opt (aC t14 2) fun v=>k v H6) H6 fun v16 H7=>gd v14 false (fun k=>opt (aB v16 H7) fun v=>k v H7) H7 fun v17 H8=>gd v14 false (fun k=>opt (lenSlc v17) fun v=>k v H8) H8 fun v18 H9=>gd v14 false (fun k=>opt (aA .lss v15 v18) fun v=>k v H9) H9 fun v19 H10=>gd v14 false (fun k=>k v19 H10) H10 fun v20 H11=>gd v20 true (fun k=>opt (aC t14 2) fun v=>k v H11) H11 fun v21 H12=>gd v20 true (fun k=>opt (aB v21 H12) fun v=>k v H12) H12 fun v22 H13=>gd v20 true (fun k=>k t17 H13) H13 fun v23 H14=>gd v20 true (fun k=>opt (aG 2 v22 v23) fun v=>k v H14) H14 fun v24 H15=>gd v20 true (fun k=>opt (aC v24 0) fun v=>k v H15) H15 fun v25 H16=>gd v20 true (fun k=>opt (aB v25 H16) fun v=>k v H16) H16 fun v26 H17=>gd v20 true (fun k=>opt (aC t15 2) fun v=>k v H17) H17 fun v27 H18=>gd v20 true (fun k=>opt (aB v27 H18) fun v=>k v H18) H18 fun v28 H19=>gd v20 true (fun k=>k t18 H19) H19 fun v29 H20=>gd v20 true (fun k=>opt (aG 2 v28 v29) fun v=>k v H20) H20 fun v30 H21=>gd v20 true (fun k=>opt (aC v30 0) fun v=>k v H21) H21 fun v31 H22=>gd v20 true (fun k=>opt (aB v31 H22) fun v=>k v H22) H22 fun v32 H23=>gd v20 true (fun k=>opt (cE .lss v26 v32) fun v=>k v H23) H23 fun v33 H24=>gd v14 false (fun k=>opt (pick v20 v33 (.bool false)) fun v=>k v H24) H24 fun v34 H25=>opt (pick v14 (.bool true) v34) fun v35=>ifB v35 (
 opt (aC t14 2) fun v36=>opt (aB v36 H25) fun v37=>opt (aG 2 v37 t17) fun v38=>opt (aC v38 0) fun v39=>opt (aB v39 H25) fun v40=>opt (aC t14 2) fun v41=>opt (aB v41 H25) fun v42=>opt (aG 2 v42 t17) fun v43=>opt (aC v43 1) fun v44=>opt (aB v44 H25) fun v45=>opt (bC .u16 v45) fun v46=>opt (bR [(0,1),(1,1),(2,1),(3,1),(4,1)] #[(.int .u8 0),(.int .u16 0),(.string ⟨#[]⟩),(.int .u16 0),(.int .u16 0)] [(0,(.int .u8 5)),(1,t16),(2,v40),(3,v46)]) fun v47=>jJ E.call t12 [v47] H25 fun v48 H26=>opt (un .not v48) fun v49=>ifB v49 (
 Q (.bool false) H26) (
 opt (aA .add t17 (.int .i64 1)) fun v50=>X1 [t6,t7,t8,t9,t10,t11,t12,t14,t15,t16,v50,t18,t61,t62] H26)) (
 opt (aC t14 2) fun v51=>opt (aB v51 H25) fun v52=>opt (lenSlc v52) fun v53=>opt (aA .eql t17 v53) fun v54=>gd v54 false (fun k=>opt (aC t15 2) fun v=>k v H25) H25 fun v55 H27=>gd v54 false (fun k=>opt (aB v55 H27) fun v=>k v H27) H27 fun v56 H28=>gd v54 false (fun k=>k t18 H28) H28 fun v57 H29=>gd v54 false (fun k=>opt (aG 2 v56 v57) fun v=>k v H29) H29 fun v58 H30=>gd v54 false (fun k=>opt (aC v58 0) fun v=>k v H30) H30 fun v59 H31=>gd v54 false (fun k=>opt (aB v59 H31) fun v=>k v H31) H31 fun v60 H32=>gd v54 false (fun k=>opt (aC t14 2) fun v=>k v H32) H32 fun v61 H33=>gd v54 false (fun k=>opt (aB v61 H33) fun v=>k v H33) H33 fun v62 H34=>gd v54 false (fun k=>k t17 H34) H34 fun v63 H35=>gd v54 false (fun k=>opt (aG 2 v62 v63) fun v=>k v H35) H35 fun v64 H36=>gd v54 false (fun k=>opt (aC v64 0) fun v=>k v H36) H36 fun v65 H37=>gd v54 false (fun k=>opt (aB v65 H37) fun v=>k v H37) H37 fun v66 H38=>gd v54 false (fun k=>opt (cE .lss v60 v66) fun v=>k v H38) H38 fun v67 H39=>opt (pick v54 (.bool true) v67) fun v68=>ifB v68 (
 opt (aC t15 2) fun v69=>opt (aB v69 H39) fun v70=>opt (aG 2 v70 t18) fun v71=>opt (aC v71 0) fun v72=>opt (aB v72 H39) fun v73=>opt (aC t15 2) fun v74=>opt (aB v74 H39) fun v75=>opt (aG 2 v75 t18) fun v76=>opt (aC v76 1) fun v77=>opt (aB v77 H39) fun v78=>opt (bC .u16 v78) fun v79=>opt (bR [(0,1),(1,1),(2,1),(3,1),(4,1)] #[(.int .u8 0),(.int .u16 0),(.string ⟨#[]⟩),(.int .u16 0),(.int .u16 0)] [(0,(.int .u8 4)),(1,t16),(2,v73),(4,v79)]) fun v80=>jJ E.call t12 [v80] H39 fun v81 H40=>opt (un .not v81) fun v82=>ifB v82 (
 Q (.bool false) H40) (
 opt (aA .add t18 (.int .i64 1)) fun v83=>X1 [t6,t7,t8,t9,t10,t11,t12,t14,t15,t16,t17,v83,t61,t62] H40)) (
 opt (aC t14 2) fun v84=>opt (aB v84 H39) fun v85=>opt (aG 2 v85 t17) fun v86=>opt (aC v86 1) fun v87=>opt (aB v87 H39) fun v88=>opt (aC t15 2) fun v89=>opt (aB v89 H39) fun v90=>opt (aG 2 v90 t18) fun v91=>opt (aC v91 1) fun v92=>opt (aB v92 H39) fun v93=>opt (aA .neq v88 v93) fun v94=>gd v94 true (fun k=>k t12 H39) H39 fun v95 H41=>gd v94 true (fun k=>k t16 H41) H41 fun v96 H42=>gd v94 true (fun k=>opt (aC t15 2) fun v=>k v H42) H42 fun v97 H43=>gd v94 true (fun k=>opt (aB v97 H43) fun v=>k v H43) H43 fun v98 H44=>gd v94 true (fun k=>k t18 H44) H44 fun v99 H45=>gd v94 true (fun k=>opt (aG 2 v98 v99) fun v=>k v H45) H45 fun v100 H46=>gd v94 true (fun k=>opt (aC v100 0) fun v=>k v H46) H46 fun v101 H47=>gd v94 true (fun k=>opt (aB v101 H47) fun v=>k v H47) H47 fun v102 H48=>gd v94 true (fun k=>opt (aC t14 2) fun v=>k v H48) H48 fun v103 H49=>gd v94 true (fun k=>opt (aB v103 H49) fun v=>k v H49) H49 fun v104 H50=>gd v94 true (fun k=>k t17 H50) H50 fun v105 H51=>gd v94 true (fun k=>opt (aG 2 v104 v105) fun v=>k v H51) H51 fun v106 H52=>gd v94 true (fun k=>opt (aC v106 1) fun v=>k v H52) H52 fun v107 H53=>gd v94 true (fun k=>opt (aB v107 H53) fun v=>k v H53) H53 fun v108 H54=>gd v94 true (fun k=>opt (bC .u16 v108) fun v=>k v H54) H54 fun v109 H55=>gd v94 true (fun k=>opt (aC t15 2) fun v=>k v H55) H55 fun v110 H56=>gd v94 true (fun k=>opt (aB v110 H56) fun v=>k v H56) H56 fun v111 H57=>gd v94 true (fun k=>k t18 H57) H57 fun v112 H58=>gd v94 true (fun k=>opt (aG 2 v111 v112) fun v=>k v H58) H58 fun v113 H59=>gd v94 true (fun k=>opt (aC v113 1) fun v=>k v H59) H59 fun v114 H60=>gd v94 true (fun k=>opt (aB v114 H60) fun v=>k v H60) H60 fun v115 H61=>gd v94 true (fun k=>opt (bC .u16 v115) fun v=>k v H61) H61 fun v116 H62=>gd v94 true (fun k=>opt (bR [(0,1),(1,1),(2,1),(3,1),(4,1)] #[(.int .u8 0),(.int .u16 0),(.string ⟨#[]⟩),(.int .u16 0),(.int .u16 0)] [(0,(.int .u8 6)),(1,v96),(2,v102),(3,v109),(4,v116)]) fun v=>k v H62) H62 fun v117 H63=>gd v94 true (fun k=>jJ E.call v95 [v117] H63 fun v h=>k v h) H63 fun v118 H64=>gd v94 true (fun k=>opt (un .not v118) fun v=>k v H64) H64 fun v119 H65=>opt (pick v94 v119 (.bool false)) fun v120=>ifB v120 (
 Q (.bool false) H65) (
 opt (aA .add t17 (.int .i64 1)) fun v121=>opt (aA .add t18 (.int .i64 1)) fun v122=>X1 [t6,t7,t8,t9,t10,t11,t12,t14,t15,t16,v121,v122,t61,t62] H65)))) (
 opt (aA .add t62 (.int .i64 1)) fun v123=>X0 [t6,t7,t8,t9,t10,t11,t12,t61,v123] H5)
def F.f45_j3 (E:Sy) (Q:VK) (X0:LK) (t6 t7 t8 t9 t10 t11 t12 t14 t15 t16 t61 t62:Value) (H:AH):Prop :=
 opt (aC t14 0) fun v1=>opt (aB v1 H) fun v2=>opt (aC t15 0) fun v3=>opt (aB v3 H) fun v4=>opt (aA .neq v2 v4) fun v5=>ifB v5 (
 opt (aA .add t62 (.int .i64 1)) fun v6=>X0 [t6,t7,t8,t9,t10,t11,t12,t61,v6] H) (
 aO (fun l H X1=>F.f45_l2 E Q X0 (nth l 0) (nth l 1) (nth l 2) (nth l 3) (nth l 4) (nth l 5) (nth l 6) (nth l 7) (nth l 8) (nth l 9) (nth l 10) (nth l 11) (nth l 12) (nth l 13) H X1) [t6,t7,t8,t9,t10,t11,t12,t14,t15,t16,(.int .i64 0),(.int .i64 0),t61,t62] H)
def F.f45_j2 (E:Sy) (Q:VK) (X0:LK) (t6 t7 t8 t9 t10 t11 t12 t13 t14 t15 t61 t62:Value) (H:AH):Prop :=
 opt (bC .u16 t13) fun v1=>opt (aC t14 0) fun v2=>opt (aB v2 H) fun v3=>opt (aA .eql v3 (.int .i64 0)) fun v4=>gd v4 true (fun k=>opt (aC t15 0) fun v=>k v H) H fun v5 H1=>gd v4 true (fun k=>opt (aB v5 H1) fun v=>k v H1) H1 fun v6 H2=>gd v4 true (fun k=>opt (aA .eql v6 (.int .i64 0)) fun v=>k v H2) H2 fun v7 H3=>opt (pick v4 v7 (.bool false)) fun v8=>ifB v8 (
 opt (aA .add t62 (.int .i64 1)) fun v9=>X0 [t6,t7,t8,t9,t10,t11,t12,t61,v9] H3) (
 opt (aC t15 0) fun v10=>opt (aB v10 H3) fun v11=>opt (aA .eql v11 (.int .i64 0)) fun v12=>ifB v12 (
 opt (bR [(0,1),(1,1),(2,1),(3,1),(4,1)] #[(.int .u8 0),(.int .u16 0),(.string ⟨#[]⟩),(.int .u16 0),(.int .u16 0)] [(0,(.int .u8 2)),(1,v1)]) fun v13=>jJ E.call t12 [v13] H3 fun v14 H4=>opt (un .not v14) fun v15=>ifB v15 (
 Q (.bool false) H4) (
 opt (aA .add t62 (.int .i64 1)) fun v16=>X0 [t6,t7,t8,t9,t10,t11,t12,t61,v16] H4)) (
 opt (aC t14 0) fun v17=>opt (aB v17 H3) fun v18=>opt (aA .eql v18 (.int .i64 0)) fun v19=>ifB v19 (
 opt (bR [(0,1),(1,1),(2,1),(3,1),(4,1)] #[(.int .u8 0),(.int .u16 0),(.string ⟨#[]⟩),(.int .u16 0),(.int .u16 0)] [(0,(.int .u8 1)),(1,v1)]) fun v20=>jJ E.call t12 [v20] H3 fun v21 H5=>opt (un .not v21) fun v22=>ifB v22 (
 Q (.bool false) H5) (
 opt (aA .add t62 (.int .i64 1)) fun v23=>X0 [t6,t7,t8,t9,t10,t11,t12,t61,v23] H5)) (
 opt (aC t14 0) fun v24=>opt (aB v24 H3) fun v25=>opt (aC t15 0) fun v26=>opt (aB v26 H3) fun v27=>opt (aA .neq v25 v27) fun v28=>gd v28 false (fun k=>opt (aC t14 1) fun v=>k v H3) H3 fun v29 H6=>gd v28 false (fun k=>opt (aB v29 H6) fun v=>k v H6) H6 fun v30 H7=>gd v28 false (fun k=>opt (oN v30 H7) fun v=>k v H7) H7 fun v31 H8=>gd v28 false (fun k=>opt (aC t14 4) fun v=>k v H8) H8 fun v32 H9=>gd v28 false (fun k=>opt (aB v32 H9) fun v=>k v H9) H9 fun v33 H10=>gd v28 false (fun k=>opt (cE .add v31 v33) fun v=>k v H10) H10 fun v34 H11=>gd v28 false (fun k=>opt (aC t15 1) fun v=>k v H11) H11 fun v35 H12=>gd v28 false (fun k=>opt (aB v35 H12) fun v=>k v H12) H12 fun v36 H13=>gd v28 false (fun k=>opt (oN v36 H13) fun v=>k v H13) H13 fun v37 H14=>gd v28 false (fun k=>opt (aC t15 4) fun v=>k v H14) H14 fun v38 H15=>gd v28 false (fun k=>opt (aB v38 H15) fun v=>k v H15) H15 fun v39 H16=>gd v28 false (fun k=>opt (cE .add v37 v39) fun v=>k v H16) H16 fun v40 H17=>gd v28 false (fun k=>opt (cE .neq v34 v40) fun v=>k v H17) H17 fun v41 H18=>opt (pick v28 (.bool true) v41) fun v42=>ifB v42 (
 opt (bR [(0,1),(1,1),(2,1),(3,1),(4,1)] #[(.int .u8 0),(.int .u16 0),(.string ⟨#[]⟩),(.int .u16 0),(.int .u16 0)] [(0,(.int .u8 3)),(1,v1)]) fun v43=>jJ E.call t12 [v43] H18 fun v44 H19=>opt (un .not v44) fun v45=>ifB v45 (
 Q (.bool false) H19) (
 F.f45_j3 E Q X0 t6 t7 t8 t9 t10 t11 t12 t14 t15 v1 t61 t62 H19)) (
 F.f45_j3 E Q X0 t6 t7 t8 t9 t10 t11 t12 t14 t15 v1 t61 t62 H18))))
def F.f45_j1 (E:Sy) (Q:VK) (X0:LK) (t6 t7 t8 t9 t10 t11 t12 t13 t14 t15 t61 t62:Value) (H:AH):Prop :=
 opt (aH t6) fun v1=>opt (aC v1 0) fun v2=>opt (aB v2 H) fun v3=>opt (lenSlc v3) fun v4=>opt (aA .lss t13 v4) fun v5=>ifB v5 (
 opt (aH t6) fun v6=>opt (aC v6 0) fun v7=>opt (aB v7 H) fun v8=>opt (aG 7 v8 t13) fun v9=>opt (bM 7 v9 H) fun v10=>opt (storeN 7 t15 v10 H) fun H1=>F.f45_j2 E Q X0 t6 t7 t8 t9 t10 t11 t12 t13 t14 t15 t61 t62 H1) (
 F.f45_j2 E Q X0 t6 t7 t8 t9 t10 t11 t12 t13 t14 t15 t61 t62 H)
def F.f45_l4 (E:Sy) (Q:VK) (X0:LK) (t6 t21 t313 t370:Value) (H:AH) (X1:LK):Prop :=
 mX t370 H fun v1 H1=>opt (ext v1 0) fun v2=>ifB v2 (
 opt (lN t370 H1) fun v3=>opt (ext v3 0) fun v4=>opt (ext v3 1) fun v5=>opt (aH t6) fun v6=>opt (aC v6 0) fun v7=>opt (aB v7 H1) fun v8=>opt (aG 7 v8 t21) fun v9=>opt (aC v9 2) fun v10=>opt (aB v10 H1) fun v11=>E.call (E.fid i.f48) [v11,v4] H1 fun v12 H2=>opt (bC .i64 v5) fun v13=>opt (aA .neq v12 v13) fun v14=>ifB v14 (
 Q (.bool false) H2) (
 X1 [t6,t21,t313,t370] H2)) (
 X0 [t6,t313] H1)
def F.f45_l3 (E:Sy) (Q:VK) (t6 t313:Value) (H:AH) (X0:LK):Prop :=
 mX t313 H fun v1 H1=>opt (ext v1 0) fun v2=>ifB v2 (
 opt (lN t313 H1) fun v3=>opt (ext v3 0) fun v4=>opt (ext v3 1) fun v5=>opt (bC .i64 v4) fun v6=>opt (aH t6) fun v7=>opt (aC v7 0) fun v8=>opt (aB v8 H1) fun v9=>opt (lenSlc v9) fun v10=>opt (aA .geq v6 v10) fun v11=>gd v11 false (fun k=>k t6 H1) H1 fun v12 H2=>gd v11 false (fun k=>opt (aH v12) fun v=>k v H2) H2 fun v13 H3=>gd v11 false (fun k=>opt (aC v13 0) fun v=>k v H3) H3 fun v14 H4=>gd v11 false (fun k=>opt (aB v14 H4) fun v=>k v H4) H4 fun v15 H5=>gd v11 false (fun k=>k v4 H5) H5 fun v16 H6=>gd v11 false (fun k=>opt (aG 7 v15 v16) fun v=>k v H6) H6 fun v17 H7=>gd v11 false (fun k=>opt (aC v17 0) fun v=>k v H7) H7 fun v18 H8=>gd v11 false (fun k=>opt (aB v18 H8) fun v=>k v H8) H8 fun v19 H9=>gd v11 false (fun k=>opt (aA .neq v19 (.int .i64 2)) fun v=>k v H9) H9 fun v20 H10=>opt (pick v11 (.bool true) v20) fun v21=>ifB v21 (
 opt (bC .i64 v4) fun v22=>opt (aH t6) fun v23=>opt (aC v23 0) fun v24=>opt (aB v24 H10) fun v25=>opt (lenSlc v25) fun v26=>opt (aA .lss v22 v26) fun v27=>gd v27 true (fun k=>k t6 H10) H10 fun v28 H11=>gd v27 true (fun k=>opt (aH v28) fun v=>k v H11) H11 fun v29 H12=>gd v27 true (fun k=>opt (aC v29 0) fun v=>k v H12) H12 fun v30 H13=>gd v27 true (fun k=>opt (aB v30 H13) fun v=>k v H13) H13 fun v31 H14=>gd v27 true (fun k=>k v4 H14) H14 fun v32 H15=>gd v27 true (fun k=>opt (aG 7 v31 v32) fun v=>k v H15) H15 fun v33 H16=>gd v27 true (fun k=>opt (aC v33 0) fun v=>k v H16) H16 fun v34 H17=>gd v27 true (fun k=>opt (aB v34 H17) fun v=>k v H17) H17 fun v35 H18=>gd v27 true (fun k=>opt (aA .neq v35 (.int .i64 0)) fun v=>k v H18) H18 fun v36 H19=>opt (pick v27 v36 (.bool false)) fun v37=>ifB v37 (
 X0 [t6,t313] H19) (
 Q (.bool false) H19)) (
 opt (iB v5 H10) fun v38=>opt (aH t6) fun v39=>opt (aC v39 0) fun v40=>opt (aB v40 H10) fun v41=>opt (aG 7 v41 v4) fun v42=>opt (aC v42 2) fun v43=>opt (aB v43 H10) fun v44=>opt (lenSlc v44) fun v45=>opt (aA .neq v38 v45) fun v46=>ifB v46 (
 Q (.bool false) H10) (
 mk (mO v5 H10) H10 fun v47 H20=>aO (fun l H X1=>F.f45_l4 E Q X0 (nth l 0) (nth l 1) (nth l 2) (nth l 3) H X1) [t6,v4,t313,v47] H20))) (
 Q (.bool true) H1)
def F.f45_l1 (E:Sy) (Q:VK) (t6 t7 t8 t9 t10 t11 t12 t61 t62:Value) (H:AH) (X0:LK):Prop :=
 opt (aA .lss t62 t61) fun v1=>ifB v1 (
 eH [(.int .i64 0),(.slice none 0 0),(.slice none 0 0),(.int .i64 0),(.string ⟨#[]⟩),(.int .i64 0),(.int .i64 0)] H fun v2 H1=>eH [(.int .i64 0),(.slice none 0 0),(.slice none 0 0),(.int .i64 0),(.string ⟨#[]⟩),(.int .i64 0),(.int .i64 0)] H1 fun v3 H2=>opt (lenSlc t8) fun v4=>opt (aA .lss t62 v4) fun v5=>ifB v5 (
 opt (aG 7 t8 t62) fun v6=>opt (bM 7 v6 H2) fun v7=>opt (storeN 7 v2 v7 H2) fun H3=>F.f45_j1 E Q X0 t6 t7 t8 t9 t10 t11 t12 t62 v2 v3 t61 t62 H3) (
 F.f45_j1 E Q X0 t6 t7 t8 t9 t10 t11 t12 t62 v2 v3 t61 t62 H2)) (
 opt (aB t11 H) fun v8=>opt (aB t10 H) fun v9=>opt (lenSlc v9) fun v10=>opt (aA .neq v8 v10) fun v11=>gd v11 false (fun k=>opt (bM 1 t9 H) fun v=>k v H) H fun v12 H4=>gd v11 false (fun k=>opt (bM 1 t9 H4) fun v=>k v H4) H4 fun v13 H5=>gd v11 false (fun k=>E.call (E.fid i.f106) [v12,v13] H5 fun v h=>k v h) H5 fun v14 H6=>gd v11 false (fun k=>opt (lenSlc v14) fun v=>k v H6) H6 fun v15 H7=>gd v11 false (fun k=>opt (aA .neq v15 (.int .i64 0)) fun v=>k v H7) H7 fun v16 H8=>opt (pick v11 (.bool true) v16) fun v17=>ifB v17 (
 Q (.bool false) H8) (
 opt (bM 1 t7 H8) fun v18=>opt (aB t10 H8) fun v19=>E.call (E.fid i.f104) [v18,v19] H8 fun v20 H9=>opt (ext v20 0) fun v21=>opt (ext v20 1) fun v22=>opt (aA .neq v22 (.int .i64 0)) fun v23=>ifB v23 (
 Q (.bool false) H9) (
 mk (mO v21 H9) H9 fun v24 H10=>aO (fun l H X0=>F.f45_l3 E Q (nth l 0) (nth l 1) H X0) [t6,v24] H10)))
def F.f45 (E:Sy) (x0 x1:Value) (H:AH) (Q:VK):Prop :=
 E.call (E.fid i.f44) [] H fun v1 H1=>opt (un .not v1) fun v2=>ifB v2 (
 Q (.bool false) H1) (
 E.call (E.fid i.f41) [x0] H1 fun v3 H2=>opt (un .not v3) fun v4=>gd v4 false (fun k=>k x1 H2) H2 fun v5 H3=>gd v4 false (fun k=>E.call (E.fid i.f41) [v5] H3 fun v h=>k v h) H3 fun v6 H4=>gd v4 false (fun k=>opt (un .not v6) fun v=>k v H4) H4 fun v7 H5=>opt (pick v4 (.bool true) v7) fun v8=>ifB v8 (
 Q (.bool true) H5) (
 E.call (E.fid i.f40) [x0] H5 fun v9 H6=>opt (ext v9 0) fun v10=>opt (ext v9 1) fun v11=>E.call (E.fid i.f107) [v10] H6 fun v12 H7=>E.call (E.fid i.f47) [v11] H7 fun v13 H8=>eH [(.slice none 0 0)] H8 fun v14 H9=>opt (storeN 1 v14 v12 H9) fun H10=>E.call (E.fid i.f42) [v10,v11,x1] H10 fun v15 H11=>E.call (E.fid i.f107) [v10] H11 fun v16 H12=>eH [(.slice none 0 0)] H12 fun v17 H13=>opt (storeN 1 v17 v16 H13) fun H14=>opt (bM 1 v14 H14) fun v18=>opt (bM 1 v17 H14) fun v19=>E.call (E.fid i.f106) [v18,v19] H14 fun v20 H15=>eH [(.slice none 0 0)] H15 fun v21 H16=>opt (aN v21 v20 H16) fun H17=>eH [(.int .i64 0)] H17 fun v22 H18=>opt (aN v22 (.int .i64 0) H18) fun H19=>opt (some (.func (.func (E.fid i.f46)) #[] #[v22,v21])) fun v23=>opt (lenSlc v13) fun v24=>opt (aH v11) fun v25=>opt (aC v25 0) fun v26=>opt (aB v26 H19) fun v27=>opt (lenSlc v27) fun v28=>opt (jE max2 [v24,v28]) fun v29=>aO (fun l H X0=>F.f45_l1 E Q (nth l 0) (nth l 1) (nth l 2) (nth l 3) (nth l 4) (nth l 5) (nth l 6) (nth l 7) (nth l 8) H X0) [v11,v14,v13,v17,v21,v22,v23,v29,(.int .i64 0)] H19))

def F.f44 (E:Sy) (H:AH) (Q:VK):Prop :=
 E.call (E.fid i.f115) [(.int .i64 5)] H fun v1 H1=>opt (cW fE .eql v1 (.pointer none)) fun v2=>ifB v2 (
 Q (.bool false) H1) (
 E.call (E.fid i.f107) [v1] H1 fun v3 H2=>eH [(.slice none 0 0)] H2 fun v4 H3=>opt (storeN 1 v4 v3 H3) fun H4=>opt (aH v1) fun v5=>opt (aC v5 0) fun v6=>opt (aB v6 H4) fun v7=>E.call (E.fid i.f16) [v7,(.int .u16 1),(.string ⟨#[97]⟩),(.int .u8 1),(.string ⟨#[]⟩)] H4 fun v8 H5=>opt (bM 1 v4 H5) fun v9=>E.call (E.fid i.f107) [v1] H5 fun v10 H6=>bM 1 v4 H6=bM 1 v4 H5 /\
 E.call (E.fid i.f106) [v9,v10] H6 fun v11 H7=>opt (lenSlc v11) fun v12=>opt (aA .eql v12 (.int .i64 2)) fun v13=>gd v13 true (fun k=>k v11 H7) H7 fun v14 H8=>gd v13 true (fun k=>opt (aG 5 v14 (.int .i64 0)) fun v=>k v H8) H8 fun v15 H9=>gd v13 true (fun k=>opt (aC v15 0) fun v=>k v H9) H9 fun v16 H10=>gd v13 true (fun k=>opt (aB v16 H10) fun v=>k v H10) H10 fun v17 H11=>gd v13 true (fun k=>opt (aA .eql v17 (.int .u8 4)) fun v=>k v H11) H11 fun v18 H12=>opt (pick v13 v18 (.bool false)) fun v19=>gd v19 true (fun k=>k v11 H12) H12 fun v20 H13=>gd v19 true (fun k=>opt (aG 5 v20 (.int .i64 0)) fun v=>k v H13) H13 fun v21 H14=>gd v19 true (fun k=>opt (aC v21 2) fun v=>k v H14) H14 fun v22 H15=>gd v19 true (fun k=>opt (aB v22 H15) fun v=>k v H15) H15 fun v23 H16=>gd v19 true (fun k=>opt (cE .eql v23 (.string ⟨#[97]⟩)) fun v=>k v H16) H16 fun v24 H17=>opt (pick v19 v24 (.bool false)) fun v25=>gd v25 true (fun k=>k v11 H17) H17 fun v26 H18=>gd v25 true (fun k=>opt (aG 5 v26 (.int .i64 0)) fun v=>k v H18) H18 fun v27 H19=>gd v25 true (fun k=>opt (aC v27 4) fun v=>k v H19) H19 fun v28 H20=>gd v25 true (fun k=>opt (aB v28 H20) fun v=>k v H20) H20 fun v29 H21=>gd v25 true (fun k=>opt (aA .eql v29 (.int .u16 2)) fun v=>k v H21) H21 fun v30 H22=>opt (pick v25 v30 (.bool false)) fun v31=>gd v31 true (fun k=>k v11 H22) H22 fun v32 H23=>gd v31 true (fun k=>opt (aG 5 v32 (.int .i64 1)) fun v=>k v H23) H23 fun v33 H24=>gd v31 true (fun k=>opt (bM 5 v33 H24) fun v=>k v H24) H24 fun v34 H25=>gd v31 true (fun k=>E.call (E.fid i.f105) [v34] H25 fun v h=>k v h) H25 fun v35 H26=>gd v31 true (fun k=>opt (cE .eql v35 (.string ⟨#[109,97,100,101,32,50]⟩)) fun v=>k v H26) H26 fun v36 H27=>opt (pick v31 v36 (.bool false)) fun v37=>Q v37 H27)

def F.f41_l1 (E:Sy) (Q:VK) (t5 t6 t7:Value) (H:AH) (X0:LK):Prop :=
 opt (aA .lss t7 t6) fun v1=>ifB v1 (
 opt (aG 14 t5 t7) fun v2=>opt (bM 14 v2 H) fun v3=>eH [(.int .u8 0),(.int .u8 0),(.int .u8 0),(.int .u8 0),(.int .u8 0),(.int .u8 0),(.string ⟨#[]⟩),(.int .i64 0),(.slice none 0 0),(.bool false),(.bool false),(.int .u8 0),(.int .u8 0),(.int .u8 0)] H fun v4 H1=>opt (storeN 14 v4 v3 H1) fun H2=>opt (aC v4 1) fun v5=>opt (aC v5 5) fun v6=>opt (aB v6 H2) fun v7=>opt (iQ v7) fun v8=>opt (aA .gtr v8 (.int .i64 200)) fun v9=>gd v9 false (fun k=>opt (aC v4 1) fun v=>k v H2) H2 fun v10 H3=>gd v9 false (fun k=>opt (aC v10 7) fun v=>k v H3) H3 fun v11 H4=>gd v9 false (fun k=>opt (aB v11 H4) fun v=>k v H4) H4 fun v12 H5=>gd v9 false (fun k=>opt (lenSlc v12) fun v=>k v H5) H5 fun v13 H6=>gd v9 false (fun k=>opt (aA .gtr v13 (.int .i64 200)) fun v=>k v H6) H6 fun v14 H7=>opt (pick v9 (.bool true) v14) fun v15=>ifB v15 (
 Q (.bool false) H7) (
 opt (aA .add t7 (.int .i64 1)) fun v16=>X0 [t5,t6,v16] H7)) (
 Q (.bool true) H)
def F.f41 (E:Sy) (x0:Value) (H:AH) (Q:VK):Prop :=
 opt (lenSlc x0) fun v1=>aO (fun l H X0=>F.f41_l1 E Q (nth l 0) (nth l 1) (nth l 2) H X0) [x0,v1,(.int .i64 0)] H

def F.f40 (E:Sy) (x0:Value) (H:AH) (Q:VK):Prop :=
 E.call (E.fid i.f115) [(.int .i64 60)] H fun v1 H1=>E.call (E.fid i.f50) [(.int .i64 60)] H1 fun v2 H2=>E.call (E.fid i.f42) [v1,v2,x0] H2 fun v3 H3=>Q (.tuple #[v1,v2]) H3

def F.f107_j1 (E:Sy) (Q:VK) (X0:LK) (t0 t2 t3 t7 t19 t20 t21:Value) (H:AH):Prop :=
 opt (aC t3 0) fun v1=>opt (aB v1 H) fun v2=>opt (bM 5 t7 H) fun v3=>mk (buildS 1 5 #[(.int .u16 0),(.int .u8 0),(.string ⟨#[]⟩),(.slice none 0 0),(.slice none 0 0)] [(0,v3)]) H fun v4 H1=>fR (app 5 72 v2 v4 H1) fun v5 H2=>opt (aC t3 0) fun v6=>opt (aN v6 v5 H2) fun H3=>opt (aA .add t21 (.int .i64 1)) fun v7=>X0 [t0,t2,t3,t19,t20,v7] H3
def F.f107_l2 (E:Sy) (Q:VK) (X0:LK) (t0 t2 t3 t5 t7 t19 t20 t21 t63 t64 t65:Value) (H:AH) (X1:LK):Prop :=
 opt (aA .lss t65 t64) fun v1=>ifB v1 (
 opt (aG 1 t63 t65) fun v2=>opt (aB v2 H) fun v3=>opt (aH t0) fun v4=>opt (aC v4 0) fun v5=>opt (aB v5 H) fun v6=>E.call (E.fid i.f15) [v6,t5,v3] H fun v7 H1=>opt (ext v7 0) fun v8=>opt (ext v7 1) fun v9=>opt (aC t7 4) fun v10=>opt (aB v10 H1) fun v11=>mk (buildS 1 1 #[(.int .u16 0)] [(0,v8)]) H1 fun v12 H2=>fR (app 1 2 v11 v12 H2) fun v13 H3=>opt (aC t7 4) fun v14=>opt (aN v14 v13 H3) fun H4=>opt (aA .add t65 (.int .i64 1)) fun v15=>X1 [t0,t2,t3,t5,t7,t19,t20,t21,t63,t64,v15] H4) (
 F.f107_j1 E Q X0 t0 t2 t3 t7 t19 t20 t21 H)
def F.f107_l1 (E:Sy) (Q:VK) (t0 t2 t3 t19 t20 t21:Value) (H:AH) (X0:LK):Prop :=
 opt (aA .lss t21 t20) fun v1=>ifB v1 (
 opt (aG 1 t19 t21) fun v2=>opt (aB v2 H) fun v3=>opt (aH t0) fun v4=>opt (aC v4 0) fun v5=>opt (aB v5 H) fun v6=>E.call (E.fid i.f13) [v6,v3] H fun v7 H1=>opt (aH v7) fun v8=>opt (aC v8 1) fun v9=>opt (aB v9 H1) fun v10=>opt (aH v7) fun v11=>opt (aC v11 2) fun v12=>opt (aB v12 H1) fun v13=>opt (oN v13 H1) fun v14=>opt (aH v7) fun v15=>opt (aC v15 5) fun v16=>opt (aB v16 H1) fun v17=>opt (cE .add v14 v17) fun v18=>opt (bR [(0,1),(1,1),(2,1),(3,1),(4,1)] #[(.int .u16 0),(.int .u8 0),(.string ⟨#[]⟩),(.slice none 0 0),(.slice none 0 0)] [(0,v3),(1,v10),(2,v18)]) fun v19=>eH [(.int .u16 0),(.int .u8 0),(.string ⟨#[]⟩),(.slice none 0 0),(.slice none 0 0)] H1 fun v20 H2=>opt (storeN 5 v20 v19 H2) fun H3=>opt (aH v7) fun v21=>opt (aC v21 1) fun v22=>opt (aB v22 H3) fun v23=>opt (aA .eql v23 (.int .u8 2)) fun v24=>ifB v24 (
 opt (aH t0) fun v25=>opt (aC v25 0) fun v26=>opt (aB v26 H3) fun v27=>E.call (E.fid i.f12) [v27,v3] H3 fun v28 H4=>opt (ext v28 0) fun v29=>opt (ext v28 1) fun v30=>opt (aC v20 3) fun v31=>opt (aN v31 v29 H4) fun H5=>opt (aC v20 3) fun v32=>opt (aB v32 H5) fun v33=>opt (lenSlc v33) fun v34=>aO (fun l H X1=>F.f107_l2 E Q X0 (nth l 0) (nth l 1) (nth l 2) (nth l 3) (nth l 4) (nth l 5) (nth l 6) (nth l 7) (nth l 8) (nth l 9) (nth l 10) H X1) [t0,t2,t3,v3,v20,t19,t20,t21,v33,v34,(.int .i64 0)] H5) (
 F.f107_j1 E Q X0 t0 t2 t3 v20 t19 t20 t21 H3)) (
 opt (bM 1 t3 H) fun v35=>opt (storeN 1 t2 v35 H) fun H6=>opt (bM 1 t2 H6) fun v36=>Q v36 H6)
def F.f107 (E:Sy) (x0:Value) (H:AH) (Q:VK):Prop :=
 eH [(.slice none 0 0)] H fun v1 H1=>eH [(.slice none 0 0)] H1 fun v2 H2=>opt (cW fE .eql x0 (.pointer none)) fun v3=>ifB v3 (
 opt (bM 1 v2 H2) fun v4=>opt (storeN 1 v1 v4 H2) fun H3=>opt (bM 1 v1 H3) fun v5=>Q v5 H3) (
 opt (aH x0) fun v6=>opt (aC v6 0) fun v7=>opt (aB v7 H2) fun v8=>E.call (E.fid i.f18) [v8] H2 fun v9 H4=>opt (lenSlc v9) fun v10=>aO (fun l H X0=>F.f107_l1 E Q (nth l 0) (nth l 1) (nth l 2) (nth l 3) (nth l 4) (nth l 5) H X0) [x0,v1,v2,v9,v10,(.int .i64 0)] H4)

def F.f47_l1 (E:Sy) (Q:VK) (t3 t9 t10 t11:Value) (H:AH) (X0:LK):Prop :=
 opt (aA .lss t11 t10) fun v1=>ifB v1 (
 opt (aG 7 t9 t11) fun v2=>opt (bM 7 v2 H) fun v3=>eH [(.int .i64 0),(.slice none 0 0),(.slice none 0 0),(.int .i64 0),(.string ⟨#[]⟩),(.int .i64 0),(.int .i64 0)] H fun v4 H1=>opt (storeN 7 v4 v3 H1) fun H2=>mk (buildS 0 1 #[(.int .u8 0)] []) H2 fun v5 H3=>opt (aC v4 1) fun v6=>opt (aB v6 H3) fun v7=>fR (app 1 1 v5 v7 H3) fun v8 H4=>opt (aC v4 1) fun v9=>opt (aN v9 v8 H4) fun H5=>mk (buildS 0 2 #[(.string ⟨#[]⟩),(.int .i64 0)] []) H5 fun v10 H6=>opt (aC v4 2) fun v11=>opt (aB v11 H6) fun v12=>fR (app 2 24 v10 v12 H6) fun v13 H7=>opt (aC v4 2) fun v14=>opt (aN v14 v13 H7) fun H8=>opt (bM 7 v4 H8) fun v15=>mk (buildS 1 7 #[(.int .i64 0),(.slice none 0 0),(.slice none 0 0),(.int .i64 0),(.string ⟨#[]⟩),(.int .i64 0),(.int .i64 0)] [(0,v15)]) H8 fun v16 H9=>fR (app 7 96 t3 v16 H9) fun v17 H10=>opt (aA .add t11 (.int .i64 1)) fun v18=>X0 [v17,t9,t10,v18] H10) (
 Q t3 H)
def F.f47 (E:Sy) (x0:Value) (H:AH) (Q:VK):Prop :=
 opt (aH x0) fun v1=>opt (aC v1 0) fun v2=>opt (aB v2 H) fun v3=>opt (lenSlc v3) fun v4=>aO (fun l H X0=>F.f47_l1 E Q (nth l 0) (nth l 1) (nth l 2) (nth l 3) H X0) [(.slice none 0 0),v3,v4,(.int .i64 0)] H

def F.f42_j2 (E:Sy) (Q:VK) (X0:LK) (t0 t1 t8 t15 t16 t17:Value) (H:AH):Prop :=
 opt (aH t0) fun v1=>opt (aC v1 0) fun v2=>opt (aB v2 H) fun v3=>opt (bM 10 t8 H) fun v4=>E.call (E.fid i.f37) [v3,t1,v4] H fun v5 H1=>opt (aA .add t17 (.int .i64 1)) fun v6=>X0 [t0,t1,t15,t16,v6] H1
def F.f42_j1 (E:Sy) (Q:VK) (X0:LK) (t0 t1 t7 t8 t15 t16 t17:Value) (H:AH):Prop :=
 opt (aC t8 0) fun v1=>opt (aB v1 H) fun v2=>opt (aA .rem v2 (.int .u8 15)) fun v3=>opt (aA .eql v3 (.int .u8 3)) fun v4=>ifB v4 (
 opt (aC t7 13) fun v5=>opt (aB v5 H) fun v6=>opt (bC .i64 v6) fun v7=>E.call (E.fid i.f43) [] H fun v8 H1=>aB v5 H1=aB v5 H /\
 E.call (E.fid i.f43) [] H1 fun v9 H2=>aB v5 H2=aB v5 H /\
 opt (lenSlc v9) fun v10=>opt (aA .rem v7 v10) fun v11=>opt (aG 1 v8 v11) fun v12=>opt (aB v12 H2) fun v13=>opt (aC t8 5) fun v14=>opt (aN v14 v13 H2) fun H3=>F.f42_j2 E Q X0 t0 t1 t8 t15 t16 t17 H3) (
 F.f42_j2 E Q X0 t0 t1 t8 t15 t16 t17 H)
def F.f42_l2 (E:Sy) (Q:VK) (X0:LK) (t0 t1 t15 t16 t17 t104 t105 t106:Value) (H:AH) (X1:LK):Prop :=
 opt (aA .lss t106 t105) fun v1=>ifB v1 (
 opt (aG 1 t104 t106) fun v2=>opt (aB v2 H) fun v3=>opt (aH t0) fun v4=>opt (aC v4 0) fun v5=>opt (aB v5 H) fun v6=>opt (bC .u16 v3) fun v7=>E.call (E.fid i.f14) [v6,v7,(.bool true)] H fun v8 H1=>E.call (E.fid i.f55) [t1,v3,(.bool true)] H1 fun v9 H2=>opt (aA .add t106 (.int .i64 1)) fun v10=>X1 [t0,t1,t15,t16,t17,t104,t105,v10] H2) (
 opt (aA .add t17 (.int .i64 1)) fun v11=>X0 [t0,t1,t15,t16,v11] H)
def F.f42_l1 (E:Sy) (Q:VK) (t0 t1 t15 t16 t17:Value) (H:AH) (X0:LK):Prop :=
 opt (aA .lss t17 t16) fun v1=>ifB v1 (
 opt (aG 14 t15 t17) fun v2=>opt (bM 14 v2 H) fun v3=>eH [(.int .u8 0),(.int .u8 0),(.int .u8 0),(.int .u8 0),(.int .u8 0),(.int .u8 0),(.string ⟨#[]⟩),(.int .i64 0),(.slice none 0 0),(.bool false),(.bool false),(.int .u8 0),(.int .u8 0),(.int .u8 0)] H fun v4 H1=>opt (storeN 14 v4 v3 H1) fun H2=>opt (aA .geq t17 (.int .i64 60)) fun v5=>ifB v5 (
 Q (.tuple #[]) H2) (
 opt (aC v4 0) fun v6=>opt (aB v6 H2) fun v7=>opt (aA .rem v7 (.int .u8 12)) fun v8=>opt (aA .lss v8 (.int .u8 10)) fun v9=>ifB v9 (
 opt (aC v4 1) fun v10=>opt (bM 10 v10 H2) fun v11=>eH [(.int .u8 0),(.int .u8 0),(.int .u8 0),(.int .u8 0),(.int .u8 0),(.string ⟨#[]⟩),(.int .i64 0),(.slice none 0 0),(.bool false),(.bool false)] H2 fun v12 H3=>opt (storeN 10 v12 v11 H3) fun H4=>opt (aC v12 9) fun v13=>opt (aN v13 (.bool false) H4) fun H5=>opt (aC v12 0) fun v14=>opt (aB v14 H5) fun v15=>opt (aA .rem v15 (.int .u8 15)) fun v16=>opt (aA .eql v16 (.int .u8 11)) fun v17=>ifB v17 (
 opt (aC v12 8) fun v18=>opt (aN v18 (.bool true) H5) fun H6=>F.f42_j1 E Q X0 t0 t1 v4 v12 t15 t16 t17 H6) (
 F.f42_j1 E Q X0 t0 t1 v4 v12 t15 t16 t17 H5)) (
 opt (aC v4 11) fun v19=>opt (aB v19 H2) fun v20=>opt (bC .i64 v20) fun v21=>opt (aA .rem v21 (.int .i64 8)) fun v22=>opt (aA .add (.int .i64 1) v22) fun v23=>opt (aC v4 13) fun v24=>opt (aB v24 H2) fun v25=>opt (aA .rem v25 (.int .u8 3)) fun v26=>opt (bC .i64 v26) fun v27=>opt (aC v4 12) fun v28=>opt (aB v28 H2) fun v29=>opt (aA .rem v29 (.int .u8 8)) fun v30=>opt (aA .add (.int .u8 1) v30) fun v31=>opt (bC .u16 v31) fun v32=>opt (bR [(0,1),(1,1)] #[(.int .i64 0),(.int .u16 0)] [(0,v27),(1,v32)]) fun v33=>eH [(.int .i64 0),(.int .u16 0)] H2 fun v34 H7=>opt (storeN 2 v34 v33 H7) fun H8=>opt (bC .u16 v23) fun v35=>opt (bR [(0,1),(1,1)] #[(.int .i64 0),(.int .u16 0)] [(1,v35)]) fun v36=>E.call (E.fid i.f116) [t0,v36] H8 fun v37 H9=>gd v37 true (fun k=>k t0 H9) H9 fun v38 H10=>gd v37 true (fun k=>opt (bM 2 v34 H10) fun v=>k v H10) H10 fun v39 H11=>gd v37 true (fun k=>E.call (E.fid i.f116) [v38,v39] H11 fun v h=>k v h) H11 fun v40 H12=>opt (pick v37 v40 (.bool false)) fun v41=>ifB v41 (
 opt (aH t0) fun v42=>opt (aC v42 1) fun v43=>opt (aB v43 H12) fun v44=>opt (bC .u16 v23) fun v45=>opt (bM 2 v34 H12) fun v46=>E.call (E.fid i.f31) [v44,v45,v46] H12 fun v47 H13=>opt (ext v47 0) fun v48=>opt (ext v47 1) fun v49=>opt (aA .eql v49 (.int .i64 0)) fun v50=>ifB v50 (
 opt (bM 2 v34 H13) fun v51=>E.call (E.fid i.f39) [v51] H13 fun v52 H14=>E.call (E.fid i.f52) [t1,v23,v52] H14 fun v53 H15=>opt (aC v34 1) fun v54=>opt (aB v54 H15) fun v55=>opt (bC .i64 v55) fun v56=>mk (buildS 2 1 #[(.int .i64 0)] [(0,v23),(1,v56)]) H15 fun v57 H16=>opt (lenSlc v57) fun v58=>aO (fun l H X1=>F.f42_l2 E Q X0 (nth l 0) (nth l 1) (nth l 2) (nth l 3) (nth l 4) (nth l 5) (nth l 6) (nth l 7) H X1) [t0,t1,t15,t16,t17,v57,v58,(.int .i64 0)] H16) (
 opt (aA .add t17 (.int .i64 1)) fun v59=>X0 [t0,t1,t15,t16,v59] H13)) (
 opt (aA .add t17 (.int .i64 1)) fun v60=>X0 [t0,t1,t15,t16,v60] H12)))) (
 Q (.tuple #[]) H)
def F.f42 (E:Sy) (x0 x1 x2:Value) (H:AH) (Q:VK):Prop :=
 opt (lenSlc x2) fun v1=>aO (fun l H X0=>F.f42_l1 E Q (nth l 0) (nth l 1) (nth l 2) (nth l 3) (nth l 4) H X0) [x0,x1,x2,v1,(.int .i64 0)] H

def F.f106_j2 (E:Sy) (Q:VK) (X0:LK) (t5 t6 t7:Value) (H:AH):Prop :=
 opt (eM 5 t6 (some (.int .i64 1)) none none H) fun v1=>opt (eM 5 t7 (some (.int .i64 1)) none none H) fun v2=>X0 [t5,v1,v2] H
def F.f106_j1 (E:Sy) (Q:VK) (X0:LK) (t5 t6 t7:Value) (H:AH):Prop :=
 opt (aG 5 t6 (.int .i64 0)) fun v1=>opt (aC v1 1) fun v2=>opt (aB v2 H) fun v3=>opt (aG 5 t7 (.int .i64 0)) fun v4=>opt (aC v4 1) fun v5=>opt (aB v5 H) fun v6=>opt (aA .eql v3 v6) fun v7=>ifB v7 (
 opt (aG 5 t6 (.int .i64 0)) fun v8=>opt (bM 5 v8 H) fun v9=>opt (aG 5 t7 (.int .i64 0)) fun v10=>opt (bM 5 v10 H) fun v11=>E.call (E.fid i.f109) [v9,v11] H fun v12 H1=>fR (app 5 32 t5 v12 H1) fun v13 H2=>F.f106_j2 E Q X0 v13 t6 t7 H2) (
 F.f106_j2 E Q X0 t5 t6 t7 H)
def F.f106_l1 (E:Sy) (Q:VK) (t5 t6 t7:Value) (H:AH) (X0:LK):Prop :=
 opt (lenSlc t6) fun v1=>opt (aA .gtr v1 (.int .i64 0)) fun v2=>gd v2 false (fun k=>k t7 H) H fun v3 H1=>gd v2 false (fun k=>opt (lenSlc v3) fun v=>k v H1) H1 fun v4 H2=>gd v2 false (fun k=>opt (aA .gtr v4 (.int .i64 0)) fun v=>k v H2) H2 fun v5 H3=>opt (pick v2 (.bool true) v5) fun v6=>ifB v6 (
 opt (lenSlc t7) fun v7=>opt (aA .eql v7 (.int .i64 0)) fun v8=>gd v8 false (fun k=>k t6 H3) H3 fun v9 H4=>gd v8 false (fun k=>opt (lenSlc v9) fun v=>k v H4) H4 fun v10 H5=>gd v8 false (fun k=>opt (aA .gtr v10 (.int .i64 0)) fun v=>k v H5) H5 fun v11 H6=>gd v8 false (fun k=>k v11 H6) H6 fun v12 H7=>gd v12 true (fun k=>k t6 H7) H7 fun v13 H8=>gd v12 true (fun k=>opt (aG 5 v13 (.int .i64 0)) fun v=>k v H8) H8 fun v14 H9=>gd v12 true (fun k=>opt (aC v14 0) fun v=>k v H9) H9 fun v15 H10=>gd v12 true (fun k=>opt (aB v15 H10) fun v=>k v H10) H10 fun v16 H11=>gd v12 true (fun k=>k t7 H11) H11 fun v17 H12=>gd v12 true (fun k=>opt (aG 5 v17 (.int .i64 0)) fun v=>k v H12) H12 fun v18 H13=>gd v12 true (fun k=>opt (aC v18 0) fun v=>k v H13) H13 fun v19 H14=>gd v12 true (fun k=>opt (aB v19 H14) fun v=>k v H14) H14 fun v20 H15=>gd v12 true (fun k=>opt (aA .lss v16 v20) fun v=>k v H15) H15 fun v21 H16=>gd v8 false (fun k=>opt (pick v12 v21 (.bool false)) fun v=>k v H16) H16 fun v22 H17=>opt (pick v8 (.bool true) v22) fun v23=>ifB v23 (
 opt (aG 5 t6 (.int .i64 0)) fun v24=>opt (aC v24 0) fun v25=>opt (aB v25 H17) fun v26=>opt (bR [(0,1),(1,1),(2,1),(3,1),(4,1)] #[(.int .u8 0),(.int .u16 0),(.string ⟨#[]⟩),(.int .u16 0),(.int .u16 0)] [(0,(.int .u8 2)),(1,v26)]) fun v27=>mk (buildS 1 5 #[(.int .u8 0),(.int .u16 0),(.string ⟨#[]⟩),(.int .u16 0),(.int .u16 0)] [(0,v27)]) H17 fun v28 H18=>fR (app 5 32 t5 v28 H18) fun v29 H19=>opt (eM 5 t6 (some (.int .i64 1)) none none H19) fun v30=>X0 [v29,v30,t7] H19) (
 opt (lenSlc t6) fun v31=>opt (aA .eql v31 (.int .i64 0)) fun v32=>gd v32 false (fun k=>k t7 H17) H17 fun v33 H20=>gd v32 false (fun k=>opt (aG 5 v33 (.int .i64 0)) fun v=>k v H20) H20 fun v34 H21=>gd v32 false (fun k=>opt (aC v34 0) fun v=>k v H21) H21 fun v35 H22=>gd v32 false (fun k=>opt (aB v35 H22) fun v=>k v H22) H22 fun v36 H23=>gd v32 false (fun k=>k t6 H23) H23 fun v37 H24=>gd v32 false (fun k=>opt (aG 5 v37 (.int .i64 0)) fun v=>k v H24) H24 fun v38 H25=>gd v32 false (fun k=>opt (aC v38 0) fun v=>k v H25) H25 fun v39 H26=>gd v32 false (fun k=>opt (aB v39 H26) fun v=>k v H26) H26 fun v40 H27=>gd v32 false (fun k=>opt (aA .lss v36 v40) fun v=>k v H27) H27 fun v41 H28=>opt (pick v32 (.bool true) v41) fun v42=>ifB v42 (
 opt (aG 5 t7 (.int .i64 0)) fun v43=>opt (aC v43 0) fun v44=>opt (aB v44 H28) fun v45=>opt (bR [(0,1),(1,1),(2,1),(3,1),(4,1)] #[(.int .u8 0),(.int .u16 0),(.string ⟨#[]⟩),(.int .u16 0),(.int .u16 0)] [(0,(.int .u8 1)),(1,v45)]) fun v46=>mk (buildS 1 5 #[(.int .u8 0),(.int .u16 0),(.string ⟨#[]⟩),(.int .u16 0),(.int .u16 0)] [(0,v46)]) H28 fun v47 H29=>fR (app 5 32 t5 v47 H29) fun v48 H30=>opt (eM 5 t7 (some (.int .i64 1)) none none H30) fun v49=>X0 [v48,t6,v49] H30) (
 opt (aG 5 t6 (.int .i64 0)) fun v50=>opt (bM 5 v50 H28) fun v51=>opt (aG 5 t7 (.int .i64 0)) fun v52=>opt (bM 5 v52 H28) fun v53=>E.call (E.fid i.f110) [v51,v53] H28 fun v54 H31=>opt (un .not v54) fun v55=>ifB v55 (
 opt (aG 5 t6 (.int .i64 0)) fun v56=>opt (aC v56 0) fun v57=>opt (aB v57 H31) fun v58=>opt (bR [(0,1),(1,1),(2,1),(3,1),(4,1)] #[(.int .u8 0),(.int .u16 0),(.string ⟨#[]⟩),(.int .u16 0),(.int .u16 0)] [(0,(.int .u8 3)),(1,v58)]) fun v59=>mk (buildS 1 5 #[(.int .u8 0),(.int .u16 0),(.string ⟨#[]⟩),(.int .u16 0),(.int .u16 0)] [(0,v59)]) H31 fun v60 H32=>fR (app 5 32 t5 v60 H32) fun v61 H33=>F.f106_j1 E Q X0 v61 t6 t7 H33) (
 F.f106_j1 E Q X0 t5 t6 t7 H31)))) (
 Q t5 H3)
def F.f106 (E:Sy) (x0 x1:Value) (H:AH) (Q:VK):Prop :=
 mk (gZ x0) H fun v1 H1=>mk (gZ x1) H1 fun v2 H2=>opt (aC v1 0) fun v3=>opt (aB v3 H2) fun v4=>opt (aC v2 0) fun v5=>opt (aB v5 H2) fun v6=>aO (fun l H X0=>F.f106_l1 E Q (nth l 0) (nth l 1) (nth l 2) H X0) [(.slice none 0 0),v4,v6] H2

def F.f46 (E:Sy) (x0 x1 x2:Value) (H:AH) (Q:VK):Prop :=
 mk (gZ x0) H fun v1 H1=>opt (aB x1 H1) fun v2=>opt (aB x2 H1) fun v3=>opt (lenSlc v3) fun v4=>opt (aA .geq v2 v4) fun v5=>gd v5 false (fun k=>opt (aB x2 H1) fun v=>k v H1) H1 fun v6 H2=>gd v5 false (fun k=>opt (aB x1 H2) fun v=>k v H2) H2 fun v7 H3=>gd v5 false (fun k=>opt (aG 5 v6 v7) fun v=>k v H3) H3 fun v8 H4=>gd v5 false (fun k=>opt (bM 5 v8 H4) fun v=>k v H4) H4 fun v9 H5=>gd v5 false (fun k=>opt (bM 5 v1 H5) fun v=>k v H5) H5 fun v10 H6=>gd v5 false (fun k=>opt (iS [0,0,1,0,0] .neq v9 v10) fun v=>k v H6) H6 fun v11 H7=>opt (pick v5 (.bool true) v11) fun v12=>ifB v12 (
 Q (.bool false) H7) (
 opt (aB x1 H7) fun v13=>opt (aA .add v13 (.int .i64 1)) fun v14=>opt (aN x1 v14 H7) fun H8=>Q (.bool true) H8)

def F.f104_l2 (E:Sy) (Q:VK) (X0:LK) (t1 t6 t8 t16 t17 t18 t30 t31 t32:Value) (H:AH) (X1:LK):Prop :=
 opt (aA .lss t32 t31) fun v1=>ifB v1 (
 opt (aG 1 t30 t32) fun v2=>opt (aB v2 H) fun v3=>opt (aC t8 0) fun v4=>opt (aB v4 H) fun v5=>opt (look 0 (.map none) false t6 v5 H) fun v6=>opt (aC t8 4) fun v7=>opt (aB v7 H) fun v8=>opt (aG 1 v8 t32) fun v9=>opt (aB v9 H) fun v10=>opt (setMap 1 v6 v3 v10 H) fun H1=>opt (aA .add t32 (.int .i64 1)) fun v11=>X1 [t1,t6,t8,t16,t17,t18,t30,t31,v11] H1) (
 opt (aA .add t18 (.int .i64 1)) fun v12=>X0 [t1,t6,t16,t17,v12] H)
def F.f104_l3 (E:Sy) (Q:VK) (t6 t49 t50 t51:Value) (H:AH) (X0:LK):Prop :=
 opt (aA .lss t51 t50) fun v1=>ifB v1 (
 opt (aG 5 t49 t51) fun v2=>opt (bM 5 v2 H) fun v3=>eH [(.int .u8 0),(.int .u16 0),(.string ⟨#[]⟩),(.int .u16 0),(.int .u16 0)] H fun v4 H1=>opt (storeN 5 v4 v3 H1) fun H2=>opt (bM 5 v4 H2) fun v5=>E.call (E.fid i.f108) [t6,v5] H2 fun v6 H3=>opt (aA .neq v6 (.int .i64 0)) fun v7=>ifB v7 (
 Q (.tuple #[(.map none),v6]) H3) (
 opt (aA .add t51 (.int .i64 1)) fun v8=>X0 [t6,t49,t50,v8] H3)) (
 Q (.tuple #[t6,(.int .i64 0)]) H)
def F.f104_l1 (E:Sy) (Q:VK) (t1 t6 t16 t17 t18:Value) (H:AH) (X0:LK):Prop :=
 opt (aA .lss t18 t17) fun v1=>ifB v1 (
 opt (aG 5 t16 t18) fun v2=>opt (bM 5 v2 H) fun v3=>eH [(.int .u16 0),(.int .u8 0),(.string ⟨#[]⟩),(.slice none 0 0),(.slice none 0 0)] H fun v4 H1=>opt (storeN 5 v4 v3 H1) fun H2=>opt (aC v4 1) fun v5=>opt (aB v5 H2) fun v6=>opt (aA .eql v6 (.int .u8 2)) fun v7=>ifB v7 (
 opt (aC v4 0) fun v8=>opt (aB v8 H2) fun v9=>aEn H2 fun v10 H3=>opt (setMap 0 t6 v9 v10 H3) fun H4=>opt (aC v4 3) fun v11=>opt (aB v11 H4) fun v12=>opt (lenSlc v12) fun v13=>aO (fun l H X1=>F.f104_l2 E Q X0 (nth l 0) (nth l 1) (nth l 2) (nth l 3) (nth l 4) (nth l 5) (nth l 6) (nth l 7) (nth l 8) H X1) [t1,t6,v4,t16,t17,t18,v12,v13,(.int .i64 0)] H4) (
 opt (aA .add t18 (.int .i64 1)) fun v14=>X0 [t1,t6,t16,t17,v14] H2)) (
 opt (lenSlc t1) fun v15=>aO (fun l H X0=>F.f104_l3 E Q (nth l 0) (nth l 1) (nth l 2) (nth l 3) H X0) [t6,t1,v15,(.int .i64 0)] H)
def F.f104 (E:Sy) (x0 x1:Value) (H:AH) (Q:VK):Prop :=
 mk (gZ x0) H fun v1 H1=>aEn H1 fun v2 H2=>opt (aC v1 0) fun v3=>opt (aB v3 H2) fun v4=>opt (lenSlc v4) fun v5=>aO (fun l H X0=>F.f104_l1 E Q (nth l 0) (nth l 1) (nth l 2) (nth l 3) (nth l 4) H X0) [x1,v2,v4,v5,(.int .i64 0)] H2

def F.f48_l1 (E:Sy) (Q:VK) (t1 t7 t8 t9:Value) (H:AH) (X0:LK):Prop :=
 opt (aA .lss t9 t8) fun v1=>ifB v1 (
 opt (aG 2 t7 t9) fun v2=>opt (bM 2 v2 H) fun v3=>eH [(.string ⟨#[]⟩),(.int .i64 0)] H fun v4 H1=>opt (storeN 2 v4 v3 H1) fun H2=>opt (aC v4 0) fun v5=>opt (aB v5 H2) fun v6=>opt (cE .eql v6 t1) fun v7=>ifB v7 (
 opt (aC v4 1) fun v8=>opt (aB v8 H2) fun v9=>Q v9 H2) (
 opt (aA .add t9 (.int .i64 1)) fun v10=>X0 [t1,t7,t8,v10] H2)) (
 Q (.int .i64 0) H)
def F.f48 (E:Sy) (x0 x1:Value) (H:AH) (Q:VK):Prop :=
 opt (lenSlc x0) fun v1=>aO (fun l H X0=>F.f48_l1 E Q (nth l 0) (nth l 1) (nth l 2) (nth l 3) H X0) [x1,x0,v1,(.int .i64 0)] H

def F.f115 (E:Sy) (x0:Value) (H:AH) (Q:VK):Prop :=
 E.call (E.fid i.f8) [x0] H fun v1 H1=>E.call (E.fid i.f30) [] H1 fun v2 H2=>opt (bR [(0,1),(1,1)] #[(.pointer none),(.pointer none)] [(0,v1),(1,v2)]) fun v3=>mk (gZ v3) H2 fun v4 H3=>Q v4 H3

def F.f16_j1 (E:Sy) (Q:VK) (t0 t2 t12 t14 t15:Value) (H:AH):Prop :=
 opt (aH t0) fun v1=>opt (aC v1 0) fun v2=>opt (aB v2 H) fun v3=>opt (setMap 0 v3 t14 t15 H) fun H1=>opt (aH t12) fun v4=>opt (aC v4 3) fun v5=>opt (aB v5 H1) fun v6=>opt (setMap 1 v6 t2 t14 H1) fun H2=>opt (aH t0) fun v7=>opt (aC v7 2) fun v8=>E.call (E.fid i.f114) [v8,(.int .i64 1)] H2 fun v9 H3=>Q (.tuple #[t14,(.int .i64 0)]) H3
def F.f16_l1 (E:Sy) (Q:VK) (t0 t1 t2 t3 t4 t12 t14:Value) (H:AH) (X0:LK):Prop :=
 opt (aH t0) fun v1=>opt (aC v1 0) fun v2=>opt (aB v2 H) fun v3=>opt (look 0 (.pointer none) false v3 t14 H) fun v4=>opt (cW fE .neq v4 (.pointer none)) fun v5=>ifB v5 (
 opt (aA .add t14 (.int .u16 1)) fun v6=>X0 [t0,t1,t2,t3,t4,t12,v6] H) (
 opt (bR [(0,1),(1,1),(2,1),(3,1),(4,1),(5,1),(6,1),(7,1)] #[(.int .u16 0),(.int .u8 0),(.slice none 0 0),(.map none),(.int .u16 0),(.string ⟨#[]⟩),(.int .i64 0),(.int .i64 0)] [(0,t14),(1,t3),(6,(.int .i64 1))]) fun v7=>mk (gZ v7) H fun v8 H1=>opt (aA .eql t3 (.int .u8 2)) fun v9=>ifB v9 (
 aEn H1 fun v10 H2=>opt (aH v8) fun v11=>opt (aC v11 3) fun v12=>opt (aN v12 v10 H2) fun H3=>opt (aH v8) fun v13=>opt (aC v13 4) fun v14=>opt (aN v14 t1 H3) fun H4=>F.f16_j1 E Q t0 t2 t12 t14 v8 H4) (
 opt (aA .eql t3 (.int .u8 3)) fun v15=>ifB v15 (
 opt (aH v8) fun v16=>opt (aC v16 5) fun v17=>opt (aN v17 t4 H1) fun H5=>F.f16_j1 E Q t0 t2 t12 t14 v8 H5) (
 F.f16_j1 E Q t0 t2 t12 t14 v8 H1)))
def F.f16 (E:Sy) (x0 x1 x2 x3 x4:Value) (H:AH) (Q:VK):Prop :=
 E.call (E.fid i.f24) [x0,x1,x2] H fun v1 H1=>opt (ext v1 0) fun v2=>opt (ext v1 1) fun v3=>opt (aA .neq v3 (.int .i64 0)) fun v4=>ifB v4 (
 Q (.tuple #[(.int .u16 0),v3]) H1) (
 opt (aA .lss x3 (.int .u8 1)) fun v5=>gd v5 false (fun k=>k x3 H1) H1 fun v6 H2=>gd v5 false (fun k=>opt (aA .gtr v6 (.int .u8 3)) fun v=>k v H2) H2 fun v7 H3=>opt (pick v5 (.bool true) v7) fun v8=>ifB v8 (
 Q (.tuple #[(.int .u16 0),(.int .i64 22)]) H3) (
 opt (aA .eql x3 (.int .u8 3)) fun v9=>gd v9 true (fun k=>k x4 H3) H3 fun v10 H4=>gd v9 true (fun k=>opt (iQ v10) fun v=>k v H4) H4 fun v11 H5=>gd v9 true (fun k=>opt (aA .lss v11 (.int .i64 1)) fun v=>k v H5) H5 fun v12 H6=>gd v9 true (fun k=>k v12 H6) H6 fun v13 H7=>gd v13 false (fun k=>k x4 H7) H7 fun v14 H8=>gd v13 false (fun k=>opt (iQ v14) fun v=>k v H8) H8 fun v15 H9=>gd v13 false (fun k=>opt (aA .gtr v15 (.int .i64 120)) fun v=>k v H9) H9 fun v16 H10=>gd v9 true (fun k=>opt (pick v13 (.bool true) v16) fun v=>k v H10) H10 fun v17 H11=>opt (pick v9 v17 (.bool false)) fun v18=>ifB v18 (
 Q (.tuple #[(.int .u16 0),(.int .i64 22)]) H11) (
 opt (aH x0) fun v19=>opt (aC v19 0) fun v20=>opt (aB v20 H11) fun v21=>opt (iB v21 H11) fun v22=>opt (aH x0) fun v23=>opt (aC v23 1) fun v24=>opt (aB v24 H11) fun v25=>opt (aA .geq v22 v25) fun v26=>ifB v26 (
 Q (.tuple #[(.int .u16 0),(.int .i64 28)]) H11) (
 opt (aA .eql x3 (.int .u8 2)) fun v27=>gd v27 true (fun k=>k x0 H11) H11 fun v28 H12=>gd v27 true (fun k=>k x1 H12) H12 fun v29 H13=>gd v27 true (fun k=>E.call (E.fid i.f21) [v28,v29] H13 fun v h=>k v h) H13 fun v30 H14=>gd v27 true (fun k=>opt (aA .geq v30 (.int .i64 16)) fun v=>k v H14) H14 fun v31 H15=>opt (pick v27 v31 (.bool false)) fun v32=>ifB v32 (
 Q (.tuple #[(.int .u16 0),(.int .i64 28)]) H15) (
 aO (fun l H X0=>F.f16_l1 E Q (nth l 0) (nth l 1) (nth l 2) (nth l 3) (nth l 4) (nth l 5) (nth l 6) H X0) [x0,x1,x2,x3,x4,v2,(.int .u16 1)] H15)))))

def F.f105_j1 (E:Sy) (Q:VK) (t1 t4:Value) (H:AH):Prop :=
 opt (aC t1 1) fun v1=>opt (aB v1 H) fun v2=>opt (bC .u64 v2) fun v3=>E.call (E.fid i.f0) [v3] H fun v4 H1=>opt (cE .add (.string ⟨#[32]⟩) v4) fun v5=>opt (cE .add t4 v5) fun v6=>opt (aC t1 0) fun v7=>opt (aB v7 H1) fun v8=>opt (aA .eql v8 (.int .u8 4)) fun v9=>ifB v9 (
 opt (aC t1 2) fun v10=>opt (aB v10 H1) fun v11=>opt (cE .add (.string ⟨#[32]⟩) v11) fun v12=>opt (cE .add v12 (.string ⟨#[32]⟩)) fun v13=>opt (aC t1 4) fun v14=>opt (aB v14 H1) fun v15=>opt (bC .u64 v15) fun v16=>E.call (E.fid i.f0) [v16] H1 fun v17 H2=>aB v10 H2=aB v10 H1 /\
 opt (cE .add v13 v17) fun v18=>opt (cE .add v6 v18) fun v19=>Q v19 H2) (
 opt (aA .eql v8 (.int .u8 5)) fun v20=>ifB v20 (
 opt (aC t1 2) fun v21=>opt (aB v21 H1) fun v22=>opt (cE .add (.string ⟨#[32]⟩) v22) fun v23=>opt (cE .add v23 (.string ⟨#[32]⟩)) fun v24=>opt (aC t1 3) fun v25=>opt (aB v25 H1) fun v26=>opt (bC .u64 v26) fun v27=>E.call (E.fid i.f0) [v27] H1 fun v28 H3=>aB v21 H3=aB v21 H1 /\
 opt (cE .add v24 v28) fun v29=>opt (cE .add v6 v29) fun v30=>Q v30 H3) (
 opt (aA .eql v8 (.int .u8 6)) fun v31=>ifB v31 (
 opt (aC t1 2) fun v32=>opt (aB v32 H1) fun v33=>opt (cE .add (.string ⟨#[32]⟩) v33) fun v34=>opt (cE .add v34 (.string ⟨#[32]⟩)) fun v35=>opt (aC t1 3) fun v36=>opt (aB v36 H1) fun v37=>opt (bC .u64 v37) fun v38=>opt (aC t1 4) fun v39=>opt (aB v39 H1) fun v40=>opt (bC .u64 v40) fun v41=>E.call (E.fid i.f0) [v38] H1 fun v42 H4=>aB v39 H4=aB v39 H1 /\
 aB v32 H4=aB v32 H1 /\
 opt (cE .add v35 v42) fun v43=>opt (cE .add v43 (.string ⟨#[32]⟩)) fun v44=>E.call (E.fid i.f0) [v41] H4 fun v45 H5=>aB v32 H5=aB v32 H1 /\
 opt (cE .add v44 v45) fun v46=>opt (cE .add v6 v46) fun v47=>Q v47 H5) (
 Q v6 H1)))
def F.f105 (E:Sy) (x0:Value) (H:AH) (Q:VK):Prop :=
 mk (gZ x0) H fun v1 H1=>opt (aAK 1 #[(.string ⟨#[]⟩),(.string ⟨#[]⟩),(.string ⟨#[]⟩),(.string ⟨#[]⟩),(.string ⟨#[]⟩),(.string ⟨#[]⟩),(.string ⟨#[]⟩)] [(0,(.string ⟨#[63]⟩)),(1,(.string ⟨#[109,97,100,101]⟩)),(2,(.string ⟨#[103,111,110,101]⟩)),(3,(.string ⟨#[119,114,105,116,116,101,110]⟩)),(4,(.string ⟨#[97,100,100,101,100]⟩)),(5,(.string ⟨#[114,101,109,111,118,101,100]⟩)),(6,(.string ⟨#[116,117,114,110,101,100]⟩))]) fun v2=>eH [(.string ⟨#[]⟩),(.string ⟨#[]⟩),(.string ⟨#[]⟩),(.string ⟨#[]⟩),(.string ⟨#[]⟩),(.string ⟨#[]⟩),(.string ⟨#[]⟩)] H1 fun v3 H2=>opt (storeN 7 v3 v2 H2) fun H3=>opt (oW 7 1 v3 (.int .i64 0)) fun v4=>opt (aB v4 H3) fun v5=>opt (aC v1 0) fun v6=>opt (aB v6 H3) fun v7=>opt (aA .leq v7 (.int .u8 6)) fun v8=>ifB v8 (
 opt (aC v1 0) fun v9=>opt (aB v9 H3) fun v10=>opt (oW 7 1 v3 v10) fun v11=>opt (aB v11 H3) fun v12=>F.f105_j1 E Q v1 v12 H3) (
 F.f105_j1 E Q v1 v5 H3)

def F.f50 (E:Sy) (x0:Value) (H:AH) (Q:VK):Prop :=
 opt (bR [(0,1),(1,1),(2,1),(3,1),(4,1),(5,1),(6,1)] #[(.int .i64 0),(.slice none 0 0),(.slice none 0 0),(.int .i64 0),(.string ⟨#[]⟩),(.int .i64 0),(.int .i64 0)] []) fun v1=>opt (bR [(0,1),(1,1),(2,1),(3,1),(4,1),(5,1),(6,1)] #[(.int .i64 0),(.slice none 0 0),(.slice none 0 0),(.int .i64 0),(.string ⟨#[]⟩),(.int .i64 0),(.int .i64 0)] [(0,(.int .i64 2)),(3,(.int .i64 1)),(5,(.int .i64 1))]) fun v2=>mk (buildS 2 7 #[(.int .i64 0),(.slice none 0 0),(.slice none 0 0),(.int .i64 0),(.string ⟨#[]⟩),(.int .i64 0),(.int .i64 0)] [(0,v1),(1,v2)]) H fun v3 H1=>opt (jE max2 [x0,(.int .i64 1)]) fun v4=>opt (jE min2 [v4,(.int .i64 256)]) fun v5=>opt (bR [(0,1),(1,1),(2,2),(4,1)] #[(.int .i64 0),(.int .i64 0),(.int .i64 0),(.int .i64 0),(.int .i64 0)] [(1,(.int .i64 1))]) fun v6=>mk (buildS 1 5 #[(.int .i64 0),(.int .i64 0),(.int .i64 0),(.int .i64 0),(.int .i64 0)] [(0,v6)]) H1 fun v7 H2=>opt (bR [(0,1),(1,1),(2,1),(3,1),(4,1)] #[(.slice none 0 0),(.int .i64 0),(.slice none 0 0),(.int .i64 0),(.int .i64 0)] [(0,v3),(1,v5),(2,v7),(3,(.int .i64 1))]) fun v8=>mk (gZ v8) H2 fun v9 H3=>Q v9 H3

def F.f18_l1 (E:Sy) (Q:VK) (t3 t11:Value) (H:AH) (X0:LK):Prop :=
 mX t11 H fun v1 H1=>opt (ext v1 0) fun v2=>ifB v2 (
 opt (lN t11 H1) fun v3=>opt (ext v3 0) fun v4=>mk (buildS 1 1 #[(.int .u16 0)] [(0,v4)]) H1 fun v5 H2=>fR (app 1 2 t3 v5 H2) fun v6 H3=>X0 [v6,t11] H3) (
 E.call (E.fid i.f74) [t3] H1 fun v7 H4=>Q t3 H4)
def F.f18 (E:Sy) (x0:Value) (H:AH) (Q:VK):Prop :=
 opt (cW fE .eql x0 (.pointer none)) fun v1=>ifB v1 (
 Q (.slice none 0 0) H) (
 opt (aH x0) fun v2=>opt (aC v2 0) fun v3=>opt (aB v3 H) fun v4=>mk (mO v4 H) H fun v5 H1=>aO (fun l H X0=>F.f18_l1 E Q (nth l 0) (nth l 1) H X0) [(.slice none 0 0),v5] H1)

def F.f13 (E:Sy) (x0 x1:Value) (H:AH) (Q:VK):Prop :=
 opt (cW fE .eql x0 (.pointer none)) fun v1=>ifB v1 (
 Q (.pointer none) H) (
 opt (aH x0) fun v2=>opt (aC v2 0) fun v3=>opt (aB v3 H) fun v4=>opt (look 0 (.pointer none) false v4 x1 H) fun v5=>Q v5 H)

def F.f12_l1 (E:Sy) (Q:VK) (t8 t23:Value) (H:AH) (X0:LK):Prop :=
 mX t23 H fun v1 H1=>opt (ext v1 0) fun v2=>ifB v2 (
 opt (lN t23 H1) fun v3=>opt (ext v3 0) fun v4=>mk (buildS 1 1 #[(.string ⟨#[]⟩)] [(0,v4)]) H1 fun v5 H2=>fR (app 1 16 t8 v5 H2) fun v6 H3=>X0 [v6,t23] H3) (
 E.call (E.fid i.f75) [t8] H1 fun v7 H4=>Q (.tuple #[t8,(.int .i64 0)]) H4)
def F.f12 (E:Sy) (x0 x1:Value) (H:AH) (Q:VK):Prop :=
 E.call (E.fid i.f22) [x0,x1] H fun v1 H1=>opt (ext v1 0) fun v2=>opt (ext v1 1) fun v3=>opt (aA .neq v3 (.int .i64 0)) fun v4=>ifB v4 (
 Q (.tuple #[(.slice none 0 0),v3]) H1) (
 opt (aH v2) fun v5=>opt (aC v5 3) fun v6=>opt (aB v6 H1) fun v7=>mk (mO v7 H1) H1 fun v8 H2=>aO (fun l H X0=>F.f12_l1 E Q (nth l 0) (nth l 1) H X0) [(.slice none 0 0),v8] H2)

def F.f15 (E:Sy) (x0 x1 x2:Value) (H:AH) (Q:VK):Prop :=
 E.call (E.fid i.f22) [x0,x1] H fun v1 H1=>opt (ext v1 0) fun v2=>opt (ext v1 1) fun v3=>opt (aA .neq v3 (.int .i64 0)) fun v4=>ifB v4 (
 Q (.tuple #[(.int .u16 0),v3]) H1) (
 opt (aH v2) fun v5=>opt (aC v5 3) fun v6=>opt (aB v6 H1) fun v7=>opt (look 1 (.int .u16 0) true v7 x2 H1) fun v8=>opt (ext v8 0) fun v9=>opt (ext v8 1) fun v10=>opt (un .not v10) fun v11=>ifB v11 (
 Q (.tuple #[(.int .u16 0),(.int .i64 2)]) H1) (
 Q (.tuple #[v9,(.int .i64 0)]) H1))

def F.f43 (E:Sy) (H:AH) (Q:VK):Prop :=
 mk (buildS 12 1 #[(.string ⟨#[]⟩)] [(0,(.string ⟨#[97]⟩)),(1,(.string ⟨#[47,97]⟩)),(2,(.string ⟨#[46,46,47,98]⟩)),(3,(.string ⟨#[98,47,99]⟩)),(4,(.string ⟨#[47]⟩)),(5,(.string ⟨#[46]⟩)),(6,(.string ⟨#[46,46]⟩)),(7,(.string ⟨#[47,98,47,46,46,47,97]⟩)),(8,(.string ⟨#[102]⟩)),(9,(.string ⟨#[97,47]⟩)),(10,(.string ⟨#[110,111,116,104,105,110,103]⟩)),(11,(.string ⟨#[47,97,47,98,47,99]⟩))]) H fun v1 H1=>Q v1 H1

def F.f37_j1 (E:Sy) (Q:VK) (t0 t1 t5 t7 t8 t9 t10:Value) (H:AH):Prop :=
 opt (bC .u16 t7) fun v1=>opt (bC .u16 t8) fun v2=>opt (aC t5 0) fun v3=>opt (aB v3 H) fun v4=>opt (aA .rem v4 (.int .u8 15)) fun v5=>opt (aA .lss v5 (.int .u8 5)) fun v6=>ifB v6 (
 opt (aC t5 4) fun v7=>opt (aB v7 H) fun v8=>mk (buildS 5 1 #[(.int .u8 0)] [(0,(.int .u8 1)),(1,(.int .u8 2)),(2,(.int .u8 2)),(3,(.int .u8 3)),(4,v8)]) H fun v9 H1=>opt (aG 1 v9 v5) fun v10=>opt (aB v10 H1) fun v11=>opt (aC t5 5) fun v12=>opt (aB v12 H1) fun v13=>E.call (E.fid i.f16) [t0,v1,t9,v11,v13] H1 fun v14 H2=>opt (ext v14 0) fun v15=>opt (ext v14 1) fun v16=>opt (bC .i64 v11) fun v17=>opt (aC t5 5) fun v18=>opt (aB v18 H2) fun v19=>E.call (E.fid i.f58) [t1,t7,t9,v17,v19] H2 fun v20 H3=>opt (ext v20 0) fun v21=>opt (ext v20 1) fun v22=>opt (bC .i64 v15) fun v23=>opt (aA .eql v23 v21) fun v24=>gd v24 true (fun k=>k v16 H3) H3 fun v25 H4=>gd v24 true (fun k=>k v22 H4) H4 fun v26 H5=>gd v24 true (fun k=>opt (aA .eql v25 v26) fun v=>k v H5) H5 fun v27 H6=>opt (pick v24 v27 (.bool false)) fun v28=>Q v28 H6) (
 opt (aA .eql v5 (.int .u8 5)) fun v29=>ifB v29 (
 E.call (E.fid i.f9) [t0,v1,t9,v2] H fun v30 H7=>E.call (E.fid i.f51) [t1,t7,t9,t8] H7 fun v31 H8=>opt (aA .eql v30 v31) fun v32=>Q v32 H8) (
 opt (aA .lss v5 (.int .u8 8)) fun v33=>ifB v33 (
 opt (aC t5 8) fun v34=>opt (aB v34 H) fun v35=>opt (aC t5 8) fun v36=>opt (aB v36 H) fun v37=>E.call (E.fid i.f11) [t0,v1,t9,v35] H fun v38 H9=>aB v36 H9=aB v36 H /\
 E.call (E.fid i.f54) [t1,t7,t9,v37] H9 fun v39 H10=>opt (aA .eql v38 v39) fun v40=>Q v40 H10) (
 opt (aA .lss v5 (.int .u8 11)) fun v41=>ifB v41 (
 E.call (E.fid i.f17) [t0,v1,t9,v2,t10] H fun v42 H11=>E.call (E.fid i.f59) [t1,t7,t9,t8,t10] H11 fun v43 H12=>opt (aA .eql v42 v43) fun v44=>Q v44 H12) (
 opt (aA .eql v5 (.int .u8 11)) fun v45=>ifB v45 (
 opt (aC t5 8) fun v46=>opt (aB v46 H) fun v47=>opt (aC t5 8) fun v48=>opt (aB v48 H) fun v49=>E.call (E.fid i.f14) [t0,v1,v47] H fun v50 H13=>aB v48 H13=aB v48 H /\
 E.call (E.fid i.f55) [t1,t7,v49] H13 fun v51 H14=>opt (aA .eql v50 v51) fun v52=>Q v52 H14) (
 opt (aA .eql v5 (.int .u8 12)) fun v53=>ifB v53 (
 opt (aC t5 6) fun v54=>opt (aB v54 H) fun v55=>opt (aC t5 7) fun v56=>opt (aB v56 H) fun v57=>opt (aC t5 6) fun v58=>opt (aB v58 H) fun v59=>opt (aC t5 7) fun v60=>opt (aB v60 H) fun v61=>E.call (E.fid i.f20) [t0,v1,v55,v57] H fun v62 H15=>aB v60 H15=aB v60 H /\
 aB v58 H15=aB v58 H /\
 E.call (E.fid i.f63) [t1,t7,v59,v61] H15 fun v63 H16=>opt (aA .eql v62 v63) fun v64=>Q v64 H16) (
 opt (aA .eql v5 (.int .u8 13)) fun v65=>ifB v65 (
 opt (aC t5 6) fun v66=>opt (aB v66 H) fun v67=>opt (aC t5 6) fun v68=>opt (aB v68 H) fun v69=>E.call (E.fid i.f10) [t0,v1,v67] H fun v70 H17=>aB v68 H17=aB v68 H /\
 E.call (E.fid i.f53) [t1,t7,v69] H17 fun v71 H18=>opt (aA .eql v70 v71) fun v72=>Q v72 H18) (
 E.call (E.fid i.f15) [t0,v1,t9] H fun v73 H19=>opt (ext v73 0) fun v74=>opt (ext v73 1) fun v75=>E.call (E.fid i.f57) [t1,t7,t9] H19 fun v76 H20=>opt (ext v76 0) fun v77=>opt (ext v76 1) fun v78=>opt (bC .i64 v74) fun v79=>opt (aA .eql v79 v77) fun v80=>gd v80 true (fun k=>k v75 H20) H20 fun v81 H21=>gd v80 true (fun k=>k v78 H21) H21 fun v82 H22=>gd v80 true (fun k=>opt (aA .eql v81 v82) fun v=>k v H22) H22 fun v83 H23=>opt (pick v80 v83 (.bool false)) fun v84=>Q v84 H23)))))))
def F.f37 (E:Sy) (x0 x1 x2:Value) (H:AH) (Q:VK):Prop :=
 mk (gZ x2) H fun v1 H1=>opt (aC v1 1) fun v2=>opt (aB v2 H1) fun v3=>opt (aA .rem v3 (.int .u8 8)) fun v4=>opt (bC .i64 v4) fun v5=>opt (aC v1 2) fun v6=>opt (aB v6 H1) fun v7=>opt (aA .rem v7 (.int .u8 8)) fun v8=>opt (bC .i64 v8) fun v9=>opt (aC v1 3) fun v10=>opt (aB v10 H1) fun v11=>opt (bC .i64 v11) fun v12=>opt (aC v1 4) fun v13=>opt (aB v13 H1) fun v14=>opt (bC .i64 v14) fun v15=>E.call (E.fid i.f38) [] H1 fun v16 H2=>aB v13 H2=aB v13 H1 /\
 aB v10 H2=aB v10 H1 /\
 E.call (E.fid i.f38) [] H2 fun v17 H3=>aB v13 H3=aB v13 H1 /\
 aB v10 H3=aB v10 H1 /\
 opt (lenSlc v17) fun v18=>opt (aA .rem v12 v18) fun v19=>opt (aG 1 v16 v19) fun v20=>opt (aB v20 H3) fun v21=>E.call (E.fid i.f38) [] H3 fun v22 H4=>aB v20 H4=aB v20 H3 /\
 aB v13 H4=aB v13 H1 /\
 aB v10 H4=aB v10 H1 /\
 E.call (E.fid i.f38) [] H4 fun v23 H5=>aB v20 H5=aB v20 H3 /\
 aB v13 H5=aB v13 H1 /\
 aB v10 H5=aB v10 H1 /\
 opt (lenSlc v23) fun v24=>opt (aA .rem v15 v24) fun v25=>opt (aG 1 v22 v25) fun v26=>opt (aB v26 H5) fun v27=>opt (aC v1 9) fun v28=>opt (aB v28 H5) fun v29=>ifB v29 (
 opt (aC v1 5) fun v30=>opt (aB v30 H5) fun v31=>opt (aC v1 6) fun v32=>opt (aB v32 H5) fun v33=>opt (aA .and v33 (.int .i64 65535)) fun v34=>F.f37_j1 E Q x0 x1 v1 v34 v9 v31 v27 H5) (
 F.f37_j1 E Q x0 x1 v1 v5 v9 v21 v27 H5)

def F.f116 (E:Sy) (x0 x1:Value) (H:AH) (Q:VK):Prop :=
 mk (gZ x1) H fun v1 H1=>E.call (E.fid i.f117) [x0] H1 fun v2 H2=>opt (un .not v2) fun v3=>ifB v3 (
 Q (.bool false) H2) (
 opt (aH x0) fun v4=>opt (aC v4 0) fun v5=>opt (aB v5 H2) fun v6=>opt (aC v1 1) fun v7=>opt (aB v7 H2) fun v8=>E.call (E.fid i.f13) [v6,v8] H2 fun v9 H3=>opt (aH x0) fun v10=>opt (aC v10 1) fun v11=>opt (aB v11 H3) fun v12=>opt (aC v1 0) fun v13=>opt (aB v13 H3) fun v14=>eH [(.int .i64 0),(.int .i64 0),(.int .u16 0),(.int .u16 0),(.int .i64 0)] H3 fun v15 H4=>E.call (E.fid i.f32) [v12,v14] H4 fun v16 H5=>H5.get H3.next=H4.get H3.next /\
 opt (ext v16 0) fun v17=>opt (ext v16 1) fun v18=>opt (storeN 5 v15 v17 H5) fun H6=>gd v18 true (fun k=>k v9 H6) H6 fun v19 H7=>gd v18 true (fun k=>opt (cW fE .neq v19 (.pointer none)) fun v=>k v H7) H7 fun v20 H8=>opt (pick v18 v20 (.bool false)) fun v21=>gd v21 true (fun k=>k v9 H8) H8 fun v22 H9=>gd v21 true (fun k=>opt (aH v22) fun v=>k v H9) H9 fun v23 H10=>gd v21 true (fun k=>opt (aC v23 1) fun v=>k v H10) H10 fun v24 H11=>gd v21 true (fun k=>opt (aB v24 H11) fun v=>k v H11) H11 fun v25 H12=>gd v21 true (fun k=>opt (aA .eql v25 (.int .u8 2)) fun v=>k v H12) H12 fun v26 H13=>opt (pick v21 v26 (.bool false)) fun v27=>Q v27 H13)

def F.f31 (E:Sy) (x0 x1 x2:Value) (H:AH) (Q:VK):Prop :=
 mk (gZ x2) H fun v1 H1=>opt (cW fE .eql x0 (.pointer none)) fun v2=>ifB v2 (
 Q (.tuple #[(.int .i64 0),(.int .i64 201)]) H1) (
 opt (aC v1 0) fun v3=>opt (aB v3 H1) fun v4=>E.call (E.fid i.f35) [x0,v4] H1 fun v5 H2=>opt (aA .lss v5 (.int .i64 0)) fun v6=>ifB v6 (
 Q (.tuple #[(.int .i64 0),(.int .i64 22)]) H2) (
 opt (bM 2 v1 H2) fun v7=>opt (bM 2 v1 H2) fun v8=>E.call (E.fid i.f33) [x0,v7] H2 fun v9 H3=>bM 2 v1 H3=bM 2 v1 H2 /\
 opt (iS [0,0] .neq v9 v8) fun v10=>ifB v10 (
 Q (.tuple #[(.int .i64 0),(.int .i64 16)]) H3) (
 opt (aH x0) fun v11=>opt (aC v11 0) fun v12=>opt (aB v12 H3) fun v13=>opt (lenSlc v13) fun v14=>opt (aA .geq v14 (.int .i64 16)) fun v15=>ifB v15 (
 Q (.tuple #[(.int .i64 0),(.int .i64 28)]) H3) (
 opt (aH x0) fun v16=>opt (aC v16 1) fun v17=>opt (aB v17 H3) fun v18=>opt (aH x0) fun v19=>opt (aC v19 1) fun v20=>opt (aB v20 H3) fun v21=>opt (aA .add v21 (.int .i64 1)) fun v22=>opt (aH x0) fun v23=>opt (aC v23 1) fun v24=>opt (aN v24 v22 H3) fun H4=>opt (aH x0) fun v25=>opt (aC v25 0) fun v26=>opt (aB v26 H4) fun v27=>opt (bM 2 v1 H4) fun v28=>opt (bR [(0,1),(1,2),(3,1),(4,1)] #[(.int .i64 0),(.int .i64 0),(.int .u16 0),(.int .u16 0),(.int .i64 0)] [(0,v18),(1,v28),(2,x1)]) fun v29=>mk (buildS 1 5 #[(.int .i64 0),(.int .i64 0),(.int .u16 0),(.int .u16 0),(.int .i64 0)] [(0,v29)]) H4 fun v30 H5=>fR (app 5 40 v27 v30 H5) fun v31 H6=>opt (aH x0) fun v32=>opt (aC v32 0) fun v33=>opt (aN v33 v31 H6) fun H7=>Q (.tuple #[v18,(.int .i64 0)]) H7))))

def F.f39 (E:Sy) (x0:Value) (H:AH) (Q:VK):Prop :=
 mk (gZ x0) H fun v1 H1=>eH [(.int .i64 0),(.int .i64 0)] H1 fun v2 H2=>opt (aC v1 0) fun v3=>opt (aB v3 H2) fun v4=>opt (aC v1 1) fun v5=>opt (aB v5 H2) fun v6=>opt (bC .i64 v6) fun v7=>opt (bR [(0,1),(1,1)] #[(.int .i64 0),(.int .i64 0)] [(0,v4),(1,v7)]) fun v8=>opt (storeN 2 v2 v8 H2) fun H3=>opt (bM 2 v2 H3) fun v9=>Q v9 H3

def F.f52 (E:Sy) (x0 x1 x2:Value) (H:AH) (Q:VK):Prop :=
 mk (gZ x2) H fun v1 H1=>opt (aC v1 0) fun v2=>opt (aB v2 H1) fun v3=>E.call (E.fid i.f66) [x0,v3] H1 fun v4 H2=>opt (aA .lss v4 (.int .i64 0)) fun v5=>ifB v5 (
 Q (.tuple #[(.int .i64 0),(.int .i64 22)]) H2) (
 opt (bM 2 v1 H2) fun v6=>opt (bM 2 v1 H2) fun v7=>E.call (E.fid i.f61) [x0,v6] H2 fun v8 H3=>bM 2 v1 H3=bM 2 v1 H2 /\
 opt (iS [0,0] .neq v8 v7) fun v9=>ifB v9 (
 Q (.tuple #[(.int .i64 0),(.int .i64 16)]) H3) (
 opt (aH x0) fun v10=>opt (aC v10 2) fun v11=>opt (aB v11 H3) fun v12=>opt (lenSlc v12) fun v13=>opt (aA .geq v13 (.int .i64 16)) fun v14=>ifB v14 (
 Q (.tuple #[(.int .i64 0),(.int .i64 28)]) H3) (
 opt (aH x0) fun v15=>opt (aC v15 3) fun v16=>opt (aB v16 H3) fun v17=>opt (aH x0) fun v18=>opt (aC v18 3) fun v19=>opt (aB v19 H3) fun v20=>opt (aA .add v20 (.int .i64 1)) fun v21=>opt (aH x0) fun v22=>opt (aC v22 3) fun v23=>opt (aN v23 v21 H3) fun H4=>opt (aH x0) fun v24=>opt (aC v24 2) fun v25=>opt (aB v25 H4) fun v26=>opt (bM 2 v1 H4) fun v27=>opt (bR [(0,1),(1,1),(2,2),(4,1)] #[(.int .i64 0),(.int .i64 0),(.int .i64 0),(.int .i64 0),(.int .i64 0)] [(0,v17),(1,x1),(2,v27)]) fun v28=>mk (buildS 1 5 #[(.int .i64 0),(.int .i64 0),(.int .i64 0),(.int .i64 0),(.int .i64 0)] [(0,v28)]) H4 fun v29 H5=>fR (app 5 40 v26 v29 H5) fun v30 H6=>opt (aH x0) fun v31=>opt (aC v31 2) fun v32=>opt (aN v32 v30 H6) fun H7=>Q (.tuple #[v17,(.int .i64 0)]) H7)))

def F.f14 (E:Sy) (x0 x1 x2:Value) (H:AH) (Q:VK):Prop :=
 E.call (E.fid i.f13) [x0,x1] H fun v1 H1=>opt (cW fE .eql v1 (.pointer none)) fun v2=>ifB v2 (
 Q (.int .i64 2) H1) (
 opt (un .not x2) fun v3=>gd v3 true (fun k=>k v1 H1) H1 fun v4 H2=>gd v3 true (fun k=>opt (aH v4) fun v=>k v H2) H2 fun v5 H3=>gd v3 true (fun k=>opt (aC v5 7) fun v=>k v H3) H3 fun v6 H4=>gd v3 true (fun k=>opt (aB v6 H4) fun v=>k v H4) H4 fun v7 H5=>gd v3 true (fun k=>opt (aA .eql v7 (.int .i64 0)) fun v=>k v H5) H5 fun v8 H6=>opt (pick v3 v8 (.bool false)) fun v9=>ifB v9 (
 Q (.int .i64 22) H6) (
 ifB x2 (
 opt (aH v1) fun v10=>opt (aC v10 7) fun v11=>opt (aB v11 H6) fun v12=>opt (aA .add v12 (.int .i64 1)) fun v13=>opt (aH v1) fun v14=>opt (aC v14 7) fun v15=>opt (aN v15 v13 H6) fun H7=>Q (.int .i64 0) H7) (
 opt (aH v1) fun v16=>opt (aC v16 7) fun v17=>opt (aB v17 H6) fun v18=>opt (aA .sub v18 (.int .i64 1)) fun v19=>opt (aH v1) fun v20=>opt (aC v20 7) fun v21=>opt (aN v21 v19 H6) fun H8=>E.call (E.fid i.f26) [x0,x1] H8 fun v22 H9=>Q (.int .i64 0) H9)))

def F.f55 (E:Sy) (x0 x1 x2:Value) (H:AH) (Q:VK):Prop :=
 E.call (E.fid i.f60) [x0,x1] H fun v1 H1=>opt (aH v1) fun v2=>opt (aC v2 0) fun v3=>opt (aB v3 H1) fun v4=>opt (aA .eql v4 (.int .i64 0)) fun v5=>ifB v5 (
 Q (.int .i64 2) H1) (
 ifB x2 (
 opt (aH v1) fun v6=>opt (aC v6 6) fun v7=>opt (aB v7 H1) fun v8=>opt (aA .add v8 (.int .i64 1)) fun v9=>opt (aH v1) fun v10=>opt (aC v10 6) fun v11=>opt (aN v11 v9 H1) fun H2=>Q (.int .i64 0) H2) (
 opt (aH v1) fun v12=>opt (aC v12 6) fun v13=>opt (aB v13 H1) fun v14=>opt (aA .eql v14 (.int .i64 0)) fun v15=>ifB v15 (
 Q (.int .i64 22) H1) (
 opt (aH v1) fun v16=>opt (aC v16 6) fun v17=>opt (aB v17 H1) fun v18=>opt (aA .sub v18 (.int .i64 1)) fun v19=>opt (aH v1) fun v20=>opt (aC v20 6) fun v21=>opt (aN v21 v19 H1) fun H3=>E.call (E.fid i.f69) [x0,x1] H3 fun v22 H4=>Q (.int .i64 0) H4)))

def F.f110 (E:Sy) (x0 x1:Value) (H:AH) (Q:VK):Prop :=
 mk (gZ x0) H fun v1 H1=>mk (gZ x1) H1 fun v2 H2=>opt (aC v1 1) fun v3=>opt (aB v3 H2) fun v4=>opt (aC v2 1) fun v5=>opt (aB v5 H2) fun v6=>opt (aA .eql v4 v6) fun v7=>gd v7 true (fun k=>opt (aC v1 2) fun v=>k v H2) H2 fun v8 H3=>gd v7 true (fun k=>opt (aB v8 H3) fun v=>k v H3) H3 fun v9 H4=>gd v7 true (fun k=>opt (aC v2 2) fun v=>k v H4) H4 fun v10 H5=>gd v7 true (fun k=>opt (aB v10 H5) fun v=>k v H5) H5 fun v11 H6=>gd v7 true (fun k=>opt (cE .eql v9 v11) fun v=>k v H6) H6 fun v12 H7=>opt (pick v7 v12 (.bool false)) fun v13=>Q v13 H7

def F.f109_j2 (E:Sy) (Q:VK) (X0:LK) (t2 t3 t5 t6 t7:Value) (H:AH):Prop :=
 opt (aA .add t6 (.int .i64 1)) fun v1=>opt (aA .add t7 (.int .i64 1)) fun v2=>X0 [t2,t3,t5,v1,v2] H
def F.f109_j1 (E:Sy) (Q:VK) (X0:LK) (t2 t3 t5 t6 t7 t8:Value) (H:AH):Prop :=
 opt (aA .lss t8 (.int .i64 0)) fun v1=>ifB v1 (
 opt (aC t2 0) fun v2=>opt (aB v2 H) fun v3=>opt (aC t2 3) fun v4=>opt (aB v4 H) fun v5=>opt (aG 1 v5 t6) fun v6=>opt (aB v6 H) fun v7=>opt (aC t2 4) fun v8=>opt (aB v8 H) fun v9=>opt (aG 1 v9 t6) fun v10=>opt (aB v10 H) fun v11=>opt (bR [(0,1),(1,1),(2,1),(3,1),(4,1)] #[(.int .u8 0),(.int .u16 0),(.string ⟨#[]⟩),(.int .u16 0),(.int .u16 0)] [(0,(.int .u8 5)),(1,v3),(2,v7),(3,v11),(4,(.int .u16 0))]) fun v12=>mk (buildS 1 5 #[(.int .u8 0),(.int .u16 0),(.string ⟨#[]⟩),(.int .u16 0),(.int .u16 0)] [(0,v12)]) H fun v13 H1=>fR (app 5 32 t5 v13 H1) fun v14 H2=>opt (aA .add t6 (.int .i64 1)) fun v15=>X0 [t2,t3,v14,v15,t7] H2) (
 opt (aA .gtr t8 (.int .i64 0)) fun v16=>ifB v16 (
 opt (aC t2 0) fun v17=>opt (aB v17 H) fun v18=>opt (aC t3 3) fun v19=>opt (aB v19 H) fun v20=>opt (aG 1 v20 t7) fun v21=>opt (aB v21 H) fun v22=>opt (aC t3 4) fun v23=>opt (aB v23 H) fun v24=>opt (aG 1 v24 t7) fun v25=>opt (aB v25 H) fun v26=>opt (bR [(0,1),(1,1),(2,1),(3,1),(4,1)] #[(.int .u8 0),(.int .u16 0),(.string ⟨#[]⟩),(.int .u16 0),(.int .u16 0)] [(0,(.int .u8 4)),(1,v18),(2,v22),(3,(.int .u16 0)),(4,v26)]) fun v27=>mk (buildS 1 5 #[(.int .u8 0),(.int .u16 0),(.string ⟨#[]⟩),(.int .u16 0),(.int .u16 0)] [(0,v27)]) H fun v28 H3=>fR (app 5 32 t5 v28 H3) fun v29 H4=>opt (aA .add t7 (.int .i64 1)) fun v30=>X0 [t2,t3,v29,t6,v30] H4) (
 opt (aC t2 4) fun v31=>opt (aB v31 H) fun v32=>opt (aG 1 v32 t6) fun v33=>opt (aB v33 H) fun v34=>opt (aC t3 4) fun v35=>opt (aB v35 H) fun v36=>opt (aG 1 v36 t7) fun v37=>opt (aB v37 H) fun v38=>opt (aA .neq v34 v38) fun v39=>ifB v39 (
 opt (aC t2 0) fun v40=>opt (aB v40 H) fun v41=>opt (aC t2 3) fun v42=>opt (aB v42 H) fun v43=>opt (aG 1 v43 t6) fun v44=>opt (aB v44 H) fun v45=>opt (aC t2 4) fun v46=>opt (aB v46 H) fun v47=>opt (aG 1 v47 t6) fun v48=>opt (aB v48 H) fun v49=>opt (aC t3 4) fun v50=>opt (aB v50 H) fun v51=>opt (aG 1 v51 t7) fun v52=>opt (aB v52 H) fun v53=>opt (bR [(0,1),(1,1),(2,1),(3,1),(4,1)] #[(.int .u8 0),(.int .u16 0),(.string ⟨#[]⟩),(.int .u16 0),(.int .u16 0)] [(0,(.int .u8 6)),(1,v41),(2,v45),(3,v49),(4,v53)]) fun v54=>mk (buildS 1 5 #[(.int .u8 0),(.int .u16 0),(.string ⟨#[]⟩),(.int .u16 0),(.int .u16 0)] [(0,v54)]) H fun v55 H5=>fR (app 5 32 t5 v55 H5) fun v56 H6=>F.f109_j2 E Q X0 t2 t3 v56 t6 t7 H6) (
 F.f109_j2 E Q X0 t2 t3 t5 t6 t7 H)))
def F.f109_l1 (E:Sy) (Q:VK) (t2 t3 t5 t6 t7:Value) (H:AH) (X0:LK):Prop :=
 opt (aC t2 3) fun v1=>opt (aB v1 H) fun v2=>opt (lenSlc v2) fun v3=>opt (aA .lss t6 v3) fun v4=>gd v4 false (fun k=>k t7 H) H fun v5 H1=>gd v4 false (fun k=>opt (aC t3 3) fun v=>k v H1) H1 fun v6 H2=>gd v4 false (fun k=>opt (aB v6 H2) fun v=>k v H2) H2 fun v7 H3=>gd v4 false (fun k=>opt (lenSlc v7) fun v=>k v H3) H3 fun v8 H4=>gd v4 false (fun k=>opt (aA .lss v5 v8) fun v=>k v H4) H4 fun v9 H5=>opt (pick v4 (.bool true) v9) fun v10=>ifB v10 (
 opt (aC t2 3) fun v11=>opt (aB v11 H5) fun v12=>opt (lenSlc v12) fun v13=>opt (aA .eql t6 v13) fun v14=>ifB v14 (
 F.f109_j1 E Q X0 t2 t3 t5 t6 t7 (.int .i64 1) H5) (
 opt (aC t3 3) fun v15=>opt (aB v15 H5) fun v16=>opt (lenSlc v16) fun v17=>opt (aA .eql t7 v17) fun v18=>ifB v18 (
 F.f109_j1 E Q X0 t2 t3 t5 t6 t7 (.int .i64 (-1)) H5) (
 opt (aC t2 3) fun v19=>opt (aB v19 H5) fun v20=>opt (aG 1 v20 t6) fun v21=>opt (aB v21 H5) fun v22=>opt (aC t3 3) fun v23=>opt (aB v23 H5) fun v24=>opt (aG 1 v24 t7) fun v25=>opt (aB v25 H5) fun v26=>E.call (E.fid i.f1) [v22,v26] H5 fun v27 H6=>F.f109_j1 E Q X0 t2 t3 t5 t6 t7 v27 H6))) (
 Q t5 H5)
def F.f109 (E:Sy) (x0 x1:Value) (H:AH) (Q:VK):Prop :=
 mk (gZ x0) H fun v1 H1=>mk (gZ x1) H1 fun v2 H2=>aO (fun l H X0=>F.f109_l1 E Q (nth l 0) (nth l 1) (nth l 2) (nth l 3) (nth l 4) H X0) [v1,v2,(.slice none 0 0),(.int .i64 0),(.int .i64 0)] H2

def F.f108_j2 (E:Sy) (Q:VK) (t43:Value) (H:AH):Prop :=
 ifB t43 (
 Q (.int .i64 0) H) (
 Q (.int .i64 22) H)
def F.f108_j1 (E:Sy) (Q:VK) (t3 t5 t11 t17:Value) (H:AH):Prop :=
 ifB t17 (
 opt (cW sR .eql t5 (.map none)) fun v1=>gd v1 false (fun k=>k t5 H) H fun v2 H1=>gd v1 false (fun k=>opt (aC t3 2) fun v=>k v H1) H1 fun v3 H2=>gd v1 false (fun k=>opt (aB v3 H2) fun v=>k v H2) H2 fun v4 H3=>gd v1 false (fun k=>opt (look 1 (.int .u16 0) false v2 v4 H3) fun v=>k v H3) H3 fun v5 H4=>gd v1 false (fun k=>opt (aC t3 3) fun v=>k v H4) H4 fun v6 H5=>gd v1 false (fun k=>opt (aB v6 H5) fun v=>k v H5) H5 fun v7 H6=>gd v1 false (fun k=>opt (aA .neq v5 v7) fun v=>k v H6) H6 fun v8 H7=>opt (pick v1 (.bool true) v8) fun v9=>ifB v9 (
 Q (.int .i64 22) H7) (
 opt (aC t3 0) fun v10=>opt (aB v10 H7) fun v11=>opt (aA .eql v11 (.int .u8 5)) fun v12=>ifB v12 (
 opt (aC t3 2) fun v13=>opt (aB v13 H7) fun v14=>opt (gN 1 t5 v14 H7) fun H8=>Q (.int .i64 0) H8) (
 opt (aC t3 2) fun v15=>opt (aB v15 H7) fun v16=>opt (aC t3 4) fun v17=>opt (aB v17 H7) fun v18=>opt (setMap 1 t5 v16 v18 H7) fun H9=>Q (.int .i64 0) H9))) (
 opt (aA .eql t11 (.int .u8 1)) fun v19=>ifB v19 (
 F.f108_j2 E Q v19 H) (
 opt (aA .eql t11 (.int .u8 3)) fun v20=>F.f108_j2 E Q v20 H))
def F.f108 (E:Sy) (x0 x1:Value) (H:AH) (Q:VK):Prop :=
 mk (gZ x1) H fun v1 H1=>opt (aC v1 1) fun v2=>opt (aB v2 H1) fun v3=>opt (look 0 (.map none) false x0 v3 H1) fun v4=>opt (aC v1 0) fun v5=>opt (aB v5 H1) fun v6=>opt (aA .eql v6 (.int .u8 2)) fun v7=>ifB v7 (
 opt (aC v1 1) fun v8=>opt (aB v8 H1) fun v9=>opt (gN 0 x0 v9 H1) fun H2=>Q (.int .i64 0) H2) (
 opt (aA .eql v6 (.int .u8 4)) fun v10=>ifB v10 (
 F.f108_j1 E Q v1 v4 v6 v10 H1) (
 opt (aA .eql v6 (.int .u8 5)) fun v11=>ifB v11 (
 F.f108_j1 E Q v1 v4 v6 v11 H1) (
 opt (aA .eql v6 (.int .u8 6)) fun v12=>F.f108_j1 E Q v1 v4 v6 v12 H1)))

def F.f8 (E:Sy) (x0:Value) (H:AH) (Q:VK):Prop :=
 aEn H fun v1 H1=>opt (jE max2 [x0,(.int .i64 1)]) fun v2=>opt (jE min2 [v2,(.int .i64 256)]) fun v3=>opt (bR [(0,1),(1,1),(2,1)] #[(.map none),(.int .i64 0),(.int .i64 0)] [(0,v1),(1,v3)]) fun v4=>mk (gZ v4) H1 fun v5 H2=>opt (aH v5) fun v6=>opt (aC v6 0) fun v7=>opt (aB v7 H2) fun v8=>aEn H2 fun v9 H3=>opt (bR [(0,1),(1,1),(2,1),(3,1),(4,1),(5,1),(6,1),(7,1)] #[(.int .u16 0),(.int .u8 0),(.slice none 0 0),(.map none),(.int .u16 0),(.string ⟨#[]⟩),(.int .i64 0),(.int .i64 0)] [(0,(.int .u16 1)),(1,(.int .u8 2)),(3,v9),(4,(.int .u16 1)),(6,(.int .i64 1))]) fun v10=>mk (gZ v10) H3 fun v11 H4=>opt (setMap 0 v8 (.int .u16 1) v11 H4) fun H5=>Q v5 H5

def F.f30 (E:Sy) (H:AH) (Q:VK):Prop :=
 opt (bR [(0,1),(1,2),(3,1),(4,1)] #[(.int .i64 0),(.int .i64 0),(.int .u16 0),(.int .u16 0),(.int .i64 0)] [(2,(.int .u16 1))]) fun v1=>mk (buildS 1 5 #[(.int .i64 0),(.int .i64 0),(.int .u16 0),(.int .u16 0),(.int .i64 0)] [(0,v1)]) H fun v2 H1=>opt (bR [(0,1),(1,1)] #[(.slice none 0 0),(.int .i64 0)] [(0,v2),(1,(.int .i64 1))]) fun v3=>mk (gZ v3) H1 fun v4 H2=>Q v4 H2

def F.f24 (E:Sy) (x0 x1 x2:Value) (H:AH) (Q:VK):Prop :=
 E.call (E.fid i.f22) [x0,x1] H fun v1 H1=>opt (ext v1 0) fun v2=>opt (ext v1 1) fun v3=>opt (aA .neq v3 (.int .i64 0)) fun v4=>ifB v4 (
 Q (.tuple #[(.pointer none),v3]) H1) (
 E.call (E.fid i.f6) [x2] H1 fun v5 H2=>opt (un .not v5) fun v6=>ifB v6 (
 Q (.tuple #[(.pointer none),(.int .i64 22)]) H2) (
 opt (aH v2) fun v7=>opt (aC v7 3) fun v8=>opt (aB v8 H2) fun v9=>opt (look 1 (.int .u16 0) true v9 x2 H2) fun v10=>opt (ext v10 0) fun v11=>opt (ext v10 1) fun v12=>ifB v12 (
 Q (.tuple #[(.pointer none),(.int .i64 17)]) H2) (
 opt (aH v2) fun v13=>opt (aC v13 6) fun v14=>opt (aB v14 H2) fun v15=>opt (aA .eql v15 (.int .i64 0)) fun v16=>ifB v16 (
 Q (.tuple #[(.pointer none),(.int .i64 2)]) H2) (
 opt (aH v2) fun v17=>opt (aC v17 3) fun v18=>opt (aB v18 H2) fun v19=>opt (iB v19 H2) fun v20=>opt (aA .geq v20 (.int .i64 32)) fun v21=>ifB v21 (
 Q (.tuple #[(.pointer none),(.int .i64 28)]) H2) (
 Q (.tuple #[v2,(.int .i64 0)]) H2)))))

def F.f21_l1 (E:Sy) (Q:VK) (t0 t1 t5:Value) (H:AH) (X0:LK):Prop :=
 opt (aA .neq t1 (.int .u16 1)) fun v1=>gd v1 true (fun k=>k t5 H) H fun v2 H1=>gd v1 true (fun k=>opt (aA .leq v2 (.int .i64 16)) fun v=>k v H1) H1 fun v3 H2=>opt (pick v1 v3 (.bool false)) fun v4=>ifB v4 (
 opt (aH t0) fun v5=>opt (aC v5 0) fun v6=>opt (aB v6 H2) fun v7=>opt (look 0 (.pointer none) false v7 t1 H2) fun v8=>opt (aH v8) fun v9=>opt (aC v9 4) fun v10=>opt (aB v10 H2) fun v11=>opt (aA .add t5 (.int .i64 1)) fun v12=>X0 [t0,v11,v12] H2) (
 Q t5 H2)
def F.f21 (E:Sy) (x0 x1:Value) (H:AH) (Q:VK):Prop :=
 aO (fun l H X0=>F.f21_l1 E Q (nth l 0) (nth l 1) (nth l 2) H X0) [x0,x1,(.int .i64 0)] H

def F.f114 (E:Sy) (x0 x1:Value) (H:AH) (Q:VK):Prop :=
 opt (aH x0) fun v1=>opt (aC v1 0) fun v2=>E.call (E.fid i.f113) [v2,x1] H fun v3 H1=>Q v3 H1

def F.f0 (E:Sy) (x0:Value) (H:AH) (Q:VK):Prop :=
 opt (aA .gtr x0 (.int .u64 9)) fun v1=>ifB v1 (
 opt (aA .quo x0 (.int .u64 10)) fun v2=>E.call (E.fid i.f0) [v2] H fun v3 H1=>opt (aA .rem x0 (.int .u64 10)) fun v4=>E.call (E.fid i.f0) [v4] H1 fun v5 H2=>opt (cE .add v3 v5) fun v6=>Q v6 H2) (
 opt (aA .add (.int .u64 48) x0) fun v7=>opt (bC .u8 v7) fun v8=>mk (buildS 1 1 #[(.int .u8 0)] [(0,v8)]) H fun v9 H3=>opt (oN v9 H3) fun v10=>Q v10 H3)

def F.f74 (E:Sy) (x0:Value) (H:AH) (Q:VK):Prop :=
 opt (lenSlc x0) fun v1=>opt (bC .u64 v1) fun v2=>E.call (E.fid i.f27) [v2] H fun v3 H1=>E.call (E.fid i.f97) [x0,(.int .i64 0),v1,v3] H1 fun v4 H2=>Q (.tuple #[]) H2

def F.f22 (E:Sy) (x0 x1:Value) (H:AH) (Q:VK):Prop :=
 E.call (E.fid i.f13) [x0,x1] H fun v1 H1=>opt (cW fE .eql v1 (.pointer none)) fun v2=>ifB v2 (
 Q (.tuple #[(.pointer none),(.int .i64 2)]) H1) (
 opt (aH v1) fun v3=>opt (aC v3 1) fun v4=>opt (aB v4 H1) fun v5=>opt (aA .neq v5 (.int .u8 2)) fun v6=>ifB v6 (
 Q (.tuple #[(.pointer none),(.int .i64 20)]) H1) (
 Q (.tuple #[v1,(.int .i64 0)]) H1))

def F.f75 (E:Sy) (x0:Value) (H:AH) (Q:VK):Prop :=
 opt (lenSlc x0) fun v1=>opt (bC .u64 v1) fun v2=>E.call (E.fid i.f27) [v2] H fun v3 H1=>E.call (E.fid i.f98) [x0,(.int .i64 0),v1,v3] H1 fun v4 H2=>Q (.tuple #[]) H2

def F.f38 (E:Sy) (H:AH) (Q:VK):Prop :=
 mk (buildS 9 1 #[(.string ⟨#[]⟩)] [(0,(.string ⟨#[97]⟩)),(1,(.string ⟨#[98]⟩)),(2,(.string ⟨#[99]⟩)),(3,(.string ⟨#[100,46,101]⟩)),(4,(.string ⟨#[102]⟩)),(5,(.string ⟨#[103]⟩)),(6,(.string ⟨#[]⟩)),(7,(.string ⟨#[46,46]⟩)),(8,(.string ⟨#[97,47,98]⟩))]) H fun v1 H1=>Q v1 H1

def F.f58_j3 (E:Sy) (Q:VK) (t0 t1 t2 t13 t14:Value) (H:AH):Prop :=
 opt (aH t0) fun v1=>opt (aC v1 0) fun v2=>opt (aB v2 H) fun v3=>opt (bM 7 t14 H) fun v4=>opt (aG 7 v3 t13) fun v5=>opt (storeN 7 v5 v4 H) fun H1=>opt (aH t0) fun v6=>opt (aC v6 0) fun v7=>opt (aB v7 H1) fun v8=>opt (aH t0) fun v9=>opt (aC v9 0) fun v10=>opt (aB v10 H1) fun v11=>opt (aG 7 v11 t1) fun v12=>opt (aC v12 2) fun v13=>opt (aB v13 H1) fun v14=>opt (bR [(0,1),(1,1)] #[(.string ⟨#[]⟩),(.int .i64 0)] [(0,t2),(1,t13)]) fun v15=>E.call (E.fid i.f71) [v14,v15] H1 fun v16 H2=>aB v7 H2=aB v7 H1 /\
 opt (aG 7 v8 t1) fun v17=>opt (aC v17 2) fun v18=>opt (aN v18 v16 H2) fun H3=>opt (aH t0) fun v19=>opt (aC v19 4) fun v20=>opt (aB v20 H3) fun v21=>opt (aA .add v21 (.int .i64 1)) fun v22=>opt (aH t0) fun v23=>opt (aC v23 4) fun v24=>opt (aN v24 v22 H3) fun H4=>Q (.tuple #[t13,(.int .i64 0)]) H4
def F.f58_j2 (E:Sy) (Q:VK) (t0 t1 t2 t3 t4 t13 t14:Value) (H:AH):Prop :=
 opt (aA .eql t3 (.int .i64 3)) fun v1=>ifB v1 (
 opt (aC t14 4) fun v2=>opt (aN v2 t4 H) fun H1=>F.f58_j3 E Q t0 t1 t2 t13 t14 H1) (
 F.f58_j3 E Q t0 t1 t2 t13 t14 H)
def F.f58_j1 (E:Sy) (Q:VK) (t0 t1 t2 t3 t4 t13:Value) (H:AH):Prop :=
 opt (bR [(0,1),(1,1),(2,1),(3,1),(4,1),(5,1),(6,1)] #[(.int .i64 0),(.slice none 0 0),(.slice none 0 0),(.int .i64 0),(.string ⟨#[]⟩),(.int .i64 0),(.int .i64 0)] [(0,t3),(5,(.int .i64 1))]) fun v1=>eH [(.int .i64 0),(.slice none 0 0),(.slice none 0 0),(.int .i64 0),(.string ⟨#[]⟩),(.int .i64 0),(.int .i64 0)] H fun v2 H1=>opt (storeN 7 v2 v1 H1) fun H2=>opt (aA .eql t3 (.int .i64 2)) fun v3=>ifB v3 (
 opt (aC v2 3) fun v4=>opt (aN v4 t1 H2) fun H3=>F.f58_j2 E Q t0 t1 t2 t3 t4 t13 v2 H3) (
 F.f58_j2 E Q t0 t1 t2 t3 t4 t13 v2 H2)
def F.f58_l1 (E:Sy) (Q:VK) (t0 t1 t2 t3 t4 t13:Value) (H:AH) (X0:LK):Prop :=
 opt (aH t0) fun v1=>opt (aC v1 0) fun v2=>opt (aB v2 H) fun v3=>opt (lenSlc v3) fun v4=>opt (aA .lss t13 v4) fun v5=>gd v5 true (fun k=>k t0 H) H fun v6 H1=>gd v5 true (fun k=>opt (aH v6) fun v=>k v H1) H1 fun v7 H2=>gd v5 true (fun k=>opt (aC v7 0) fun v=>k v H2) H2 fun v8 H3=>gd v5 true (fun k=>opt (aB v8 H3) fun v=>k v H3) H3 fun v9 H4=>gd v5 true (fun k=>k t13 H4) H4 fun v10 H5=>gd v5 true (fun k=>opt (aG 7 v9 v10) fun v=>k v H5) H5 fun v11 H6=>gd v5 true (fun k=>opt (aC v11 0) fun v=>k v H6) H6 fun v12 H7=>gd v5 true (fun k=>opt (aB v12 H7) fun v=>k v H7) H7 fun v13 H8=>gd v5 true (fun k=>opt (aA .gtr v13 (.int .i64 0)) fun v=>k v H8) H8 fun v14 H9=>opt (pick v5 v14 (.bool false)) fun v15=>ifB v15 (
 opt (aA .add t13 (.int .i64 1)) fun v16=>X0 [t0,t1,t2,t3,t4,v16] H9) (
 opt (aH t0) fun v17=>opt (aC v17 0) fun v18=>opt (aB v18 H9) fun v19=>opt (lenSlc v19) fun v20=>opt (aA .eql t13 v20) fun v21=>ifB v21 (
 opt (aH t0) fun v22=>opt (aC v22 0) fun v23=>opt (aB v23 H9) fun v24=>opt (bR [(0,1),(1,1),(2,1),(3,1),(4,1),(5,1),(6,1)] #[(.int .i64 0),(.slice none 0 0),(.slice none 0 0),(.int .i64 0),(.string ⟨#[]⟩),(.int .i64 0),(.int .i64 0)] []) fun v25=>mk (buildS 1 7 #[(.int .i64 0),(.slice none 0 0),(.slice none 0 0),(.int .i64 0),(.string ⟨#[]⟩),(.int .i64 0),(.int .i64 0)] [(0,v25)]) H9 fun v26 H10=>fR (app 7 96 v24 v26 H10) fun v27 H11=>opt (aH t0) fun v28=>opt (aC v28 0) fun v29=>opt (aN v29 v27 H11) fun H12=>F.f58_j1 E Q t0 t1 t2 t3 t4 t13 H12) (
 F.f58_j1 E Q t0 t1 t2 t3 t4 t13 H9))
def F.f58 (E:Sy) (x0 x1 x2 x3 x4:Value) (H:AH) (Q:VK):Prop :=
 E.call (E.fid i.f67) [x0,x1,x2] H fun v1 H1=>opt (aA .neq v1 (.int .i64 0)) fun v2=>ifB v2 (
 Q (.tuple #[(.int .i64 0),v1]) H1) (
 opt (aA .lss x3 (.int .i64 1)) fun v3=>gd v3 false (fun k=>k x3 H1) H1 fun v4 H2=>gd v3 false (fun k=>opt (aA .gtr v4 (.int .i64 3)) fun v=>k v H2) H2 fun v5 H3=>opt (pick v3 (.bool true) v5) fun v6=>gd v6 false (fun k=>k x3 H3) H3 fun v7 H4=>gd v6 false (fun k=>opt (aA .eql v7 (.int .i64 3)) fun v=>k v H4) H4 fun v8 H5=>gd v6 false (fun k=>k v8 H5) H5 fun v9 H6=>gd v9 true (fun k=>k x4 H6) H6 fun v10 H7=>gd v9 true (fun k=>opt (iQ v10) fun v=>k v H7) H7 fun v11 H8=>gd v9 true (fun k=>opt (aA .lss v11 (.int .i64 1)) fun v=>k v H8) H8 fun v12 H9=>gd v9 true (fun k=>k v12 H9) H9 fun v13 H10=>gd v13 false (fun k=>k x4 H10) H10 fun v14 H11=>gd v13 false (fun k=>opt (iQ v14) fun v=>k v H11) H11 fun v15 H12=>gd v13 false (fun k=>opt (aA .gtr v15 (.int .i64 120)) fun v=>k v H12) H12 fun v16 H13=>gd v9 true (fun k=>opt (pick v13 (.bool true) v16) fun v=>k v H13) H13 fun v17 H14=>gd v6 false (fun k=>opt (pick v9 v17 (.bool false)) fun v=>k v H14) H14 fun v18 H15=>opt (pick v6 (.bool true) v18) fun v19=>ifB v19 (
 Q (.tuple #[(.int .i64 0),(.int .i64 22)]) H15) (
 opt (aH x0) fun v20=>opt (aC v20 1) fun v21=>opt (aB v21 H15) fun v22=>E.call (E.fid i.f56) [x0] H15 fun v23 H16=>aB v21 H16=aB v21 H15 /\
 opt (aA .geq v23 v22) fun v24=>gd v24 false (fun k=>k x3 H16) H16 fun v25 H17=>gd v24 false (fun k=>opt (aA .eql v25 (.int .i64 2)) fun v=>k v H17) H17 fun v26 H18=>gd v24 false (fun k=>k v26 H18) H18 fun v27 H19=>gd v27 true (fun k=>k x0 H19) H19 fun v28 H20=>gd v27 true (fun k=>k x1 H20) H20 fun v29 H21=>gd v27 true (fun k=>E.call (E.fid i.f64) [v28,v29] H21 fun v h=>k v h) H21 fun v30 H22=>gd v27 true (fun k=>opt (aA .geq v30 (.int .i64 16)) fun v=>k v H22) H22 fun v31 H23=>gd v24 false (fun k=>opt (pick v27 v31 (.bool false)) fun v=>k v H23) H23 fun v32 H24=>opt (pick v24 (.bool true) v32) fun v33=>ifB v33 (
 Q (.tuple #[(.int .i64 0),(.int .i64 28)]) H24) (
 aO (fun l H X0=>F.f58_l1 E Q (nth l 0) (nth l 1) (nth l 2) (nth l 3) (nth l 4) (nth l 5) H X0) [x0,x1,x2,x3,x4,(.int .i64 1)] H24)))

def F.f9 (E:Sy) (x0 x1 x2 x3:Value) (H:AH) (Q:VK):Prop :=
 E.call (E.fid i.f13) [x0,x3] H fun v1 H1=>E.call (E.fid i.f24) [x0,x1,x2] H1 fun v2 H2=>opt (ext v2 0) fun v3=>opt (ext v2 1) fun v4=>opt (cW fE .eql v1 (.pointer none)) fun v5=>ifB v5 (
 Q (.int .i64 2) H2) (
 opt (aH v1) fun v6=>opt (aC v6 1) fun v7=>opt (aB v7 H2) fun v8=>opt (aA .eql v8 (.int .u8 2)) fun v9=>ifB v9 (
 Q (.int .i64 1) H2) (
 opt (aA .neq v4 (.int .i64 0)) fun v10=>ifB v10 (
 Q v4 H2) (
 opt (aH v1) fun v11=>opt (aC v11 6) fun v12=>opt (aB v12 H2) fun v13=>opt (aA .eql v13 (.int .i64 0)) fun v14=>ifB v14 (
 Q (.int .i64 2) H2) (
 opt (aH v1) fun v15=>opt (aC v15 6) fun v16=>opt (aB v16 H2) fun v17=>opt (aA .geq v17 (.int .i64 256)) fun v18=>ifB v18 (
 Q (.int .i64 31) H2) (
 opt (aH v3) fun v19=>opt (aC v19 3) fun v20=>opt (aB v20 H2) fun v21=>opt (setMap 1 v21 x2 x3 H2) fun H3=>opt (aH v1) fun v22=>opt (aC v22 6) fun v23=>opt (aB v23 H3) fun v24=>opt (aA .add v24 (.int .i64 1)) fun v25=>opt (aH v1) fun v26=>opt (aC v26 6) fun v27=>opt (aN v27 v25 H3) fun H4=>opt (aH x0) fun v28=>opt (aC v28 2) fun v29=>E.call (E.fid i.f114) [v29,(.int .i64 1)] H4 fun v30 H5=>Q (.int .i64 0) H5)))))

def F.f51 (E:Sy) (x0 x1 x2 x3:Value) (H:AH) (Q:VK):Prop :=
 E.call (E.fid i.f60) [x0,x3] H fun v1 H1=>opt (aH v1) fun v2=>opt (aC v2 0) fun v3=>opt (aB v3 H1) fun v4=>opt (aA .eql v4 (.int .i64 0)) fun v5=>ifB v5 (
 Q (.int .i64 2) H1) (
 opt (aH v1) fun v6=>opt (aC v6 0) fun v7=>opt (aB v7 H1) fun v8=>opt (aA .eql v8 (.int .i64 2)) fun v9=>ifB v9 (
 Q (.int .i64 1) H1) (
 E.call (E.fid i.f67) [x0,x1,x2] H1 fun v10 H2=>opt (aA .neq v10 (.int .i64 0)) fun v11=>ifB v11 (
 Q v10 H2) (
 opt (aH v1) fun v12=>opt (aC v12 5) fun v13=>opt (aB v13 H2) fun v14=>opt (aA .eql v14 (.int .i64 0)) fun v15=>ifB v15 (
 Q (.int .i64 2) H2) (
 opt (aH v1) fun v16=>opt (aC v16 5) fun v17=>opt (aB v17 H2) fun v18=>opt (aA .geq v18 (.int .i64 256)) fun v19=>ifB v19 (
 Q (.int .i64 31) H2) (
 opt (aH x0) fun v20=>opt (aC v20 0) fun v21=>opt (aB v21 H2) fun v22=>opt (aH x0) fun v23=>opt (aC v23 0) fun v24=>opt (aB v24 H2) fun v25=>opt (aG 7 v25 x1) fun v26=>opt (aC v26 2) fun v27=>opt (aB v27 H2) fun v28=>opt (bR [(0,1),(1,1)] #[(.string ⟨#[]⟩),(.int .i64 0)] [(0,x2),(1,x3)]) fun v29=>E.call (E.fid i.f71) [v28,v29] H2 fun v30 H3=>aB v21 H3=aB v21 H2 /\
 opt (aG 7 v22 x1) fun v31=>opt (aC v31 2) fun v32=>opt (aN v32 v30 H3) fun H4=>opt (aH v1) fun v33=>opt (aC v33 5) fun v34=>opt (aB v34 H4) fun v35=>opt (aA .add v35 (.int .i64 1)) fun v36=>opt (aH v1) fun v37=>opt (aC v37 5) fun v38=>opt (aN v38 v36 H4) fun H5=>opt (aH x0) fun v39=>opt (aC v39 4) fun v40=>opt (aB v40 H5) fun v41=>opt (aA .add v41 (.int .i64 1)) fun v42=>opt (aH x0) fun v43=>opt (aC v43 4) fun v44=>opt (aN v44 v42 H5) fun H6=>Q (.int .i64 0) H6)))))

def F.f11 (E:Sy) (x0 x1 x2 x3:Value) (H:AH) (Q:VK):Prop :=
 E.call (E.fid i.f15) [x0,x1,x2] H fun v1 H1=>opt (ext v1 0) fun v2=>opt (ext v1 1) fun v3=>opt (aA .neq v3 (.int .i64 0)) fun v4=>ifB v4 (
 Q v3 H1) (
 opt (aH x0) fun v5=>opt (aC v5 0) fun v6=>opt (aB v6 H1) fun v7=>opt (look 0 (.pointer none) false v7 v2 H1) fun v8=>gd x3 true (fun k=>k v8 H1) H1 fun v9 H2=>gd x3 true (fun k=>opt (aH v9) fun v=>k v H2) H2 fun v10 H3=>gd x3 true (fun k=>opt (aC v10 1) fun v=>k v H3) H3 fun v11 H4=>gd x3 true (fun k=>opt (aB v11 H4) fun v=>k v H4) H4 fun v12 H5=>gd x3 true (fun k=>opt (aA .neq v12 (.int .u8 2)) fun v=>k v H5) H5 fun v13 H6=>opt (pick x3 v13 (.bool false)) fun v14=>ifB v14 (
 Q (.int .i64 20) H6) (
 opt (un .not x3) fun v15=>gd v15 true (fun k=>k v8 H6) H6 fun v16 H7=>gd v15 true (fun k=>opt (aH v16) fun v=>k v H7) H7 fun v17 H8=>gd v15 true (fun k=>opt (aC v17 1) fun v=>k v H8) H8 fun v18 H9=>gd v15 true (fun k=>opt (aB v18 H9) fun v=>k v H9) H9 fun v19 H10=>gd v15 true (fun k=>opt (aA .eql v19 (.int .u8 2)) fun v=>k v H10) H10 fun v20 H11=>opt (pick v15 v20 (.bool false)) fun v21=>ifB v21 (
 Q (.int .i64 21) H11) (
 gd x3 true (fun k=>k v8 H11) H11 fun v22 H12=>gd x3 true (fun k=>opt (aH v22) fun v=>k v H12) H12 fun v23 H13=>gd x3 true (fun k=>opt (aC v23 3) fun v=>k v H13) H13 fun v24 H14=>gd x3 true (fun k=>opt (aB v24 H14) fun v=>k v H14) H14 fun v25 H15=>gd x3 true (fun k=>opt (iB v25 H15) fun v=>k v H15) H15 fun v26 H16=>gd x3 true (fun k=>opt (aA .gtr v26 (.int .i64 0)) fun v=>k v H16) H16 fun v27 H17=>opt (pick x3 v27 (.bool false)) fun v28=>ifB v28 (
 Q (.int .i64 39) H17) (
 opt (aH x0) fun v29=>opt (aC v29 0) fun v30=>opt (aB v30 H17) fun v31=>opt (look 0 (.pointer none) false v31 x1 H17) fun v32=>opt (aH v32) fun v33=>opt (aC v33 3) fun v34=>opt (aB v34 H17) fun v35=>opt (gN 1 v35 x2 H17) fun H18=>opt (aH v8) fun v36=>opt (aC v36 6) fun v37=>opt (aB v37 H18) fun v38=>opt (aA .sub v38 (.int .i64 1)) fun v39=>opt (aH v8) fun v40=>opt (aC v40 6) fun v41=>opt (aN v41 v39 H18) fun H19=>opt (aH x0) fun v42=>opt (aC v42 2) fun v43=>E.call (E.fid i.f114) [v43,(.int .i64 1)] H19 fun v44 H20=>E.call (E.fid i.f26) [x0,v2] H20 fun v45 H21=>Q (.int .i64 0) H21))))

def F.f54 (E:Sy) (x0 x1 x2 x3:Value) (H:AH) (Q:VK):Prop :=
 E.call (E.fid i.f57) [x0,x1,x2] H fun v1 H1=>opt (ext v1 0) fun v2=>opt (ext v1 1) fun v3=>opt (aA .neq v3 (.int .i64 0)) fun v4=>ifB v4 (
 Q v3 H1) (
 E.call (E.fid i.f60) [x0,v2] H1 fun v5 H2=>gd x3 true (fun k=>k v5 H2) H2 fun v6 H3=>gd x3 true (fun k=>opt (aH v6) fun v=>k v H3) H3 fun v7 H4=>gd x3 true (fun k=>opt (aC v7 0) fun v=>k v H4) H4 fun v8 H5=>gd x3 true (fun k=>opt (aB v8 H5) fun v=>k v H5) H5 fun v9 H6=>gd x3 true (fun k=>opt (aA .neq v9 (.int .i64 2)) fun v=>k v H6) H6 fun v10 H7=>opt (pick x3 v10 (.bool false)) fun v11=>ifB v11 (
 Q (.int .i64 20) H7) (
 opt (un .not x3) fun v12=>gd v12 true (fun k=>k v5 H7) H7 fun v13 H8=>gd v12 true (fun k=>opt (aH v13) fun v=>k v H8) H8 fun v14 H9=>gd v12 true (fun k=>opt (aC v14 0) fun v=>k v H9) H9 fun v15 H10=>gd v12 true (fun k=>opt (aB v15 H10) fun v=>k v H10) H10 fun v16 H11=>gd v12 true (fun k=>opt (aA .eql v16 (.int .i64 2)) fun v=>k v H11) H11 fun v17 H12=>opt (pick v12 v17 (.bool false)) fun v18=>ifB v18 (
 Q (.int .i64 21) H12) (
 gd x3 true (fun k=>k v5 H12) H12 fun v19 H13=>gd x3 true (fun k=>opt (aH v19) fun v=>k v H13) H13 fun v20 H14=>gd x3 true (fun k=>opt (aC v20 2) fun v=>k v H14) H14 fun v21 H15=>gd x3 true (fun k=>opt (aB v21 H15) fun v=>k v H15) H15 fun v22 H16=>gd x3 true (fun k=>opt (lenSlc v22) fun v=>k v H16) H16 fun v23 H17=>gd x3 true (fun k=>opt (aA .gtr v23 (.int .i64 0)) fun v=>k v H17) H17 fun v24 H18=>opt (pick x3 v24 (.bool false)) fun v25=>ifB v25 (
 Q (.int .i64 39) H18) (
 opt (aH x0) fun v26=>opt (aC v26 0) fun v27=>opt (aB v27 H18) fun v28=>opt (aH x0) fun v29=>opt (aC v29 0) fun v30=>opt (aB v30 H18) fun v31=>opt (aG 7 v31 x1) fun v32=>opt (aC v32 2) fun v33=>opt (aB v33 H18) fun v34=>E.call (E.fid i.f60) [x0,x1] H18 fun v35 H19=>aB v33 H19=aB v33 H18 /\
 aB v30 H19=aB v30 H18 /\
 aB v27 H19=aB v27 H18 /\
 E.call (E.fid i.f70) [v35,x2] H19 fun v36 H20=>aB v33 H20=aB v33 H18 /\
 aB v30 H20=aB v30 H18 /\
 aB v27 H20=aB v27 H18 /\
 E.call (E.fid i.f72) [v34,v36] H20 fun v37 H21=>aB v27 H21=aB v27 H18 /\
 opt (aG 7 v28 x1) fun v38=>opt (aC v38 2) fun v39=>opt (aN v39 v37 H21) fun H22=>opt (aH v5) fun v40=>opt (aC v40 5) fun v41=>opt (aB v41 H22) fun v42=>opt (aA .sub v42 (.int .i64 1)) fun v43=>opt (aH v5) fun v44=>opt (aC v44 5) fun v45=>opt (aN v45 v43 H22) fun H23=>opt (aH x0) fun v46=>opt (aC v46 4) fun v47=>opt (aB v47 H23) fun v48=>opt (aA .add v48 (.int .i64 1)) fun v49=>opt (aH x0) fun v50=>opt (aC v50 4) fun v51=>opt (aN v51 v49 H23) fun H24=>E.call (E.fid i.f69) [x0,v2] H24 fun v52 H25=>Q (.int .i64 0) H25))))

def F.f17_j2 (E:Sy) (Q:VK) (t0:Value) (H:AH):Prop :=
 opt (aH t0) fun v1=>opt (aC v1 2) fun v2=>E.call (E.fid i.f114) [v2,(.int .i64 1)] H fun v3 H1=>Q (.int .i64 0) H1
def F.f17_j1 (E:Sy) (Q:VK) (t0 t1 t2 t3 t4 t11 t13 t14:Value) (H:AH):Prop :=
 opt (aH t0) fun v1=>opt (aC v1 0) fun v2=>opt (aB v2 H) fun v3=>opt (look 0 (.pointer none) false v3 t1 H) fun v4=>opt (aH v4) fun v5=>opt (aC v5 3) fun v6=>opt (aB v6 H) fun v7=>opt (gN 1 v7 t2 H) fun H1=>opt (aH t13) fun v8=>opt (aC v8 3) fun v9=>opt (aB v9 H1) fun v10=>opt (setMap 1 v10 t4 t11 H1) fun H2=>opt (aH t14) fun v11=>opt (aC v11 1) fun v12=>opt (aB v12 H2) fun v13=>opt (aA .eql v13 (.int .u8 2)) fun v14=>ifB v14 (
 opt (aH t14) fun v15=>opt (aC v15 4) fun v16=>opt (aN v16 t3 H2) fun H3=>F.f17_j2 E Q t0 H3) (
 F.f17_j2 E Q t0 H2)
def F.f17 (E:Sy) (x0 x1 x2 x3 x4:Value) (H:AH) (Q:VK):Prop :=
 E.call (E.fid i.f15) [x0,x1,x2] H fun v1 H1=>opt (ext v1 0) fun v2=>opt (ext v1 1) fun v3=>opt (aA .neq v3 (.int .i64 0)) fun v4=>ifB v4 (
 Q v3 H1) (
 E.call (E.fid i.f22) [x0,x3] H1 fun v5 H2=>opt (ext v5 0) fun v6=>opt (ext v5 1) fun v7=>opt (aA .neq v7 (.int .i64 0)) fun v8=>ifB v8 (
 Q v7 H2) (
 opt (aH x0) fun v9=>opt (aC v9 0) fun v10=>opt (aB v10 H2) fun v11=>opt (look 0 (.pointer none) false v11 v2 H2) fun v12=>opt (aH v6) fun v13=>opt (aC v13 3) fun v14=>opt (aB v14 H2) fun v15=>opt (look 1 (.int .u16 0) true v15 x4 H2) fun v16=>opt (ext v16 0) fun v17=>opt (ext v16 1) fun v18=>gd v18 true (fun k=>k v17 H2) H2 fun v19 H3=>gd v18 true (fun k=>k v2 H3) H3 fun v20 H4=>gd v18 true (fun k=>opt (aA .eql v19 v20) fun v=>k v H4) H4 fun v21 H5=>opt (pick v18 v21 (.bool false)) fun v22=>ifB v22 (
 Q (.int .i64 0) H5) (
 opt (un .not v18) fun v23=>gd v23 true (fun k=>k x1 H5) H5 fun v24 H6=>gd v23 true (fun k=>k x3 H6) H6 fun v25 H7=>gd v23 true (fun k=>opt (aA .neq v24 v25) fun v=>k v H7) H7 fun v26 H8=>opt (pick v23 v26 (.bool false)) fun v27=>gd v27 true (fun k=>k v6 H8) H8 fun v28 H9=>gd v27 true (fun k=>opt (aH v28) fun v=>k v H9) H9 fun v29 H10=>gd v27 true (fun k=>opt (aC v29 3) fun v=>k v H10) H10 fun v30 H11=>gd v27 true (fun k=>opt (aB v30 H11) fun v=>k v H11) H11 fun v31 H12=>gd v27 true (fun k=>opt (iB v31 H12) fun v=>k v H12) H12 fun v32 H13=>gd v27 true (fun k=>opt (aA .geq v32 (.int .i64 32)) fun v=>k v H13) H13 fun v33 H14=>opt (pick v27 v33 (.bool false)) fun v34=>ifB v34 (
 Q (.int .i64 28) H14) (
 E.call (E.fid i.f23) [x0,v12,v6,x4,v18,v17] H14 fun v35 H15=>opt (aA .neq v35 (.int .i64 0)) fun v36=>ifB v36 (
 Q v35 H15) (
 ifB v18 (
 opt (aH v12) fun v37=>opt (aC v37 1) fun v38=>opt (aB v38 H15) fun v39=>opt (aA .eql v39 (.int .u8 2)) fun v40=>E.call (E.fid i.f11) [x0,x3,x4,v40] H15 fun v41 H16=>opt (aA .neq v41 (.int .i64 0)) fun v42=>ifB v42 (
 Q v41 H16) (
 F.f17_j1 E Q x0 x1 x2 x3 x4 v2 v6 v12 H16)) (
 F.f17_j1 E Q x0 x1 x2 x3 x4 v2 v6 v12 H15))))))

def F.f59_j2 (E:Sy) (Q:VK) (t0:Value) (H:AH):Prop :=
 opt (aH t0) fun v1=>opt (aC v1 4) fun v2=>opt (aB v2 H) fun v3=>opt (aA .add v3 (.int .i64 1)) fun v4=>opt (aH t0) fun v5=>opt (aC v5 4) fun v6=>opt (aN v6 v4 H) fun H1=>Q (.int .i64 0) H1
def F.f59_j1 (E:Sy) (Q:VK) (t0 t1 t2 t3 t4 t11 t15:Value) (H:AH):Prop :=
 opt (aH t0) fun v1=>opt (aC v1 0) fun v2=>opt (aB v2 H) fun v3=>opt (aH t0) fun v4=>opt (aC v4 0) fun v5=>opt (aB v5 H) fun v6=>opt (aG 7 v6 t1) fun v7=>opt (aC v7 2) fun v8=>opt (aB v8 H) fun v9=>E.call (E.fid i.f60) [t0,t1] H fun v10 H1=>aB v8 H1=aB v8 H /\
 aB v5 H1=aB v5 H /\
 aB v2 H1=aB v2 H /\
 E.call (E.fid i.f70) [v10,t2] H1 fun v11 H2=>aB v8 H2=aB v8 H /\
 aB v5 H2=aB v5 H /\
 aB v2 H2=aB v2 H /\
 E.call (E.fid i.f72) [v9,v11] H2 fun v12 H3=>aB v2 H3=aB v2 H /\
 opt (aG 7 v3 t1) fun v13=>opt (aC v13 2) fun v14=>opt (aN v14 v12 H3) fun H4=>opt (aH t0) fun v15=>opt (aC v15 0) fun v16=>opt (aB v16 H4) fun v17=>opt (aH t0) fun v18=>opt (aC v18 0) fun v19=>opt (aB v19 H4) fun v20=>opt (aG 7 v20 t3) fun v21=>opt (aC v21 2) fun v22=>opt (aB v22 H4) fun v23=>opt (bR [(0,1),(1,1)] #[(.string ⟨#[]⟩),(.int .i64 0)] [(0,t4),(1,t11)]) fun v24=>E.call (E.fid i.f71) [v23,v24] H4 fun v25 H5=>aB v16 H5=aB v16 H4 /\
 opt (aG 7 v17 t3) fun v26=>opt (aC v26 2) fun v27=>opt (aN v27 v25 H5) fun H6=>ifB t15 (
 opt (aH t0) fun v28=>opt (aC v28 0) fun v29=>opt (aB v29 H6) fun v30=>opt (aG 7 v30 t11) fun v31=>opt (aC v31 3) fun v32=>opt (aN v32 t3 H6) fun H7=>F.f59_j2 E Q t0 H7) (
 F.f59_j2 E Q t0 H6)
def F.f59 (E:Sy) (x0 x1 x2 x3 x4:Value) (H:AH) (Q:VK):Prop :=
 E.call (E.fid i.f57) [x0,x1,x2] H fun v1 H1=>opt (ext v1 0) fun v2=>opt (ext v1 1) fun v3=>opt (aA .neq v3 (.int .i64 0)) fun v4=>ifB v4 (
 Q v3 H1) (
 E.call (E.fid i.f65) [x0,x3] H1 fun v5 H2=>opt (aA .neq v5 (.int .i64 0)) fun v6=>ifB v6 (
 Q v5 H2) (
 E.call (E.fid i.f60) [x0,x3] H2 fun v7 H3=>E.call (E.fid i.f70) [v7,x4] H3 fun v8 H4=>opt (aA .geq v8 (.int .i64 0)) fun v9=>gd v9 true (fun k=>k x0 H4) H4 fun v10 H5=>gd v9 true (fun k=>k x3 H5) H5 fun v11 H6=>gd v9 true (fun k=>E.call (E.fid i.f60) [v10,v11] H6 fun v h=>k v h) H6 fun v12 H7=>gd v9 true (fun k=>opt (aH v12) fun v=>k v H7) H7 fun v13 H8=>gd v9 true (fun k=>opt (aC v13 2) fun v=>k v H8) H8 fun v14 H9=>gd v9 true (fun k=>opt (aB v14 H9) fun v=>k v H9) H9 fun v15 H10=>gd v9 true (fun k=>k v8 H10) H10 fun v16 H11=>gd v9 true (fun k=>opt (aG 2 v15 v16) fun v=>k v H11) H11 fun v17 H12=>gd v9 true (fun k=>opt (aC v17 1) fun v=>k v H12) H12 fun v18 H13=>gd v9 true (fun k=>opt (aB v18 H13) fun v=>k v H13) H13 fun v19 H14=>gd v9 true (fun k=>k v2 H14) H14 fun v20 H15=>gd v9 true (fun k=>opt (aA .eql v19 v20) fun v=>k v H15) H15 fun v21 H16=>opt (pick v9 v21 (.bool false)) fun v22=>ifB v22 (
 Q (.int .i64 0) H16) (
 opt (aA .lss v8 (.int .i64 0)) fun v23=>gd v23 true (fun k=>k x1 H16) H16 fun v24 H17=>gd v23 true (fun k=>k x3 H17) H17 fun v25 H18=>gd v23 true (fun k=>opt (aA .neq v24 v25) fun v=>k v H18) H18 fun v26 H19=>opt (pick v23 v26 (.bool false)) fun v27=>gd v27 true (fun k=>k x0 H19) H19 fun v28 H20=>gd v27 true (fun k=>k x3 H20) H20 fun v29 H21=>gd v27 true (fun k=>E.call (E.fid i.f60) [v28,v29] H21 fun v h=>k v h) H21 fun v30 H22=>gd v27 true (fun k=>opt (aH v30) fun v=>k v H22) H22 fun v31 H23=>gd v27 true (fun k=>opt (aC v31 2) fun v=>k v H23) H23 fun v32 H24=>gd v27 true (fun k=>opt (aB v32 H24) fun v=>k v H24) H24 fun v33 H25=>gd v27 true (fun k=>opt (lenSlc v33) fun v=>k v H25) H25 fun v34 H26=>gd v27 true (fun k=>opt (aA .geq v34 (.int .i64 32)) fun v=>k v H26) H26 fun v35 H27=>opt (pick v27 v35 (.bool false)) fun v36=>ifB v36 (
 Q (.int .i64 28) H27) (
 E.call (E.fid i.f49) [x4] H27 fun v37 H28=>opt (un .not v37) fun v38=>ifB v38 (
 Q (.int .i64 22) H28) (
 E.call (E.fid i.f60) [x0,x3] H28 fun v39 H29=>opt (aH v39) fun v40=>opt (aC v40 5) fun v41=>opt (aB v41 H29) fun v42=>opt (aA .eql v42 (.int .i64 0)) fun v43=>ifB v43 (
 Q (.int .i64 2) H29) (
 E.call (E.fid i.f60) [x0,v2] H29 fun v44 H30=>opt (aH v44) fun v45=>opt (aC v45 0) fun v46=>opt (aB v46 H30) fun v47=>opt (aA .eql v47 (.int .i64 2)) fun v48=>gd v48 true (fun k=>k x0 H30) H30 fun v49 H31=>gd v48 true (fun k=>k x3 H31) H31 fun v50 H32=>gd v48 true (fun k=>k v2 H32) H32 fun v51 H33=>gd v48 true (fun k=>E.call (E.fid i.f62) [v49,v50,v51] H33 fun v h=>k v h) H33 fun v52 H34=>opt (pick v48 v52 (.bool false)) fun v53=>ifB v53 (
 Q (.int .i64 22) H34) (
 gd v48 true (fun k=>k x0 H34) H34 fun v54 H35=>gd v48 true (fun k=>k x3 H35) H35 fun v55 H36=>gd v48 true (fun k=>E.call (E.fid i.f64) [v54,v55] H36 fun v h=>k v h) H36 fun v56 H37=>gd v48 true (fun k=>k x0 H37) H37 fun v57 H38=>gd v48 true (fun k=>k v2 H38) H38 fun v58 H39=>gd v48 true (fun k=>E.call (E.fid i.f68) [v57,v58] H39 fun v h=>k v h) H39 fun v59 H40=>gd v48 true (fun k=>opt (aA .add v56 v59) fun v=>k v H40) H40 fun v60 H41=>gd v48 true (fun k=>opt (aA .gtr v60 (.int .i64 16)) fun v=>k v H41) H41 fun v61 H42=>opt (pick v48 v61 (.bool false)) fun v62=>ifB v62 (
 Q (.int .i64 28) H42) (
 opt (aA .geq v8 (.int .i64 0)) fun v63=>ifB v63 (
 E.call (E.fid i.f60) [x0,x3] H42 fun v64 H43=>opt (aH v64) fun v65=>opt (aC v65 2) fun v66=>opt (aB v66 H43) fun v67=>opt (aG 2 v67 v8) fun v68=>opt (aC v68 1) fun v69=>opt (aB v69 H43) fun v70=>E.call (E.fid i.f60) [x0,v70] H43 fun v71 H44=>gd v48 true (fun k=>k v71 H44) H44 fun v72 H45=>gd v48 true (fun k=>opt (aH v72) fun v=>k v H45) H45 fun v73 H46=>gd v48 true (fun k=>opt (aC v73 0) fun v=>k v H46) H46 fun v74 H47=>gd v48 true (fun k=>opt (aB v74 H47) fun v=>k v H47) H47 fun v75 H48=>gd v48 true (fun k=>opt (aA .neq v75 (.int .i64 2)) fun v=>k v H48) H48 fun v76 H49=>opt (pick v48 v76 (.bool false)) fun v77=>ifB v77 (
 Q (.int .i64 20) H49) (
 opt (un .not v48) fun v78=>gd v78 true (fun k=>k v71 H49) H49 fun v79 H50=>gd v78 true (fun k=>opt (aH v79) fun v=>k v H50) H50 fun v80 H51=>gd v78 true (fun k=>opt (aC v80 0) fun v=>k v H51) H51 fun v81 H52=>gd v78 true (fun k=>opt (aB v81 H52) fun v=>k v H52) H52 fun v82 H53=>gd v78 true (fun k=>opt (aA .eql v82 (.int .i64 2)) fun v=>k v H53) H53 fun v83 H54=>opt (pick v78 v83 (.bool false)) fun v84=>ifB v84 (
 Q (.int .i64 21) H54) (
 gd v48 true (fun k=>k v71 H54) H54 fun v85 H55=>gd v48 true (fun k=>opt (aH v85) fun v=>k v H55) H55 fun v86 H56=>gd v48 true (fun k=>opt (aC v86 2) fun v=>k v H56) H56 fun v87 H57=>gd v48 true (fun k=>opt (aB v87 H57) fun v=>k v H57) H57 fun v88 H58=>gd v48 true (fun k=>opt (lenSlc v88) fun v=>k v H58) H58 fun v89 H59=>gd v48 true (fun k=>opt (aA .gtr v89 (.int .i64 0)) fun v=>k v H59) H59 fun v90 H60=>opt (pick v48 v90 (.bool false)) fun v91=>ifB v91 (
 Q (.int .i64 39) H60) (
 E.call (E.fid i.f54) [x0,x3,x4,v48] H60 fun v92 H61=>F.f59_j1 E Q x0 x1 x2 x3 x4 v2 v48 H61)))) (
 F.f59_j1 E Q x0 x1 x2 x3 x4 v2 v48 H42)))))))))

def F.f20 (E:Sy) (x0 x1 x2 x3:Value) (H:AH) (Q:VK):Prop :=
 E.call (E.fid i.f13) [x0,x1] H fun v1 H1=>opt (cW fE .eql v1 (.pointer none)) fun v2=>ifB v2 (
 Q (.int .i64 2) H1) (
 opt (aH v1) fun v3=>opt (aC v3 1) fun v4=>opt (aB v4 H1) fun v5=>opt (aA .eql v5 (.int .u8 2)) fun v6=>ifB v6 (
 Q (.int .i64 21) H1) (
 opt (aH v1) fun v7=>opt (aC v7 1) fun v8=>opt (aB v8 H1) fun v9=>opt (aA .neq v9 (.int .u8 1)) fun v10=>gd v10 false (fun k=>k x2 H1) H1 fun v11 H2=>gd v10 false (fun k=>opt (aA .lss v11 (.int .i64 0)) fun v=>k v H2) H2 fun v12 H3=>opt (pick v10 (.bool true) v12) fun v13=>ifB v13 (
 Q (.int .i64 22) H3) (
 opt (aA .gtr x2 (.int .i64 1024)) fun v14=>gd v14 false (fun k=>k x3 H3) H3 fun v15 H4=>gd v14 false (fun k=>opt (lenSlc v15) fun v=>k v H4) H4 fun v16 H5=>gd v14 false (fun k=>k x2 H5) H5 fun v17 H6=>gd v14 false (fun k=>opt (aA .sub (.int .i64 1024) v17) fun v=>k v H6) H6 fun v18 H7=>gd v14 false (fun k=>opt (aA .gtr v16 v18) fun v=>k v H7) H7 fun v19 H8=>opt (pick v14 (.bool true) v19) fun v20=>ifB v20 (
 Q (.int .i64 27) H8) (
 opt (aH v1) fun v21=>opt (aC v21 2) fun v22=>opt (aB v22 H8) fun v23=>opt (lenSlc v23) fun v24=>opt (lenSlc x3) fun v25=>opt (aA .add x2 v25) fun v26=>opt (jE max2 [v24,v26]) fun v27=>mk (yR 1 1 #[(.int .u8 0)] v27 v27) H8 fun v28 H9=>opt (aH v1) fun v29=>opt (aC v29 2) fun v30=>opt (aB v30 H9) fun v31=>fR (uB 1 v28 v31 H9) fun v32 H10=>opt (eM 1 v28 (some x2) none none H10) fun v33=>fR (uB 1 v33 x3 H10) fun v34 H11=>opt (aH v1) fun v35=>opt (aC v35 2) fun v36=>opt (aN v36 v28 H11) fun H12=>opt (aH x0) fun v37=>opt (aC v37 2) fun v38=>E.call (E.fid i.f114) [v38,(.int .i64 1)] H12 fun v39 H13=>Q (.int .i64 0) H13))))

def F.f63_l2 (E:Sy) (Q:VK) (t0 t2 t3 t9 t10 t11:Value) (H:AH) (X0:LK):Prop :=
 opt (lenSlc t3) fun v1=>opt (aA .lss t11 v1) fun v2=>ifB v2 (
 opt (aA .add t2 t11) fun v3=>opt (aG 1 t3 t11) fun v4=>opt (aB v4 H) fun v5=>opt (aG 1 t10 v3) fun v6=>opt (aN v6 v5 H) fun H1=>opt (aA .add t11 (.int .i64 1)) fun v7=>X0 [t0,t2,t3,t9,t10,v7] H1) (
 opt (aH t9) fun v8=>opt (aC v8 1) fun v9=>opt (aN v9 t10 H) fun H2=>opt (aH t0) fun v10=>opt (aC v10 4) fun v11=>opt (aB v11 H2) fun v12=>opt (aA .add v12 (.int .i64 1)) fun v13=>opt (aH t0) fun v14=>opt (aC v14 4) fun v15=>opt (aN v15 v13 H2) fun H3=>Q (.int .i64 0) H3)
def F.f63_l1 (E:Sy) (Q:VK) (t0 t2 t3 t9 t10:Value) (H:AH) (X0:LK):Prop :=
 opt (lenSlc t10) fun v1=>opt (lenSlc t3) fun v2=>opt (aA .add t2 v2) fun v3=>opt (aA .lss v1 v3) fun v4=>ifB v4 (
 mk (buildS 1 1 #[(.int .u8 0)] [(0,(.int .u8 0))]) H fun v5 H1=>fR (app 1 1 t10 v5 H1) fun v6 H2=>X0 [t0,t2,t3,t9,v6] H2) (
 aO (fun l H X0=>F.f63_l2 E Q (nth l 0) (nth l 1) (nth l 2) (nth l 3) (nth l 4) (nth l 5) H X0) [t0,t2,t3,t9,t10,(.int .i64 0)] H)
def F.f63 (E:Sy) (x0 x1 x2 x3:Value) (H:AH) (Q:VK):Prop :=
 E.call (E.fid i.f60) [x0,x1] H fun v1 H1=>opt (aH v1) fun v2=>opt (aC v2 0) fun v3=>opt (aB v3 H1) fun v4=>opt (aA .eql v4 (.int .i64 0)) fun v5=>ifB v5 (
 Q (.int .i64 2) H1) (
 opt (aH v1) fun v6=>opt (aC v6 0) fun v7=>opt (aB v7 H1) fun v8=>opt (aA .eql v8 (.int .i64 2)) fun v9=>ifB v9 (
 Q (.int .i64 21) H1) (
 opt (aH v1) fun v10=>opt (aC v10 0) fun v11=>opt (aB v11 H1) fun v12=>opt (aA .neq v12 (.int .i64 1)) fun v13=>gd v13 false (fun k=>k x2 H1) H1 fun v14 H2=>gd v13 false (fun k=>opt (aA .lss v14 (.int .i64 0)) fun v=>k v H2) H2 fun v15 H3=>opt (pick v13 (.bool true) v15) fun v16=>ifB v16 (
 Q (.int .i64 22) H3) (
 opt (aA .gtr x2 (.int .i64 1024)) fun v17=>gd v17 false (fun k=>k x2 H3) H3 fun v18 H4=>gd v17 false (fun k=>k x3 H4) H4 fun v19 H5=>gd v17 false (fun k=>opt (lenSlc v19) fun v=>k v H5) H5 fun v20 H6=>gd v17 false (fun k=>opt (aA .add v18 v20) fun v=>k v H6) H6 fun v21 H7=>gd v17 false (fun k=>opt (aA .gtr v21 (.int .i64 1024)) fun v=>k v H7) H7 fun v22 H8=>opt (pick v17 (.bool true) v22) fun v23=>ifB v23 (
 Q (.int .i64 27) H8) (
 mk (buildS 0 1 #[(.int .u8 0)] []) H8 fun v24 H9=>opt (aH v1) fun v25=>opt (aC v25 1) fun v26=>opt (aB v26 H9) fun v27=>fR (app 1 1 v24 v27 H9) fun v28 H10=>aO (fun l H X0=>F.f63_l1 E Q (nth l 0) (nth l 1) (nth l 2) (nth l 3) (nth l 4) H X0) [x0,x2,x3,v1,v28] H10))))

def F.f10 (E:Sy) (x0 x1 x2:Value) (H:AH) (Q:VK):Prop :=
 E.call (E.fid i.f13) [x0,x1] H fun v1 H1=>opt (cW fE .eql v1 (.pointer none)) fun v2=>ifB v2 (
 Q (.int .i64 2) H1) (
 opt (aH v1) fun v3=>opt (aC v3 1) fun v4=>opt (aB v4 H1) fun v5=>opt (aA .eql v5 (.int .u8 2)) fun v6=>ifB v6 (
 Q (.int .i64 21) H1) (
 opt (aH v1) fun v7=>opt (aC v7 1) fun v8=>opt (aB v8 H1) fun v9=>opt (aA .neq v9 (.int .u8 1)) fun v10=>gd v10 false (fun k=>k x2 H1) H1 fun v11 H2=>gd v10 false (fun k=>opt (aA .lss v11 (.int .i64 0)) fun v=>k v H2) H2 fun v12 H3=>opt (pick v10 (.bool true) v12) fun v13=>ifB v13 (
 Q (.int .i64 22) H3) (
 opt (aA .gtr x2 (.int .i64 1024)) fun v14=>ifB v14 (
 Q (.int .i64 27) H3) (
 mk (yR 1 1 #[(.int .u8 0)] x2 x2) H3 fun v15 H4=>opt (aH v1) fun v16=>opt (aC v16 2) fun v17=>opt (aB v17 H4) fun v18=>fR (uB 1 v15 v18 H4) fun v19 H5=>opt (aH v1) fun v20=>opt (aC v20 2) fun v21=>opt (aN v21 v15 H5) fun H6=>opt (aH x0) fun v22=>opt (aC v22 2) fun v23=>E.call (E.fid i.f114) [v23,(.int .i64 1)] H6 fun v24 H7=>Q (.int .i64 0) H7))))

def F.f53_l1 (E:Sy) (Q:VK) (t0 t2 t7 t8:Value) (H:AH) (X0:LK):Prop :=
 opt (lenSlc t8) fun v1=>opt (aA .lss v1 t2) fun v2=>ifB v2 (
 mk (buildS 1 1 #[(.int .u8 0)] [(0,(.int .u8 0))]) H fun v3 H1=>fR (app 1 1 t8 v3 H1) fun v4 H2=>X0 [t0,t2,t7,v4] H2) (
 opt (eM 1 t8 none (some t2) none H) fun v5=>opt (aH t7) fun v6=>opt (aC v6 1) fun v7=>opt (aN v7 v5 H) fun H3=>opt (aH t0) fun v8=>opt (aC v8 4) fun v9=>opt (aB v9 H3) fun v10=>opt (aA .add v10 (.int .i64 1)) fun v11=>opt (aH t0) fun v12=>opt (aC v12 4) fun v13=>opt (aN v13 v11 H3) fun H4=>Q (.int .i64 0) H4)
def F.f53 (E:Sy) (x0 x1 x2:Value) (H:AH) (Q:VK):Prop :=
 E.call (E.fid i.f60) [x0,x1] H fun v1 H1=>opt (aH v1) fun v2=>opt (aC v2 0) fun v3=>opt (aB v3 H1) fun v4=>opt (aA .eql v4 (.int .i64 0)) fun v5=>ifB v5 (
 Q (.int .i64 2) H1) (
 opt (aH v1) fun v6=>opt (aC v6 0) fun v7=>opt (aB v7 H1) fun v8=>opt (aA .eql v8 (.int .i64 2)) fun v9=>ifB v9 (
 Q (.int .i64 21) H1) (
 opt (aH v1) fun v10=>opt (aC v10 0) fun v11=>opt (aB v11 H1) fun v12=>opt (aA .neq v12 (.int .i64 1)) fun v13=>gd v13 false (fun k=>k x2 H1) H1 fun v14 H2=>gd v13 false (fun k=>opt (aA .lss v14 (.int .i64 0)) fun v=>k v H2) H2 fun v15 H3=>opt (pick v13 (.bool true) v15) fun v16=>ifB v16 (
 Q (.int .i64 22) H3) (
 opt (aA .gtr x2 (.int .i64 1024)) fun v17=>ifB v17 (
 Q (.int .i64 27) H3) (
 mk (buildS 0 1 #[(.int .u8 0)] []) H3 fun v18 H4=>opt (aH v1) fun v19=>opt (aC v19 1) fun v20=>opt (aB v20 H4) fun v21=>fR (app 1 1 v18 v21 H4) fun v22 H5=>aO (fun l H X0=>F.f53_l1 E Q (nth l 0) (nth l 1) (nth l 2) (nth l 3) H X0) [x0,x2,v1,v22] H5))))

def F.f57 (E:Sy) (x0 x1 x2:Value) (H:AH) (Q:VK):Prop :=
 E.call (E.fid i.f65) [x0,x1] H fun v1 H1=>opt (aA .neq v1 (.int .i64 0)) fun v2=>ifB v2 (
 Q (.tuple #[(.int .i64 0),v1]) H1) (
 E.call (E.fid i.f60) [x0,x1] H1 fun v3 H2=>E.call (E.fid i.f70) [v3,x2] H2 fun v4 H3=>opt (aA .lss v4 (.int .i64 0)) fun v5=>ifB v5 (
 Q (.tuple #[(.int .i64 0),(.int .i64 2)]) H3) (
 opt (aH v3) fun v6=>opt (aC v6 2) fun v7=>opt (aB v7 H3) fun v8=>opt (aG 2 v8 v4) fun v9=>opt (aC v9 1) fun v10=>opt (aB v10 H3) fun v11=>Q (.tuple #[v11,(.int .i64 0)]) H3))

def F.f117 (E:Sy) (x0:Value) (H:AH) (Q:VK):Prop :=
 opt (cW fE .neq x0 (.pointer none)) fun v1=>gd v1 true (fun k=>k x0 H) H fun v2 H1=>gd v1 true (fun k=>opt (aH v2) fun v=>k v H1) H1 fun v3 H2=>gd v1 true (fun k=>opt (aC v3 0) fun v=>k v H2) H2 fun v4 H3=>gd v1 true (fun k=>opt (aB v4 H3) fun v=>k v H3) H3 fun v5 H4=>gd v1 true (fun k=>opt (cW fE .neq v5 (.pointer none)) fun v=>k v H4) H4 fun v6 H5=>opt (pick v1 v6 (.bool false)) fun v7=>gd v7 true (fun k=>k x0 H5) H5 fun v8 H6=>gd v7 true (fun k=>opt (aH v8) fun v=>k v H6) H6 fun v9 H7=>gd v7 true (fun k=>opt (aC v9 1) fun v=>k v H7) H7 fun v10 H8=>gd v7 true (fun k=>opt (aB v10 H8) fun v=>k v H8) H8 fun v11 H9=>gd v7 true (fun k=>opt (cW fE .neq v11 (.pointer none)) fun v=>k v H9) H9 fun v12 H10=>opt (pick v7 v12 (.bool false)) fun v13=>Q v13 H10

def F.f32 (E:Sy) (x0 x1:Value) (H:AH) (Q:VK):Prop :=
 eH [(.int .i64 0),(.int .i64 0),(.int .u16 0),(.int .u16 0),(.int .i64 0)] H fun v1 H1=>E.call (E.fid i.f35) [x0,x1] H1 fun v2 H2=>opt (aA .lss v2 (.int .i64 0)) fun v3=>ifB v3 (
 opt (bR [(0,1),(1,2),(3,1),(4,1)] #[(.int .i64 0),(.int .i64 0),(.int .u16 0),(.int .u16 0),(.int .i64 0)] []) fun v4=>opt (storeN 5 v1 v4 H2) fun H3=>opt (bM 5 v1 H3) fun v5=>Q (.tuple #[v5,(.bool false)]) H3) (
 opt (aH x0) fun v6=>opt (aC v6 0) fun v7=>opt (aB v7 H2) fun v8=>opt (aG 5 v8 v2) fun v9=>opt (bM 5 v9 H2) fun v10=>opt (storeN 5 v1 v10 H2) fun H4=>opt (bM 5 v1 H4) fun v11=>Q (.tuple #[v11,(.bool true)]) H4)

def F.f35 (E:Sy) (x0 x1:Value) (H:AH) (Q:VK):Prop :=
 mk (gZ x1) H fun v1 H1=>opt (cW fE .eql x0 (.pointer none)) fun v2=>ifB v2 (
 Q (.int .i64 (-1)) H1) (
 opt (aH x0) fun v3=>opt (aC v3 0) fun v4=>opt (aB v4 H1) fun v5=>opt (some (.func (.func (E.fid i.f36)) #[] #[v1])) fun v6=>E.call (E.fid i.f73) [v5,v6] H1 fun v7 H2=>Q v7 H2)

def F.f33_l1 (E:Sy) (Q:VK) (t0 t3 t4:Value) (H:AH) (X0:LK):Prop :=
 opt (aH t0) fun v1=>opt (aC v1 0) fun v2=>opt (aB v2 H) fun v3=>opt (some (.func (.func (E.fid i.f34)) #[] #[t3])) fun v4=>E.call (E.fid i.f73) [v3,v4] H fun v5 H1=>opt (aA .lss v5 (.int .i64 0)) fun v6=>ifB v6 (
 opt (bM 2 t3 H1) fun v7=>opt (storeN 2 t4 v7 H1) fun H2=>opt (bM 2 t4 H2) fun v8=>Q v8 H2) (
 opt (aH t0) fun v9=>opt (aC v9 0) fun v10=>opt (aB v10 H1) fun v11=>opt (aG 5 v11 v5) fun v12=>opt (aC v12 0) fun v13=>opt (aB v13 H1) fun v14=>opt (aH t0) fun v15=>opt (aC v15 0) fun v16=>opt (aB v16 H1) fun v17=>opt (aG 5 v17 v5) fun v18=>opt (aC v18 3) fun v19=>opt (aB v19 H1) fun v20=>opt (bR [(0,1),(1,1)] #[(.int .i64 0),(.int .u16 0)] [(0,v14),(1,v20)]) fun v21=>opt (storeN 2 t3 v21 H1) fun H3=>X0 [t0,t3,t4] H3)
def F.f33 (E:Sy) (x0 x1:Value) (H:AH) (Q:VK):Prop :=
 mk (gZ x1) H fun v1 H1=>eH [(.int .i64 0),(.int .u16 0)] H1 fun v2 H2=>opt (cW fE .eql x0 (.pointer none)) fun v3=>ifB v3 (
 opt (bM 2 v1 H2) fun v4=>opt (storeN 2 v2 v4 H2) fun H3=>opt (bM 2 v2 H3) fun v5=>Q v5 H3) (
 aO (fun l H X0=>F.f33_l1 E Q (nth l 0) (nth l 1) (nth l 2) H X0) [x0,v1,v2] H2)

def F.f66_l1 (E:Sy) (Q:VK) (t0 t1 t5:Value) (H:AH) (X0:LK):Prop :=
 opt (aH t0) fun v1=>opt (aC v1 2) fun v2=>opt (aB v2 H) fun v3=>opt (lenSlc v3) fun v4=>opt (aA .lss t5 v4) fun v5=>ifB v5 (
 opt (aH t0) fun v6=>opt (aC v6 2) fun v7=>opt (aB v7 H) fun v8=>opt (aG 5 v8 t5) fun v9=>opt (aC v9 0) fun v10=>opt (aB v10 H) fun v11=>opt (aA .eql v11 t1) fun v12=>ifB v12 (
 Q t5 H) (
 opt (aA .add t5 (.int .i64 1)) fun v13=>X0 [t0,t1,v13] H)) (
 Q (.int .i64 (-1)) H)
def F.f66 (E:Sy) (x0 x1:Value) (H:AH) (Q:VK):Prop :=
 aO (fun l H X0=>F.f66_l1 E Q (nth l 0) (nth l 1) (nth l 2) H X0) [x0,x1,(.int .i64 0)] H

def F.f61_l2 (E:Sy) (Q:VK) (X0:LK) (t0 t3 t4 t5 t6 t7:Value) (H:AH) (X1:LK):Prop :=
 opt (aH t0) fun v1=>opt (aC v1 2) fun v2=>opt (aB v2 H) fun v3=>opt (lenSlc v3) fun v4=>opt (aA .lss t7 v4) fun v5=>ifB v5 (
 opt (aH t0) fun v6=>opt (aC v6 2) fun v7=>opt (aB v7 H) fun v8=>opt (aG 5 v8 t7) fun v9=>opt (aC v9 0) fun v10=>opt (aB v10 H) fun v11=>opt (aA .neq v11 (.int .i64 0)) fun v12=>gd v12 true (fun k=>k t0 H) H fun v13 H1=>gd v12 true (fun k=>opt (aH v13) fun v=>k v H1) H1 fun v14 H2=>gd v12 true (fun k=>opt (aC v14 2) fun v=>k v H2) H2 fun v15 H3=>gd v12 true (fun k=>opt (aB v15 H3) fun v=>k v H3) H3 fun v16 H4=>gd v12 true (fun k=>k t7 H4) H4 fun v17 H5=>gd v12 true (fun k=>opt (aG 5 v16 v17) fun v=>k v H5) H5 fun v18 H6=>gd v12 true (fun k=>opt (aC v18 2) fun v=>k v H6) H6 fun v19 H7=>gd v12 true (fun k=>opt (bM 2 v19 H7) fun v=>k v H7) H7 fun v20 H8=>gd v12 true (fun k=>opt (bM 2 t3 H8) fun v=>k v H8) H8 fun v21 H9=>gd v12 true (fun k=>opt (iS [0,0] .eql v20 v21) fun v=>k v H9) H9 fun v22 H10=>opt (pick v12 v22 (.bool false)) fun v23=>ifB v23 (
 opt (aA .add t7 (.int .i64 1)) fun v24=>X1 [t0,t3,t4,t5,t7,v24] H10) (
 opt (aA .add t7 (.int .i64 1)) fun v25=>X1 [t0,t3,t4,t5,t6,v25] H10)) (
 opt (aA .lss t6 (.int .i64 0)) fun v26=>ifB v26 (
 opt (bM 2 t3 H) fun v27=>opt (storeN 2 t4 v27 H) fun H11=>opt (bM 2 t4 H11) fun v28=>Q v28 H11) (
 opt (aH t0) fun v29=>opt (aC v29 2) fun v30=>opt (aB v30 H) fun v31=>opt (aG 5 v31 t6) fun v32=>opt (aC v32 0) fun v33=>opt (aB v33 H) fun v34=>opt (aH t0) fun v35=>opt (aC v35 2) fun v36=>opt (aB v36 H) fun v37=>opt (aG 5 v37 t6) fun v38=>opt (aC v38 1) fun v39=>opt (aB v39 H) fun v40=>opt (bR [(0,1),(1,1)] #[(.int .i64 0),(.int .i64 0)] [(0,v34),(1,v40)]) fun v41=>opt (storeN 2 t3 v41 H) fun H12=>opt (aA .add t5 (.int .i64 1)) fun v42=>X0 [t0,t3,t4,v42] H12))
def F.f61_l1 (E:Sy) (Q:VK) (t0 t3 t4 t5:Value) (H:AH) (X0:LK):Prop :=
 opt (aA .lss t5 (.int .i64 20)) fun v1=>ifB v1 (
 aO (fun l H X1=>F.f61_l2 E Q X0 (nth l 0) (nth l 1) (nth l 2) (nth l 3) (nth l 4) (nth l 5) H X1) [t0,t3,t4,t5,(.int .i64 (-1)),(.int .i64 0)] H) (
 opt (bM 2 t3 H) fun v2=>opt (storeN 2 t4 v2 H) fun H1=>opt (bM 2 t4 H1) fun v3=>Q v3 H1)
def F.f61 (E:Sy) (x0 x1:Value) (H:AH) (Q:VK):Prop :=
 mk (gZ x1) H fun v1 H1=>eH [(.int .i64 0),(.int .i64 0)] H1 fun v2 H2=>aO (fun l H X0=>F.f61_l1 E Q (nth l 0) (nth l 1) (nth l 2) (nth l 3) H X0) [x0,v1,v2,(.int .i64 0)] H2

def F.f26 (E:Sy) (x0 x1:Value) (H:AH) (Q:VK):Prop :=
 opt (aH x0) fun v1=>opt (aC v1 0) fun v2=>opt (aB v2 H) fun v3=>opt (look 0 (.pointer none) false v3 x1 H) fun v4=>opt (cW fE .neq v4 (.pointer none)) fun v5=>gd v5 true (fun k=>k v4 H) H fun v6 H1=>gd v5 true (fun k=>opt (aH v6) fun v=>k v H1) H1 fun v7 H2=>gd v5 true (fun k=>opt (aC v7 6) fun v=>k v H2) H2 fun v8 H3=>gd v5 true (fun k=>opt (aB v8 H3) fun v=>k v H3) H3 fun v9 H4=>gd v5 true (fun k=>opt (aA .eql v9 (.int .i64 0)) fun v=>k v H4) H4 fun v10 H5=>opt (pick v5 v10 (.bool false)) fun v11=>gd v11 true (fun k=>k v4 H5) H5 fun v12 H6=>gd v11 true (fun k=>opt (aH v12) fun v=>k v H6) H6 fun v13 H7=>gd v11 true (fun k=>opt (aC v13 7) fun v=>k v H7) H7 fun v14 H8=>gd v11 true (fun k=>opt (aB v14 H8) fun v=>k v H8) H8 fun v15 H9=>gd v11 true (fun k=>opt (aA .eql v15 (.int .i64 0)) fun v=>k v H9) H9 fun v16 H10=>opt (pick v11 v16 (.bool false)) fun v17=>ifB v17 (
 opt (aH x0) fun v18=>opt (aC v18 0) fun v19=>opt (aB v19 H10) fun v20=>opt (gN 0 v20 x1 H10) fun H11=>Q (.tuple #[]) H11) (
 Q (.tuple #[]) H10)

def F.f60 (E:Sy) (x0 x1:Value) (H:AH) (Q:VK):Prop :=
 opt (aA .lss x1 (.int .i64 0)) fun v1=>gd v1 false (fun k=>k x1 H) H fun v2 H1=>gd v1 false (fun k=>k x0 H1) H1 fun v3 H2=>gd v1 false (fun k=>opt (aH v3) fun v=>k v H2) H2 fun v4 H3=>gd v1 false (fun k=>opt (aC v4 0) fun v=>k v H3) H3 fun v5 H4=>gd v1 false (fun k=>opt (aB v5 H4) fun v=>k v H4) H4 fun v6 H5=>gd v1 false (fun k=>opt (lenSlc v6) fun v=>k v H5) H5 fun v7 H6=>gd v1 false (fun k=>opt (aA .geq v2 v7) fun v=>k v H6) H6 fun v8 H7=>opt (pick v1 (.bool true) v8) fun v9=>ifB v9 (
 opt (bR [(0,1),(1,1),(2,1),(3,1),(4,1),(5,1),(6,1)] #[(.int .i64 0),(.slice none 0 0),(.slice none 0 0),(.int .i64 0),(.string ⟨#[]⟩),(.int .i64 0),(.int .i64 0)] []) fun v10=>mk (gZ v10) H7 fun v11 H8=>Q v11 H8) (
 opt (aH x0) fun v12=>opt (aC v12 0) fun v13=>opt (aB v13 H7) fun v14=>opt (aG 7 v14 x1) fun v15=>Q v15 H7)

def F.f69 (E:Sy) (x0 x1:Value) (H:AH) (Q:VK):Prop :=
 opt (aH x0) fun v1=>opt (aC v1 0) fun v2=>opt (aB v2 H) fun v3=>opt (aG 7 v3 x1) fun v4=>opt (aC v4 5) fun v5=>opt (aB v5 H) fun v6=>opt (aA .eql v6 (.int .i64 0)) fun v7=>gd v7 true (fun k=>k x0 H) H fun v8 H1=>gd v7 true (fun k=>opt (aH v8) fun v=>k v H1) H1 fun v9 H2=>gd v7 true (fun k=>opt (aC v9 0) fun v=>k v H2) H2 fun v10 H3=>gd v7 true (fun k=>opt (aB v10 H3) fun v=>k v H3) H3 fun v11 H4=>gd v7 true (fun k=>k x1 H4) H4 fun v12 H5=>gd v7 true (fun k=>opt (aG 7 v11 v12) fun v=>k v H5) H5 fun v13 H6=>gd v7 true (fun k=>opt (aC v13 6) fun v=>k v H6) H6 fun v14 H7=>gd v7 true (fun k=>opt (aB v14 H7) fun v=>k v H7) H7 fun v15 H8=>gd v7 true (fun k=>opt (aA .eql v15 (.int .i64 0)) fun v=>k v H8) H8 fun v16 H9=>opt (pick v7 v16 (.bool false)) fun v17=>ifB v17 (
 opt (aH x0) fun v18=>opt (aC v18 0) fun v19=>opt (aB v19 H9) fun v20=>opt (bR [(0,1),(1,1),(2,1),(3,1),(4,1),(5,1),(6,1)] #[(.int .i64 0),(.slice none 0 0),(.slice none 0 0),(.int .i64 0),(.string ⟨#[]⟩),(.int .i64 0),(.int .i64 0)] []) fun v21=>opt (aG 7 v20 x1) fun v22=>opt (storeN 7 v22 v21 H9) fun H10=>Q (.tuple #[]) H10) (
 Q (.tuple #[]) H9)

def F.f1 (E:Sy) (x0 x1:Value) (H:AH) (Q:VK):Prop :=
 E.call (E.fid i.f5) [x0] H fun v1 H1=>E.call (E.fid i.f5) [x1] H1 fun v2 H2=>ifB v1 (
 ifB v2 (
 Q (.int .i64 0) H2) (
 Q (.int .i64 (-1)) H2)) (
 ifB v2 (
 Q (.int .i64 1) H2) (
 opt (cE .lss x0 x1) fun v3=>ifB v3 (
 Q (.int .i64 (-1)) H2) (
 opt (cE .gtr x0 x1) fun v4=>ifB v4 (
 Q (.int .i64 1) H2) (
 Q (.int .i64 0) H2))))

def F.f6 (E:Sy) (x0:Value) (H:AH) (Q:VK):Prop :=
 opt (iQ x0) fun v1=>opt (aA .lss v1 (.int .i64 1)) fun v2=>gd v2 false (fun k=>k x0 H) H fun v3 H1=>gd v2 false (fun k=>opt (iQ v3) fun v=>k v H1) H1 fun v4 H2=>gd v2 false (fun k=>opt (aA .gtr v4 (.int .i64 14)) fun v=>k v H2) H2 fun v5 H3=>opt (pick v2 (.bool true) v5) fun v6=>gd v6 false (fun k=>k x0 H3) H3 fun v7 H4=>gd v6 false (fun k=>opt (cE .eql v7 (.string ⟨#[46]⟩)) fun v=>k v H4) H4 fun v8 H5=>opt (pick v6 (.bool true) v8) fun v9=>gd v9 false (fun k=>k x0 H5) H5 fun v10 H6=>gd v9 false (fun k=>opt (cE .eql v10 (.string ⟨#[46,46]⟩)) fun v=>k v H6) H6 fun v11 H7=>opt (pick v9 (.bool true) v11) fun v12=>ifB v12 (
 Q (.bool false) H7) (
 E.call (E.fid i.f111) [x0,(.func (.func (E.fid i.f7)) #[] #[])] H7 fun v13 H8=>opt (aA .lss v13 (.int .i64 0)) fun v14=>Q v14 H8)

def F.f27 (E:Sy) (x0:Value) (H:AH) (Q:VK):Prop :=
 ifB (.bool false) (
 opt (bC .u32 x0) fun v1=>E.call (E.fid i.f28) [v1] H fun v2 H1=>Q v2 H1) (
 E.call (E.fid i.f29) [x0] H fun v3 H2=>Q v3 H2)

def F.f97_j3 (E:Sy) (Q:VK) (X0:LK) (t0 t1 t2 t3 t8 t9 t10 t11:Value) (H:AH):Prop :=
 opt (aA .gtr t1 (.int .i64 0)) fun v1=>gd v1 true (fun k=>k t0 H) H fun v2 H1=>gd v1 true (fun k=>k t1 H1) H1 fun v3 H2=>gd v1 true (fun k=>opt (aA .sub v3 (.int .i64 1)) fun v=>k v H2) H2 fun v4 H3=>gd v1 true (fun k=>opt (aG 1 v2 v4) fun v=>k v H3) H3 fun v5 H4=>gd v1 true (fun k=>opt (aB v5 H4) fun v=>k v H4) H4 fun v6 H5=>gd v1 true (fun k=>k t0 H5) H5 fun v7 H6=>gd v1 true (fun k=>k t11 H6) H6 fun v8 H7=>gd v1 true (fun k=>opt (aG 1 v7 v8) fun v=>k v H7) H7 fun v9 H8=>gd v1 true (fun k=>opt (aB v9 H8) fun v=>k v H8) H8 fun v10 H9=>gd v1 true (fun k=>E.call (E.fid i.f2) [v6,v10] H9 fun v h=>k v h) H9 fun v11 H10=>gd v1 true (fun k=>opt (un .not v11) fun v=>k v H10) H10 fun v12 H11=>opt (pick v1 v12 (.bool false)) fun v13=>ifB v13 (
 E.call (E.fid i.f93) [t0,t1,t2,t11] H11 fun v14 H12=>X0 [t0,v14,t2,t3,t8,t9] H12) (
 E.call (E.fid i.f95) [t0,t1,t2,t11] H11 fun v15 H13=>opt (ext v15 0) fun v16=>opt (ext v15 1) fun v17=>opt (aA .sub v16 t1) fun v18=>opt (aA .sub t2 v16) fun v19=>opt (aA .quo t10 (.int .i64 8)) fun v20=>opt (aA .lss v18 v19) fun v21=>ifB v21 (
 opt (aA .geq v18 v20) fun v22=>E.call (E.fid i.f97) [t0,t1,v16,t3] H13 fun v23 H14=>opt (aA .add v16 (.int .i64 1)) fun v24=>X0 [t0,v24,t2,t3,v22,v17] H14) (
 opt (aA .geq v19 v20) fun v25=>opt (aA .add v16 (.int .i64 1)) fun v26=>E.call (E.fid i.f97) [t0,v26,t2,t3] H13 fun v27 H15=>X0 [t0,t1,v16,t3,v25,v17] H15))
def F.f97_j2 (E:Sy) (Q:VK) (X0:LK) (t0 t1 t2 t3 t8 t9 t10 t11 t12:Value) (H:AH):Prop :=
 gd t8 true (fun k=>k t9 H) H fun v1 H1=>opt (pick t8 v1 (.bool false)) fun v2=>gd v2 true (fun k=>k t12 H1) H1 fun v3 H2=>gd v2 true (fun k=>opt (aA .eql v3 (.int .i64 1)) fun v=>k v H2) H2 fun v4 H3=>opt (pick v2 v4 (.bool false)) fun v5=>ifB v5 (
 E.call (E.fid i.f91) [t0,t1,t2] H3 fun v6 H4=>ifB v6 (
 Q (.tuple #[]) H4) (
 F.f97_j3 E Q X0 t0 t1 t2 t3 t8 t9 t10 t11 H4)) (
 F.f97_j3 E Q X0 t0 t1 t2 t3 t8 t9 t10 t11 H3)
def F.f97_j1 (E:Sy) (Q:VK) (X0:LK) (t0 t1 t2 t3 t8 t9 t10:Value) (H:AH):Prop :=
 E.call (E.fid i.f78) [t0,t1,t2] H fun v1 H1=>opt (ext v1 0) fun v2=>opt (ext v1 1) fun v3=>opt (aA .eql v3 (.int .i64 2)) fun v4=>ifB v4 (
 E.call (E.fid i.f99) [t0,t1,t2] H1 fun v5 H2=>opt (aA .sub t2 (.int .i64 1)) fun v6=>opt (aA .sub v2 t1) fun v7=>opt (aA .sub v6 v7) fun v8=>F.f97_j2 E Q X0 t0 t1 t2 t3 t8 t9 t10 v8 (.int .i64 1) H2) (
 F.f97_j2 E Q X0 t0 t1 t2 t3 t8 t9 t10 v2 v3 H1)
def F.f97_l1 (E:Sy) (Q:VK) (t0 t1 t2 t3 t8 t9:Value) (H:AH) (X0:LK):Prop :=
 opt (aA .sub t2 t1) fun v1=>opt (aA .leq v1 (.int .i64 12)) fun v2=>ifB v2 (
 E.call (E.fid i.f82) [t0,t1,t2] H fun v3 H1=>Q (.tuple #[]) H1) (
 opt (aA .eql t3 (.int .i64 0)) fun v4=>ifB v4 (
 E.call (E.fid i.f80) [t0,t1,t2] H fun v5 H2=>Q (.tuple #[]) H2) (
 opt (un .not t8) fun v6=>ifB v6 (
 E.call (E.fid i.f76) [t0,t1,t2] H fun v7 H3=>opt (aA .sub t3 (.int .i64 1)) fun v8=>F.f97_j1 E Q X0 t0 t1 t2 v8 t8 t9 v1 H3) (
 F.f97_j1 E Q X0 t0 t1 t2 t3 t8 t9 v1 H)))
def F.f97 (E:Sy) (x0 x1 x2 x3:Value) (H:AH) (Q:VK):Prop :=
 aO (fun l H X0=>F.f97_l1 E Q (nth l 0) (nth l 1) (nth l 2) (nth l 3) (nth l 4) (nth l 5) H X0) [x0,x1,x2,x3,(.bool true),(.bool true)] H

def F.f98_j3 (E:Sy) (Q:VK) (X0:LK) (t0 t1 t2 t3 t8 t9 t10 t11:Value) (H:AH):Prop :=
 opt (aA .gtr t1 (.int .i64 0)) fun v1=>gd v1 true (fun k=>k t0 H) H fun v2 H1=>gd v1 true (fun k=>k t1 H1) H1 fun v3 H2=>gd v1 true (fun k=>opt (aA .sub v3 (.int .i64 1)) fun v=>k v H2) H2 fun v4 H3=>gd v1 true (fun k=>opt (aG 1 v2 v4) fun v=>k v H3) H3 fun v5 H4=>gd v1 true (fun k=>opt (aB v5 H4) fun v=>k v H4) H4 fun v6 H5=>gd v1 true (fun k=>k t0 H5) H5 fun v7 H6=>gd v1 true (fun k=>k t11 H6) H6 fun v8 H7=>gd v1 true (fun k=>opt (aG 1 v7 v8) fun v=>k v H7) H7 fun v9 H8=>gd v1 true (fun k=>opt (aB v9 H8) fun v=>k v H8) H8 fun v10 H9=>gd v1 true (fun k=>E.call (E.fid i.f3) [v6,v10] H9 fun v h=>k v h) H9 fun v11 H10=>gd v1 true (fun k=>opt (un .not v11) fun v=>k v H10) H10 fun v12 H11=>opt (pick v1 v12 (.bool false)) fun v13=>ifB v13 (
 E.call (E.fid i.f94) [t0,t1,t2,t11] H11 fun v14 H12=>X0 [t0,v14,t2,t3,t8,t9] H12) (
 E.call (E.fid i.f96) [t0,t1,t2,t11] H11 fun v15 H13=>opt (ext v15 0) fun v16=>opt (ext v15 1) fun v17=>opt (aA .sub v16 t1) fun v18=>opt (aA .sub t2 v16) fun v19=>opt (aA .quo t10 (.int .i64 8)) fun v20=>opt (aA .lss v18 v19) fun v21=>ifB v21 (
 opt (aA .geq v18 v20) fun v22=>E.call (E.fid i.f98) [t0,t1,v16,t3] H13 fun v23 H14=>opt (aA .add v16 (.int .i64 1)) fun v24=>X0 [t0,v24,t2,t3,v22,v17] H14) (
 opt (aA .geq v19 v20) fun v25=>opt (aA .add v16 (.int .i64 1)) fun v26=>E.call (E.fid i.f98) [t0,v26,t2,t3] H13 fun v27 H15=>X0 [t0,t1,v16,t3,v25,v17] H15))
def F.f98_j2 (E:Sy) (Q:VK) (X0:LK) (t0 t1 t2 t3 t8 t9 t10 t11 t12:Value) (H:AH):Prop :=
 gd t8 true (fun k=>k t9 H) H fun v1 H1=>opt (pick t8 v1 (.bool false)) fun v2=>gd v2 true (fun k=>k t12 H1) H1 fun v3 H2=>gd v2 true (fun k=>opt (aA .eql v3 (.int .i64 1)) fun v=>k v H2) H2 fun v4 H3=>opt (pick v2 v4 (.bool false)) fun v5=>ifB v5 (
 E.call (E.fid i.f92) [t0,t1,t2] H3 fun v6 H4=>ifB v6 (
 Q (.tuple #[]) H4) (
 F.f98_j3 E Q X0 t0 t1 t2 t3 t8 t9 t10 t11 H4)) (
 F.f98_j3 E Q X0 t0 t1 t2 t3 t8 t9 t10 t11 H3)
def F.f98_j1 (E:Sy) (Q:VK) (X0:LK) (t0 t1 t2 t3 t8 t9 t10:Value) (H:AH):Prop :=
 E.call (E.fid i.f79) [t0,t1,t2] H fun v1 H1=>opt (ext v1 0) fun v2=>opt (ext v1 1) fun v3=>opt (aA .eql v3 (.int .i64 2)) fun v4=>ifB v4 (
 E.call (E.fid i.f100) [t0,t1,t2] H1 fun v5 H2=>opt (aA .sub t2 (.int .i64 1)) fun v6=>opt (aA .sub v2 t1) fun v7=>opt (aA .sub v6 v7) fun v8=>F.f98_j2 E Q X0 t0 t1 t2 t3 t8 t9 t10 v8 (.int .i64 1) H2) (
 F.f98_j2 E Q X0 t0 t1 t2 t3 t8 t9 t10 v2 v3 H1)
def F.f98_l1 (E:Sy) (Q:VK) (t0 t1 t2 t3 t8 t9:Value) (H:AH) (X0:LK):Prop :=
 opt (aA .sub t2 t1) fun v1=>opt (aA .leq v1 (.int .i64 12)) fun v2=>ifB v2 (
 E.call (E.fid i.f83) [t0,t1,t2] H fun v3 H1=>Q (.tuple #[]) H1) (
 opt (aA .eql t3 (.int .i64 0)) fun v4=>ifB v4 (
 E.call (E.fid i.f81) [t0,t1,t2] H fun v5 H2=>Q (.tuple #[]) H2) (
 opt (un .not t8) fun v6=>ifB v6 (
 E.call (E.fid i.f77) [t0,t1,t2] H fun v7 H3=>opt (aA .sub t3 (.int .i64 1)) fun v8=>F.f98_j1 E Q X0 t0 t1 t2 v8 t8 t9 v1 H3) (
 F.f98_j1 E Q X0 t0 t1 t2 t3 t8 t9 v1 H)))
def F.f98 (E:Sy) (x0 x1 x2 x3:Value) (H:AH) (Q:VK):Prop :=
 aO (fun l H X0=>F.f98_l1 E Q (nth l 0) (nth l 1) (nth l 2) (nth l 3) (nth l 4) (nth l 5) H X0) [x0,x1,x2,x3,(.bool true),(.bool true)] H

def F.f67 (E:Sy) (x0 x1 x2:Value) (H:AH) (Q:VK):Prop :=
 E.call (E.fid i.f65) [x0,x1] H fun v1 H1=>opt (aA .neq v1 (.int .i64 0)) fun v2=>ifB v2 (
 Q v1 H1) (
 E.call (E.fid i.f60) [x0,x1] H1 fun v3 H2=>E.call (E.fid i.f49) [x2] H2 fun v4 H3=>opt (un .not v4) fun v5=>ifB v5 (
 Q (.int .i64 22) H3) (
 E.call (E.fid i.f70) [v3,x2] H3 fun v6 H4=>opt (aA .geq v6 (.int .i64 0)) fun v7=>ifB v7 (
 Q (.int .i64 17) H4) (
 opt (aH v3) fun v8=>opt (aC v8 5) fun v9=>opt (aB v9 H4) fun v10=>opt (aA .eql v10 (.int .i64 0)) fun v11=>ifB v11 (
 Q (.int .i64 2) H4) (
 opt (aH v3) fun v12=>opt (aC v12 2) fun v13=>opt (aB v13 H4) fun v14=>opt (lenSlc v14) fun v15=>opt (aA .geq v15 (.int .i64 32)) fun v16=>ifB v16 (
 Q (.int .i64 28) H4) (
 Q (.int .i64 0) H4)))))

def F.f56_l1 (E:Sy) (Q:VK) (t0 t3 t4:Value) (H:AH) (X0:LK):Prop :=
 opt (aH t0) fun v1=>opt (aC v1 0) fun v2=>opt (aB v2 H) fun v3=>opt (lenSlc v3) fun v4=>opt (aA .lss t4 v4) fun v5=>ifB v5 (
 opt (aH t0) fun v6=>opt (aC v6 0) fun v7=>opt (aB v7 H) fun v8=>opt (aG 7 v8 t4) fun v9=>opt (aC v9 0) fun v10=>opt (aB v10 H) fun v11=>opt (aA .gtr v11 (.int .i64 0)) fun v12=>ifB v12 (
 opt (aA .add t3 (.int .i64 1)) fun v13=>opt (aA .add t4 (.int .i64 1)) fun v14=>X0 [t0,v13,v14] H) (
 opt (aA .add t4 (.int .i64 1)) fun v15=>X0 [t0,t3,v15] H)) (
 Q t3 H)
def F.f56 (E:Sy) (x0:Value) (H:AH) (Q:VK):Prop :=
 aO (fun l H X0=>F.f56_l1 E Q (nth l 0) (nth l 1) (nth l 2) H X0) [x0,(.int .i64 0),(.int .i64 0)] H

def F.f64_l1 (E:Sy) (Q:VK) (t0 t1 t5:Value) (H:AH) (X0:LK):Prop :=
 opt (aA .neq t1 (.int .i64 1)) fun v1=>gd v1 true (fun k=>k t5 H) H fun v2 H1=>gd v1 true (fun k=>opt (aA .lss v2 (.int .i64 20)) fun v=>k v H1) H1 fun v3 H2=>opt (pick v1 v3 (.bool false)) fun v4=>ifB v4 (
 E.call (E.fid i.f60) [t0,t1] H2 fun v5 H3=>opt (aH v5) fun v6=>opt (aC v6 3) fun v7=>opt (aB v7 H3) fun v8=>opt (aA .add t5 (.int .i64 1)) fun v9=>X0 [t0,v8,v9] H3) (
 Q t5 H2)
def F.f64 (E:Sy) (x0 x1:Value) (H:AH) (Q:VK):Prop :=
 aO (fun l H X0=>F.f64_l1 E Q (nth l 0) (nth l 1) (nth l 2) H X0) [x0,x1,(.int .i64 0)] H

def F.f71_l1 (E:Sy) (Q:VK) (t0 t3 t5:Value) (H:AH) (X0:LK):Prop :=
 opt (lenSlc t0) fun v1=>opt (aA .lss t5 v1) fun v2=>gd v2 true (fun k=>k t0 H) H fun v3 H1=>gd v2 true (fun k=>k t5 H1) H1 fun v4 H2=>gd v2 true (fun k=>opt (aG 2 v3 v4) fun v=>k v H2) H2 fun v5 H3=>gd v2 true (fun k=>opt (aC v5 0) fun v=>k v H3) H3 fun v6 H4=>gd v2 true (fun k=>opt (aB v6 H4) fun v=>k v H4) H4 fun v7 H5=>gd v2 true (fun k=>opt (aC t3 0) fun v=>k v H5) H5 fun v8 H6=>gd v2 true (fun k=>opt (aB v8 H6) fun v=>k v H6) H6 fun v9 H7=>gd v2 true (fun k=>opt (cE .lss v7 v9) fun v=>k v H7) H7 fun v10 H8=>opt (pick v2 v10 (.bool false)) fun v11=>ifB v11 (
 opt (aA .add t5 (.int .i64 1)) fun v12=>X0 [t0,t3,v12] H8) (
 mk (buildS 0 2 #[(.string ⟨#[]⟩),(.int .i64 0)] []) H8 fun v13 H9=>opt (eM 2 t0 none (some t5) none H9) fun v14=>opt (bM 2 t3 H9) fun v15=>mk (buildS 1 2 #[(.string ⟨#[]⟩),(.int .i64 0)] [(0,v15)]) H9 fun v16 H10=>opt (eM 2 t0 (some t5) none none H10) fun v17=>fR (app 2 24 v13 v14 H10) fun v18 H11=>eM 2 t0 (some t5) none none H11=eM 2 t0 (some t5) none none H10 /\
 H11.get H9.next=H10.get H9.next /\
 bM 2 t3 H11=bM 2 t3 H9 /\
 fR (app 2 24 v18 v16 H11) fun v19 H12=>eM 2 t0 (some t5) none none H12=eM 2 t0 (some t5) none none H10 /\
 fR (app 2 24 v19 v17 H12) fun v20 H13=>Q v20 H13)
def F.f71 (E:Sy) (x0 x1:Value) (H:AH) (Q:VK):Prop :=
 mk (gZ x1) H fun v1 H1=>aO (fun l H X0=>F.f71_l1 E Q (nth l 0) (nth l 1) (nth l 2) H X0) [x0,v1,(.int .i64 0)] H1

def F.f70_l1 (E:Sy) (Q:VK) (t0 t1 t5:Value) (H:AH) (X0:LK):Prop :=
 opt (aH t0) fun v1=>opt (aC v1 2) fun v2=>opt (aB v2 H) fun v3=>opt (lenSlc v3) fun v4=>opt (aA .lss t5 v4) fun v5=>ifB v5 (
 opt (aH t0) fun v6=>opt (aC v6 2) fun v7=>opt (aB v7 H) fun v8=>opt (aG 2 v8 t5) fun v9=>opt (aC v9 0) fun v10=>opt (aB v10 H) fun v11=>opt (cE .eql v11 t1) fun v12=>ifB v12 (
 Q t5 H) (
 opt (aA .add t5 (.int .i64 1)) fun v13=>X0 [t0,t1,v13] H)) (
 Q (.int .i64 (-1)) H)
def F.f70 (E:Sy) (x0 x1:Value) (H:AH) (Q:VK):Prop :=
 aO (fun l H X0=>F.f70_l1 E Q (nth l 0) (nth l 1) (nth l 2) H X0) [x0,x1,(.int .i64 0)] H

def F.f72 (E:Sy) (x0 x1:Value) (H:AH) (Q:VK):Prop :=
 mk (buildS 0 2 #[(.string ⟨#[]⟩),(.int .i64 0)] []) H fun v1 H1=>opt (eM 2 x0 none (some x1) none H1) fun v2=>opt (aA .add x1 (.int .i64 1)) fun v3=>opt (eM 2 x0 (some v3) none none H1) fun v4=>fR (app 2 24 v1 v2 H1) fun v5 H2=>eM 2 x0 (some v3) none none H2=eM 2 x0 (some v3) none none H1 /\
 fR (app 2 24 v5 v4 H2) fun v6 H3=>Q v6 H3

def F.f23 (E:Sy) (x0 x1 x2 x3 x4 x5:Value) (H:AH) (Q:VK):Prop :=
 E.call (E.fid i.f6) [x3] H fun v1 H1=>opt (un .not v1) fun v2=>ifB v2 (
 Q (.int .i64 22) H1) (
 opt (aH x2) fun v3=>opt (aC v3 6) fun v4=>opt (aB v4 H1) fun v5=>opt (aA .eql v5 (.int .i64 0)) fun v6=>ifB v6 (
 Q (.int .i64 2) H1) (
 opt (aH x1) fun v7=>opt (aC v7 1) fun v8=>opt (aB v8 H1) fun v9=>opt (aA .eql v9 (.int .u8 2)) fun v10=>gd v10 true (fun k=>k x0 H1) H1 fun v11 H2=>gd v10 true (fun k=>k x2 H2) H2 fun v12 H3=>gd v10 true (fun k=>opt (aH v12) fun v=>k v H3) H3 fun v13 H4=>gd v10 true (fun k=>opt (aC v13 0) fun v=>k v H4) H4 fun v14 H5=>gd v10 true (fun k=>opt (aB v14 H5) fun v=>k v H5) H5 fun v15 H6=>gd v10 true (fun k=>k x1 H6) H6 fun v16 H7=>gd v10 true (fun k=>opt (aH v16) fun v=>k v H7) H7 fun v17 H8=>gd v10 true (fun k=>opt (aC v17 0) fun v=>k v H8) H8 fun v18 H9=>gd v10 true (fun k=>opt (aB v18 H9) fun v=>k v H9) H9 fun v19 H10=>gd v10 true (fun k=>E.call (E.fid i.f19) [v11,v15,v19] H10 fun v h=>k v h) H10 fun v20 H11=>opt (pick v10 v20 (.bool false)) fun v21=>ifB v21 (
 Q (.int .i64 22) H11) (
 opt (aH x1) fun v22=>opt (aC v22 1) fun v23=>opt (aB v23 H11) fun v24=>opt (aA .eql v24 (.int .u8 2)) fun v25=>gd v25 true (fun k=>k x0 H11) H11 fun v26 H12=>gd v25 true (fun k=>k x2 H12) H12 fun v27 H13=>gd v25 true (fun k=>opt (aH v27) fun v=>k v H13) H13 fun v28 H14=>gd v25 true (fun k=>opt (aC v28 0) fun v=>k v H14) H14 fun v29 H15=>gd v25 true (fun k=>opt (aB v29 H15) fun v=>k v H15) H15 fun v30 H16=>gd v25 true (fun k=>k x0 H16) H16 fun v31 H17=>gd v25 true (fun k=>k x1 H17) H17 fun v32 H18=>gd v25 true (fun k=>opt (aH v32) fun v=>k v H18) H18 fun v33 H19=>gd v25 true (fun k=>opt (aC v33 0) fun v=>k v H19) H19 fun v34 H20=>gd v25 true (fun k=>opt (aB v34 H20) fun v=>k v H20) H20 fun v35 H21=>gd v25 true (fun k=>E.call (E.fid i.f21) [v26,v30] H21 fun v h=>k v h) H21 fun v36 H22=>gdC v25 true (aB v34 H22=aB v34 H20) /\
 gd v25 true (fun k=>E.call (E.fid i.f25) [v31,v35] H22 fun v h=>k v h) H22 fun v37 H23=>gd v25 true (fun k=>opt (aA .add v36 v37) fun v=>k v H23) H23 fun v38 H24=>gd v25 true (fun k=>opt (aA .gtr v38 (.int .i64 16)) fun v=>k v H24) H24 fun v39 H25=>opt (pick v25 v39 (.bool false)) fun v40=>ifB v40 (
 Q (.int .i64 28) H25) (
 opt (un .not x4) fun v41=>ifB v41 (
 Q (.int .i64 0) H25) (
 opt (aH x0) fun v42=>opt (aC v42 0) fun v43=>opt (aB v43 H25) fun v44=>opt (look 0 (.pointer none) false v44 x5 H25) fun v45=>opt (aH x1) fun v46=>opt (aC v46 1) fun v47=>opt (aB v47 H25) fun v48=>opt (aA .eql v48 (.int .u8 2)) fun v49=>gd v49 true (fun k=>k v45 H25) H25 fun v50 H26=>gd v49 true (fun k=>opt (aH v50) fun v=>k v H26) H26 fun v51 H27=>gd v49 true (fun k=>opt (aC v51 1) fun v=>k v H27) H27 fun v52 H28=>gd v49 true (fun k=>opt (aB v52 H28) fun v=>k v H28) H28 fun v53 H29=>gd v49 true (fun k=>opt (aA .neq v53 (.int .u8 2)) fun v=>k v H29) H29 fun v54 H30=>opt (pick v49 v54 (.bool false)) fun v55=>ifB v55 (
 Q (.int .i64 20) H30) (
 opt (aH x1) fun v56=>opt (aC v56 1) fun v57=>opt (aB v57 H30) fun v58=>opt (aA .neq v58 (.int .u8 2)) fun v59=>gd v59 true (fun k=>k v45 H30) H30 fun v60 H31=>gd v59 true (fun k=>opt (aH v60) fun v=>k v H31) H31 fun v61 H32=>gd v59 true (fun k=>opt (aC v61 1) fun v=>k v H32) H32 fun v62 H33=>gd v59 true (fun k=>opt (aB v62 H33) fun v=>k v H33) H33 fun v63 H34=>gd v59 true (fun k=>opt (aA .eql v63 (.int .u8 2)) fun v=>k v H34) H34 fun v64 H35=>opt (pick v59 v64 (.bool false)) fun v65=>ifB v65 (
 Q (.int .i64 21) H35) (
 opt (aH v45) fun v66=>opt (aC v66 1) fun v67=>opt (aB v67 H35) fun v68=>opt (aA .eql v68 (.int .u8 2)) fun v69=>gd v69 true (fun k=>k v45 H35) H35 fun v70 H36=>gd v69 true (fun k=>opt (aH v70) fun v=>k v H36) H36 fun v71 H37=>gd v69 true (fun k=>opt (aC v71 3) fun v=>k v H37) H37 fun v72 H38=>gd v69 true (fun k=>opt (aB v72 H38) fun v=>k v H38) H38 fun v73 H39=>gd v69 true (fun k=>opt (iB v73 H39) fun v=>k v H39) H39 fun v74 H40=>gd v69 true (fun k=>opt (aA .gtr v74 (.int .i64 0)) fun v=>k v H40) H40 fun v75 H41=>opt (pick v69 v75 (.bool false)) fun v76=>ifB v76 (
 Q (.int .i64 39) H41) (
 Q (.int .i64 0) H41))))))))

def F.f65 (E:Sy) (x0 x1:Value) (H:AH) (Q:VK):Prop :=
 E.call (E.fid i.f60) [x0,x1] H fun v1 H1=>opt (aH v1) fun v2=>opt (aC v2 0) fun v3=>opt (aB v3 H1) fun v4=>opt (aA .eql v4 (.int .i64 0)) fun v5=>ifB v5 (
 Q (.int .i64 2) H1) (
 opt (aA .eql v4 (.int .i64 2)) fun v6=>ifB v6 (
 Q (.int .i64 0) H1) (
 Q (.int .i64 20) H1))

def F.f49_l1 (E:Sy) (Q:VK) (t0 t3:Value) (H:AH) (X0:LK):Prop :=
 opt (iQ t0) fun v1=>opt (aA .lss t3 v1) fun v2=>ifB v2 (
 opt (mH t0 t3) fun v3=>opt (aA .lss v3 (.int .u8 33)) fun v4=>gd v4 false (fun k=>k t0 H) H fun v5 H1=>gd v4 false (fun k=>k t3 H1) H1 fun v6 H2=>gd v4 false (fun k=>opt (mH v5 v6) fun v=>k v H2) H2 fun v7 H3=>gd v4 false (fun k=>opt (aA .gtr v7 (.int .u8 126)) fun v=>k v H3) H3 fun v8 H4=>opt (pick v4 (.bool true) v8) fun v9=>gd v9 false (fun k=>k t0 H4) H4 fun v10 H5=>gd v9 false (fun k=>k t3 H5) H5 fun v11 H6=>gd v9 false (fun k=>opt (mH v10 v11) fun v=>k v H6) H6 fun v12 H7=>gd v9 false (fun k=>opt (aA .eql v12 (.int .u8 47)) fun v=>k v H7) H7 fun v13 H8=>opt (pick v9 (.bool true) v13) fun v14=>gd v14 false (fun k=>k t0 H8) H8 fun v15 H9=>gd v14 false (fun k=>k t3 H9) H9 fun v16 H10=>gd v14 false (fun k=>opt (mH v15 v16) fun v=>k v H10) H10 fun v17 H11=>gd v14 false (fun k=>opt (aA .eql v17 (.int .u8 35)) fun v=>k v H11) H11 fun v18 H12=>opt (pick v14 (.bool true) v18) fun v19=>ifB v19 (
 Q (.bool false) H12) (
 opt (aA .add t3 (.int .i64 1)) fun v20=>X0 [t0,v20] H12)) (
 opt (iQ t0) fun v21=>opt (aA .geq v21 (.int .i64 1)) fun v22=>gd v22 true (fun k=>k t0 H) H fun v23 H13=>gd v22 true (fun k=>opt (iQ v23) fun v=>k v H13) H13 fun v24 H14=>gd v22 true (fun k=>opt (aA .leq v24 (.int .i64 14)) fun v=>k v H14) H14 fun v25 H15=>opt (pick v22 v25 (.bool false)) fun v26=>gd v26 true (fun k=>k t0 H15) H15 fun v27 H16=>gd v26 true (fun k=>opt (cE .neq v27 (.string ⟨#[46]⟩)) fun v=>k v H16) H16 fun v28 H17=>opt (pick v26 v28 (.bool false)) fun v29=>gd v29 true (fun k=>k t0 H17) H17 fun v30 H18=>gd v29 true (fun k=>opt (cE .neq v30 (.string ⟨#[46,46]⟩)) fun v=>k v H18) H18 fun v31 H19=>opt (pick v29 v31 (.bool false)) fun v32=>Q v32 H19)
def F.f49 (E:Sy) (x0:Value) (H:AH) (Q:VK):Prop :=
 aO (fun l H X0=>F.f49_l1 E Q (nth l 0) (nth l 1) H X0) [x0,(.int .i64 0)] H

def F.f62_l1 (E:Sy) (Q:VK) (t0 t1 t2 t7:Value) (H:AH) (X0:LK):Prop :=
 opt (aA .lss t7 (.int .i64 20)) fun v1=>ifB v1 (
 E.call (E.fid i.f60) [t0,t1] H fun v2 H1=>opt (aH v2) fun v3=>opt (aC v3 0) fun v4=>opt (aB v4 H1) fun v5=>opt (aA .neq v5 (.int .i64 2)) fun v6=>ifB v6 (
 Q (.bool false) H1) (
 opt (aA .eql t1 t2) fun v7=>ifB v7 (
 Q (.bool true) H1) (
 E.call (E.fid i.f60) [t0,t1] H1 fun v8 H2=>opt (aH v8) fun v9=>opt (aC v9 3) fun v10=>opt (aB v10 H2) fun v11=>opt (aA .eql t1 v11) fun v12=>ifB v12 (
 Q (.bool false) H2) (
 E.call (E.fid i.f60) [t0,t1] H2 fun v13 H3=>opt (aH v13) fun v14=>opt (aC v14 3) fun v15=>opt (aB v15 H3) fun v16=>opt (aA .add t7 (.int .i64 1)) fun v17=>X0 [t0,v16,t2,v17] H3)))) (
 Q (.bool false) H)
def F.f62 (E:Sy) (x0 x1 x2:Value) (H:AH) (Q:VK):Prop :=
 aO (fun l H X0=>F.f62_l1 E Q (nth l 0) (nth l 1) (nth l 2) (nth l 3) H X0) [x0,x1,x2,(.int .i64 0)] H

def F.f68_l1 (E:Sy) (Q:VK) (t0 t5 t6 t7:Value) (H:AH) (X0:LK):Prop :=
 opt (aH t6) fun v1=>opt (aC v1 2) fun v2=>opt (aB v2 H) fun v3=>opt (lenSlc v3) fun v4=>opt (aA .lss t7 v4) fun v5=>ifB v5 (
 opt (aH t6) fun v6=>opt (aC v6 2) fun v7=>opt (aB v7 H) fun v8=>opt (aG 2 v8 t7) fun v9=>opt (aC v9 1) fun v10=>opt (aB v10 H) fun v11=>E.call (E.fid i.f60) [t0,v11] H fun v12 H1=>opt (aH v12) fun v13=>opt (aC v13 0) fun v14=>opt (aB v14 H1) fun v15=>opt (aA .eql v15 (.int .i64 2)) fun v16=>ifB v16 (
 E.call (E.fid i.f68) [t0,v11] H1 fun v17 H2=>opt (jE max2 [t5,v17]) fun v18=>opt (aA .add t7 (.int .i64 1)) fun v19=>X0 [t0,v18,t6,v19] H2) (
 opt (aA .add t7 (.int .i64 1)) fun v20=>X0 [t0,t5,t6,v20] H1)) (
 opt (aA .add t5 (.int .i64 1)) fun v21=>Q v21 H)
def F.f68 (E:Sy) (x0 x1:Value) (H:AH) (Q:VK):Prop :=
 E.call (E.fid i.f60) [x0,x1] H fun v1 H1=>aO (fun l H X0=>F.f68_l1 E Q (nth l 0) (nth l 1) (nth l 2) (nth l 3) H X0) [x0,(.int .i64 0),v1,(.int .i64 0)] H1

def F.f36 (E:Sy) (x0 x1:Value) (H:AH) (Q:VK):Prop :=
 mk (gZ x0) H fun v1 H1=>opt (aC v1 0) fun v2=>opt (aB v2 H1) fun v3=>opt (aB x1 H1) fun v4=>opt (aA .eql v3 v4) fun v5=>Q v5 H1

def F.f73_l1 (E:Sy) (Q:VK) (t0 t1 t7 t8:Value) (H:AH) (X0:LK):Prop :=
 opt (aA .lss t8 t7) fun v1=>ifB v1 (
 opt (aG 5 t0 t8) fun v2=>opt (bM 5 v2 H) fun v3=>jJ E.call t1 [v3] H fun v4 H1=>ifB v4 (
 Q t8 H1) (
 opt (aA .add t8 (.int .i64 1)) fun v5=>X0 [t0,t1,t7,v5] H1)) (
 Q (.int .i64 (-1)) H)
def F.f73 (E:Sy) (x0 x1:Value) (H:AH) (Q:VK):Prop :=
 opt (lenSlc x0) fun v1=>aO (fun l H X0=>F.f73_l1 E Q (nth l 0) (nth l 1) (nth l 2) (nth l 3) H X0) [x0,x1,v1,(.int .i64 0)] H

def F.f34 (E:Sy) (x0 x1:Value) (H:AH) (Q:VK):Prop :=
 mk (gZ x0) H fun v1 H1=>opt (aC v1 0) fun v2=>opt (aB v2 H1) fun v3=>opt (aA .neq v3 (.int .i64 0)) fun v4=>gd v4 true (fun k=>opt (aC v1 1) fun v=>k v H1) H1 fun v5 H2=>gd v4 true (fun k=>opt (bM 2 v5 H2) fun v=>k v H2) H2 fun v6 H3=>gd v4 true (fun k=>opt (bM 2 x1 H3) fun v=>k v H3) H3 fun v7 H4=>gd v4 true (fun k=>opt (iS [0,0] .eql v6 v7) fun v=>k v H4) H4 fun v8 H5=>opt (pick v4 v8 (.bool false)) fun v9=>Q v9 H5

def F.f5 (E:Sy) (x0:Value) (H:AH) (Q:VK):Prop :=
 opt (cE .neq x0 x0) fun v1=>Q v1 H

def F.f111 (E:Sy) (x0 x1:Value) (H:AH) (Q:VK):Prop :=
 E.call (E.fid i.f112) [x0,x1,(.bool true)] H fun v1 H1=>Q v1 H1

def F.f7 (E:Sy) (x0:Value) (H:AH) (Q:VK):Prop :=
 opt (aA .lss x0 (.int .i32 33)) fun v1=>gd v1 false (fun k=>k x0 H) H fun v2 H1=>gd v1 false (fun k=>opt (aA .gtr v2 (.int .i32 126)) fun v=>k v H1) H1 fun v3 H2=>opt (pick v1 (.bool true) v3) fun v4=>gd v4 false (fun k=>k x0 H2) H2 fun v5 H3=>gd v4 false (fun k=>opt (aA .eql v5 (.int .i32 47)) fun v=>k v H3) H3 fun v6 H4=>opt (pick v4 (.bool true) v6) fun v7=>gd v7 false (fun k=>k x0 H4) H4 fun v8 H5=>gd v7 false (fun k=>opt (aA .eql v8 (.int .i32 35)) fun v=>k v H5) H5 fun v9 H6=>opt (pick v7 (.bool true) v9) fun v10=>Q v10 H6

def F.f29_j3 (E:Sy) (Q:VK) (t0 t2:Value) (H:AH):Prop :=
 opt (bC .u8 t0) fun v1=>opt (mH (.string ⟨#[0,1,2,2,3,3,3,3,4,4,4,4,4,4,4,4,5,5,5,5,5,5,5,5,5,5,5,5,5,5,5,5,6,6,6,6,6,6,6,6,6,6,6,6,6,6,6,6,6,6,6,6,6,6,6,6,6,6,6,6,6,6,6,6,7,7,7,7,7,7,7,7,7,7,7,7,7,7,7,7,7,7,7,7,7,7,7,7,7,7,7,7,7,7,7,7,7,7,7,7,7,7,7,7,7,7,7,7,7,7,7,7,7,7,7,7,7,7,7,7,7,7,7,7,7,7,7,7,8,8,8,8,8,8,8,8,8,8,8,8,8,8,8,8,8,8,8,8,8,8,8,8,8,8,8,8,8,8,8,8,8,8,8,8,8,8,8,8,8,8,8,8,8,8,8,8,8,8,8,8,8,8,8,8,8,8,8,8,8,8,8,8,8,8,8,8,8,8,8,8,8,8,8,8,8,8,8,8,8,8,8,8,8,8,8,8,8,8,8,8,8,8,8,8,8,8,8,8,8,8,8,8,8,8,8,8,8,8,8,8,8,8,8,8,8,8,8,8,8,8,8,8,8,8,8,8]⟩) v1) fun v2=>opt (bC .i64 v2) fun v3=>opt (aA .add t2 v3) fun v4=>Q v4 H
def F.f29_j2 (E:Sy) (Q:VK) (t0 t2:Value) (H:AH):Prop :=
 opt (aA .geq t0 (.int .u64 256)) fun v1=>ifB v1 (
 opt (aA .shr t0 (.int .u64 8)) fun v2=>opt (aA .add t2 (.int .i64 8)) fun v3=>F.f29_j3 E Q v2 v3 H) (
 F.f29_j3 E Q t0 t2 H)
def F.f29_j1 (E:Sy) (Q:VK) (t0 t2:Value) (H:AH):Prop :=
 opt (aA .geq t0 (.int .u64 65536)) fun v1=>ifB v1 (
 opt (aA .shr t0 (.int .u64 16)) fun v2=>opt (aA .add t2 (.int .i64 16)) fun v3=>F.f29_j2 E Q v2 v3 H) (
 F.f29_j2 E Q t0 t2 H)
def F.f29 (E:Sy) (x0:Value) (H:AH) (Q:VK):Prop :=
 opt (aA .geq x0 (.int .u64 4294967296)) fun v1=>ifB v1 (
 opt (aA .shr x0 (.int .u64 32)) fun v2=>F.f29_j1 E Q v2 (.int .i64 32) H) (
 F.f29_j1 E Q x0 (.int .i64 0) H)

def F.f82_l2 (E:Sy) (Q:VK) (X0:LK) (t0 t1 t2 t6 t7:Value) (H:AH) (X1:LK):Prop :=
 opt (aA .gtr t7 t1) fun v1=>gd v1 true (fun k=>k t0 H) H fun v2 H1=>gd v1 true (fun k=>k t7 H1) H1 fun v3 H2=>gd v1 true (fun k=>opt (aG 1 v2 v3) fun v=>k v H2) H2 fun v4 H3=>gd v1 true (fun k=>opt (aB v4 H3) fun v=>k v H3) H3 fun v5 H4=>gd v1 true (fun k=>k t0 H4) H4 fun v6 H5=>gd v1 true (fun k=>k t7 H5) H5 fun v7 H6=>gd v1 true (fun k=>opt (aA .sub v7 (.int .i64 1)) fun v=>k v H6) H6 fun v8 H7=>gd v1 true (fun k=>opt (aG 1 v6 v8) fun v=>k v H7) H7 fun v9 H8=>gd v1 true (fun k=>opt (aB v9 H8) fun v=>k v H8) H8 fun v10 H9=>gd v1 true (fun k=>E.call (E.fid i.f2) [v5,v10] H9 fun v h=>k v h) H9 fun v11 H10=>opt (pick v1 v11 (.bool false)) fun v12=>ifB v12 (
 opt (aA .sub t7 (.int .i64 1)) fun v13=>opt (aA .sub t7 (.int .i64 1)) fun v14=>opt (aG 1 t0 v14) fun v15=>opt (aB v15 H10) fun v16=>opt (aG 1 t0 t7) fun v17=>opt (aB v17 H10) fun v18=>opt (aG 1 t0 t7) fun v19=>opt (aN v19 v16 H10) fun H11=>opt (aG 1 t0 v13) fun v20=>opt (aN v20 v18 H11) fun H12=>opt (aA .sub t7 (.int .i64 1)) fun v21=>X1 [t0,t1,t2,t6,v21] H12) (
 opt (aA .add t6 (.int .i64 1)) fun v22=>X0 [t0,t1,t2,v22] H10)
def F.f82_l1 (E:Sy) (Q:VK) (t0 t1 t2 t6:Value) (H:AH) (X0:LK):Prop :=
 opt (aA .lss t6 t2) fun v1=>ifB v1 (
 aO (fun l H X1=>F.f82_l2 E Q X0 (nth l 0) (nth l 1) (nth l 2) (nth l 3) (nth l 4) H X1) [t0,t1,t2,t6,t6] H) (
 Q (.tuple #[]) H)
def F.f82 (E:Sy) (x0 x1 x2:Value) (H:AH) (Q:VK):Prop :=
 opt (aA .add x1 (.int .i64 1)) fun v1=>aO (fun l H X0=>F.f82_l1 E Q (nth l 0) (nth l 1) (nth l 2) (nth l 3) H X0) [x0,x1,x2,v1] H

def F.f80_l2 (E:Sy) (Q:VK) (t0 t6 t7 t10:Value) (H:AH) (X0:LK):Prop :=
 opt (aA .geq t10 (.int .i64 0)) fun v1=>ifB v1 (
 opt (aA .add t6 t10) fun v2=>opt (aA .add t6 t10) fun v3=>opt (aG 1 t0 v3) fun v4=>opt (aB v4 H) fun v5=>opt (aG 1 t0 t6) fun v6=>opt (aB v6 H) fun v7=>opt (aG 1 t0 t6) fun v8=>opt (aN v8 v5 H) fun H1=>opt (aG 1 t0 v2) fun v9=>opt (aN v9 v7 H1) fun H2=>E.call (E.fid i.f101) [t0,t7,t10,t6] H2 fun v10 H3=>opt (aA .sub t10 (.int .i64 1)) fun v11=>X0 [t0,t6,t7,v11] H3) (
 Q (.tuple #[]) H)
def F.f80_l1 (E:Sy) (Q:VK) (t0 t6 t7 t8 t9:Value) (H:AH) (X0:LK):Prop :=
 opt (aA .geq t9 (.int .i64 0)) fun v1=>ifB v1 (
 E.call (E.fid i.f101) [t0,t9,t8,t6] H fun v2 H1=>opt (aA .sub t9 (.int .i64 1)) fun v3=>X0 [t0,t6,t7,t8,v3] H1) (
 opt (aA .sub t8 (.int .i64 1)) fun v4=>aO (fun l H X0=>F.f80_l2 E Q (nth l 0) (nth l 1) (nth l 2) (nth l 3) H X0) [t0,t6,t7,v4] H)
def F.f80 (E:Sy) (x0 x1 x2:Value) (H:AH) (Q:VK):Prop :=
 opt (aA .sub x2 x1) fun v1=>opt (aA .sub v1 (.int .i64 1)) fun v2=>opt (aA .quo v2 (.int .i64 2)) fun v3=>aO (fun l H X0=>F.f80_l1 E Q (nth l 0) (nth l 1) (nth l 2) (nth l 3) (nth l 4) H X0) [x0,x1,(.int .i64 0),v1,v3] H

def F.f76_j1 (E:Sy) (Q:VK) (X0:LK) (t0 t1 t6 t7 t8 t9 t10:Value) (H:AH):Prop :=
 opt (aA .add t1 t10) fun v1=>opt (aA .add t1 t10) fun v2=>opt (aG 1 t0 v2) fun v3=>opt (aB v3 H) fun v4=>opt (aG 1 t0 t9) fun v5=>opt (aB v5 H) fun v6=>opt (aG 1 t0 t9) fun v7=>opt (aN v7 v4 H) fun H1=>opt (aG 1 t0 v1) fun v8=>opt (aN v8 v6 H1) fun H2=>opt (aA .add t9 (.int .i64 1)) fun v9=>X0 [t0,t1,t6,t7,t8,v9] H2
def F.f76_l1 (E:Sy) (Q:VK) (t0 t1 t6 t7 t8 t9:Value) (H:AH) (X0:LK):Prop :=
 opt (aA .quo t6 (.int .i64 4)) fun v1=>opt (aA .mul v1 (.int .i64 2)) fun v2=>opt (aA .add t1 v2) fun v3=>opt (aA .add v3 (.int .i64 1)) fun v4=>opt (aA .leq t9 v4) fun v5=>ifB v5 (
 E.call (E.fid i.f103) [t7] H fun v6 H1=>opt (aA .sub t8 (.int .u64 1)) fun v7=>opt (aA .and v6 v7) fun v8=>opt (bC .i64 v8) fun v9=>opt (aA .geq v9 t6) fun v10=>ifB v10 (
 opt (aA .sub v9 t6) fun v11=>F.f76_j1 E Q X0 t0 t1 t6 t7 t8 t9 v11 H1) (
 F.f76_j1 E Q X0 t0 t1 t6 t7 t8 t9 v9 H1)) (
 Q (.tuple #[]) H)
def F.f76 (E:Sy) (x0 x1 x2:Value) (H:AH) (Q:VK):Prop :=
 opt (aA .sub x2 x1) fun v1=>opt (aA .geq v1 (.int .i64 8)) fun v2=>ifB v2 (
 opt (bC .u64 v1) fun v3=>eH [(.int .u64 0)] H fun v4 H1=>opt (aN v4 v3 H1) fun H2=>E.call (E.fid i.f88) [v1] H2 fun v5 H3=>opt (aA .quo v1 (.int .i64 4)) fun v6=>opt (aA .mul v6 (.int .i64 2)) fun v7=>opt (aA .add x1 v7) fun v8=>opt (aA .sub v8 (.int .i64 1)) fun v9=>aO (fun l H X0=>F.f76_l1 E Q (nth l 0) (nth l 1) (nth l 2) (nth l 3) (nth l 4) (nth l 5) H X0) [x0,x1,v1,v4,v5,v9] H3) (
 Q (.tuple #[]) H)

def F.f78_j1 (E:Sy) (Q:VK) (t9 t11:Value) (H:AH):Prop :=
 opt (aB t9 H) fun v1=>opt (aA .eql v1 (.int .i64 0)) fun v2=>ifB v2 (
 Q (.tuple #[t11,(.int .i64 1)]) H) (
 opt (aA .eql v1 (.int .i64 12)) fun v3=>ifB v3 (
 Q (.tuple #[t11,(.int .i64 2)]) H) (
 Q (.tuple #[t11,(.int .i64 0)]) H))
def F.f78_j2 (E:Sy) (Q:VK) (t0 t9 t10 t11 t12:Value) (H:AH):Prop :=
 E.call (E.fid i.f86) [t0,t10,t11,t12,t9] H fun v1 H1=>F.f78_j1 E Q t9 v1 H1
def F.f78 (E:Sy) (x0 x1 x2:Value) (H:AH) (Q:VK):Prop :=
 opt (aA .sub x2 x1) fun v1=>eH [(.int .i64 0)] H fun v2 H1=>opt (aA .quo v1 (.int .i64 4)) fun v3=>opt (aA .mul v3 (.int .i64 1)) fun v4=>opt (aA .add x1 v4) fun v5=>opt (aA .quo v1 (.int .i64 4)) fun v6=>opt (aA .mul v6 (.int .i64 2)) fun v7=>opt (aA .add x1 v7) fun v8=>opt (aA .quo v1 (.int .i64 4)) fun v9=>opt (aA .mul v9 (.int .i64 3)) fun v10=>opt (aA .add x1 v10) fun v11=>opt (aA .geq v1 (.int .i64 8)) fun v12=>ifB v12 (
 opt (aA .geq v1 (.int .i64 50)) fun v13=>ifB v13 (
 E.call (E.fid i.f84) [x0,v5,v2] H1 fun v14 H2=>E.call (E.fid i.f84) [x0,v8,v2] H2 fun v15 H3=>E.call (E.fid i.f84) [x0,v11,v2] H3 fun v16 H4=>F.f78_j2 E Q x0 v2 v14 v15 v16 H4) (
 F.f78_j2 E Q x0 v2 v5 v8 v11 H1)) (
 F.f78_j1 E Q v2 v8 H1)

def F.f99_l1 (E:Sy) (Q:VK) (t0 t6 t7:Value) (H:AH) (X0:LK):Prop :=
 opt (aA .lss t6 t7) fun v1=>ifB v1 (
 opt (aG 1 t0 t7) fun v2=>opt (aB v2 H) fun v3=>opt (aG 1 t0 t6) fun v4=>opt (aB v4 H) fun v5=>opt (aG 1 t0 t6) fun v6=>opt (aN v6 v3 H) fun H1=>opt (aG 1 t0 t7) fun v7=>opt (aN v7 v5 H1) fun H2=>opt (aA .add t6 (.int .i64 1)) fun v8=>opt (aA .sub t7 (.int .i64 1)) fun v9=>X0 [t0,v8,v9] H2) (
 Q (.tuple #[]) H)
def F.f99 (E:Sy) (x0 x1 x2:Value) (H:AH) (Q:VK):Prop :=
 opt (aA .sub x2 (.int .i64 1)) fun v1=>aO (fun l H X0=>F.f99_l1 E Q (nth l 0) (nth l 1) (nth l 2) H X0) [x0,x1,v1] H

def F.f91_l3 (E:Sy) (Q:VK) (X0:LK) (t0 t1 t2 t7 t8 t10:Value) (H:AH) (X1:LK):Prop :=
 opt (aA .lss t10 t2) fun v1=>ifB v1 (
 opt (aG 1 t0 t10) fun v2=>opt (aB v2 H) fun v3=>opt (aA .sub t10 (.int .i64 1)) fun v4=>opt (aG 1 t0 v4) fun v5=>opt (aB v5 H) fun v6=>E.call (E.fid i.f2) [v3,v6] H fun v7 H1=>opt (un .not v7) fun v8=>ifB v8 (
 opt (aA .add t8 (.int .i64 1)) fun v9=>X0 [t0,t1,t2,t7,v9] H1) (
 opt (aA .sub t10 (.int .i64 1)) fun v10=>opt (aA .sub t10 (.int .i64 1)) fun v11=>opt (aG 1 t0 v11) fun v12=>opt (aB v12 H1) fun v13=>opt (aG 1 t0 t10) fun v14=>opt (aB v14 H1) fun v15=>opt (aG 1 t0 t10) fun v16=>opt (aN v16 v13 H1) fun H2=>opt (aG 1 t0 v10) fun v17=>opt (aN v17 v15 H2) fun H3=>opt (aA .add t10 (.int .i64 1)) fun v18=>X1 [t0,t1,t2,t7,t8,v18] H3)) (
 opt (aA .add t8 (.int .i64 1)) fun v19=>X0 [t0,t1,t2,t7,v19] H)
def F.f91_j1 (E:Sy) (Q:VK) (X0:LK) (t0 t1 t2 t7 t8:Value) (H:AH):Prop :=
 opt (aA .sub t2 t7) fun v1=>opt (aA .geq v1 (.int .i64 2)) fun v2=>ifB v2 (
 opt (aA .add t7 (.int .i64 1)) fun v3=>aO (fun l H X1=>F.f91_l3 E Q X0 (nth l 0) (nth l 1) (nth l 2) (nth l 3) (nth l 4) (nth l 5) H X1) [t0,t1,t2,t7,t8,v3] H) (
 opt (aA .add t8 (.int .i64 1)) fun v4=>X0 [t0,t1,t2,t7,v4] H)
def F.f91_l4 (E:Sy) (Q:VK) (X0:LK) (t0 t1 t2 t7 t8 t9:Value) (H:AH) (X1:LK):Prop :=
 opt (aA .geq t9 (.int .i64 1)) fun v1=>ifB v1 (
 opt (aG 1 t0 t9) fun v2=>opt (aB v2 H) fun v3=>opt (aA .sub t9 (.int .i64 1)) fun v4=>opt (aG 1 t0 v4) fun v5=>opt (aB v5 H) fun v6=>E.call (E.fid i.f2) [v3,v6] H fun v7 H1=>opt (un .not v7) fun v8=>ifB v8 (
 F.f91_j1 E Q X0 t0 t1 t2 t7 t8 H1) (
 opt (aA .sub t9 (.int .i64 1)) fun v9=>opt (aA .sub t9 (.int .i64 1)) fun v10=>opt (aG 1 t0 v10) fun v11=>opt (aB v11 H1) fun v12=>opt (aG 1 t0 t9) fun v13=>opt (aB v13 H1) fun v14=>opt (aG 1 t0 t9) fun v15=>opt (aN v15 v12 H1) fun H2=>opt (aG 1 t0 v9) fun v16=>opt (aN v16 v14 H2) fun H3=>opt (aA .sub t9 (.int .i64 1)) fun v17=>X1 [t0,t1,t2,t7,t8,v17] H3)) (
 F.f91_j1 E Q X0 t0 t1 t2 t7 t8 H)
def F.f91_l2 (E:Sy) (Q:VK) (X0:LK) (t0 t1 t2 t7 t8:Value) (H:AH) (X1:LK):Prop :=
 opt (aA .lss t7 t2) fun v1=>gd v1 true (fun k=>k t0 H) H fun v2 H1=>gd v1 true (fun k=>k t7 H1) H1 fun v3 H2=>gd v1 true (fun k=>opt (aG 1 v2 v3) fun v=>k v H2) H2 fun v4 H3=>gd v1 true (fun k=>opt (aB v4 H3) fun v=>k v H3) H3 fun v5 H4=>gd v1 true (fun k=>k t0 H4) H4 fun v6 H5=>gd v1 true (fun k=>k t7 H5) H5 fun v7 H6=>gd v1 true (fun k=>opt (aA .sub v7 (.int .i64 1)) fun v=>k v H6) H6 fun v8 H7=>gd v1 true (fun k=>opt (aG 1 v6 v8) fun v=>k v H7) H7 fun v9 H8=>gd v1 true (fun k=>opt (aB v9 H8) fun v=>k v H8) H8 fun v10 H9=>gd v1 true (fun k=>E.call (E.fid i.f2) [v5,v10] H9 fun v h=>k v h) H9 fun v11 H10=>gd v1 true (fun k=>opt (un .not v11) fun v=>k v H10) H10 fun v12 H11=>opt (pick v1 v12 (.bool false)) fun v13=>ifB v13 (
 opt (aA .add t7 (.int .i64 1)) fun v14=>X1 [t0,t1,t2,v14,t8] H11) (
 opt (aA .eql t7 t2) fun v15=>ifB v15 (
 Q (.bool true) H11) (
 opt (aA .sub t2 t1) fun v16=>opt (aA .lss v16 (.int .i64 50)) fun v17=>ifB v17 (
 Q (.bool false) H11) (
 opt (aA .sub t7 (.int .i64 1)) fun v18=>opt (aA .sub t7 (.int .i64 1)) fun v19=>opt (aG 1 t0 v19) fun v20=>opt (aB v20 H11) fun v21=>opt (aG 1 t0 t7) fun v22=>opt (aB v22 H11) fun v23=>opt (aG 1 t0 t7) fun v24=>opt (aN v24 v21 H11) fun H12=>opt (aG 1 t0 v18) fun v25=>opt (aN v25 v23 H12) fun H13=>opt (aA .sub t7 t1) fun v26=>opt (aA .geq v26 (.int .i64 2)) fun v27=>ifB v27 (
 opt (aA .sub t7 (.int .i64 1)) fun v28=>aO (fun l H X1=>F.f91_l4 E Q X0 (nth l 0) (nth l 1) (nth l 2) (nth l 3) (nth l 4) (nth l 5) H X1) [t0,t1,t2,t7,t8,v28] H13) (
 F.f91_j1 E Q X0 t0 t1 t2 t7 t8 H13))))
def F.f91_l1 (E:Sy) (Q:VK) (t0 t1 t2 t7 t8:Value) (H:AH) (X0:LK):Prop :=
 opt (aA .lss t8 (.int .i64 5)) fun v1=>ifB v1 (
 aO (fun l H X1=>F.f91_l2 E Q X0 (nth l 0) (nth l 1) (nth l 2) (nth l 3) (nth l 4) H X1) [t0,t1,t2,t7,t8] H) (
 Q (.bool false) H)
def F.f91 (E:Sy) (x0 x1 x2:Value) (H:AH) (Q:VK):Prop :=
 opt (aA .add x1 (.int .i64 1)) fun v1=>aO (fun l H X0=>F.f91_l1 E Q (nth l 0) (nth l 1) (nth l 2) (nth l 3) (nth l 4) H X0) [x0,x1,x2,v1,(.int .i64 0)] H

def F.f2 (E:Sy) (x0 x1:Value) (H:AH) (Q:VK):Prop :=
 E.call (E.fid i.f4) [x0] H fun v1 H1=>gd v1 true (fun k=>k x1 H1) H1 fun v2 H2=>gd v1 true (fun k=>E.call (E.fid i.f4) [v2] H2 fun v h=>k v h) H2 fun v3 H3=>gd v1 true (fun k=>opt (un .not v3) fun v=>k v H3) H3 fun v4 H4=>opt (pick v1 v4 (.bool false)) fun v5=>gd v5 false (fun k=>k x0 H4) H4 fun v6 H5=>gd v5 false (fun k=>k x1 H5) H5 fun v7 H6=>gd v5 false (fun k=>opt (aA .lss v6 v7) fun v=>k v H6) H6 fun v8 H7=>opt (pick v5 (.bool true) v8) fun v9=>Q v9 H7

def F.f93_l3 (E:Sy) (Q:VK) (X0:LK) (t0 t1 t9 t10:Value) (H:AH) (X1:LK):Prop :=
 opt (aA .leq t9 t10) fun v1=>gd v1 true (fun k=>k t0 H) H fun v2 H1=>gd v1 true (fun k=>k t1 H1) H1 fun v3 H2=>gd v1 true (fun k=>opt (aG 1 v2 v3) fun v=>k v H2) H2 fun v4 H3=>gd v1 true (fun k=>opt (aB v4 H3) fun v=>k v H3) H3 fun v5 H4=>gd v1 true (fun k=>k t0 H4) H4 fun v6 H5=>gd v1 true (fun k=>k t10 H5) H5 fun v7 H6=>gd v1 true (fun k=>opt (aG 1 v6 v7) fun v=>k v H6) H6 fun v8 H7=>gd v1 true (fun k=>opt (aB v8 H7) fun v=>k v H7) H7 fun v9 H8=>gd v1 true (fun k=>E.call (E.fid i.f2) [v5,v9] H8 fun v h=>k v h) H8 fun v10 H9=>opt (pick v1 v10 (.bool false)) fun v11=>ifB v11 (
 opt (aA .sub t10 (.int .i64 1)) fun v12=>X1 [t0,t1,t9,v12] H9) (
 opt (aA .gtr t9 t10) fun v13=>ifB v13 (
 Q t9 H9) (
 opt (aG 1 t0 t10) fun v14=>opt (aB v14 H9) fun v15=>opt (aG 1 t0 t9) fun v16=>opt (aB v16 H9) fun v17=>opt (aG 1 t0 t9) fun v18=>opt (aN v18 v15 H9) fun H10=>opt (aG 1 t0 t10) fun v19=>opt (aN v19 v17 H10) fun H11=>opt (aA .add t9 (.int .i64 1)) fun v20=>opt (aA .sub t10 (.int .i64 1)) fun v21=>X0 [t0,t1,v20,v21] H11))
def F.f93_l2 (E:Sy) (Q:VK) (X0:LK) (t0 t1 t9 t10:Value) (H:AH) (X1:LK):Prop :=
 opt (aA .leq t9 t10) fun v1=>gd v1 true (fun k=>k t0 H) H fun v2 H1=>gd v1 true (fun k=>k t1 H1) H1 fun v3 H2=>gd v1 true (fun k=>opt (aG 1 v2 v3) fun v=>k v H2) H2 fun v4 H3=>gd v1 true (fun k=>opt (aB v4 H3) fun v=>k v H3) H3 fun v5 H4=>gd v1 true (fun k=>k t0 H4) H4 fun v6 H5=>gd v1 true (fun k=>k t9 H5) H5 fun v7 H6=>gd v1 true (fun k=>opt (aG 1 v6 v7) fun v=>k v H6) H6 fun v8 H7=>gd v1 true (fun k=>opt (aB v8 H7) fun v=>k v H7) H7 fun v9 H8=>gd v1 true (fun k=>E.call (E.fid i.f2) [v5,v9] H8 fun v h=>k v h) H8 fun v10 H9=>gd v1 true (fun k=>opt (un .not v10) fun v=>k v H9) H9 fun v11 H10=>opt (pick v1 v11 (.bool false)) fun v12=>ifB v12 (
 opt (aA .add t9 (.int .i64 1)) fun v13=>X1 [t0,t1,v13,t10] H10) (
 aO (fun l H X1=>F.f93_l3 E Q X0 (nth l 0) (nth l 1) (nth l 2) (nth l 3) H X1) [t0,t1,t9,t10] H10)
def F.f93_l1 (E:Sy) (Q:VK) (t0 t1 t9 t10:Value) (H:AH) (X0:LK):Prop :=
 aO (fun l H X1=>F.f93_l2 E Q X0 (nth l 0) (nth l 1) (nth l 2) (nth l 3) H X1) [t0,t1,t9,t10] H
def F.f93 (E:Sy) (x0 x1 x2 x3:Value) (H:AH) (Q:VK):Prop :=
 opt (aG 1 x0 x3) fun v1=>opt (aB v1 H) fun v2=>opt (aG 1 x0 x1) fun v3=>opt (aB v3 H) fun v4=>opt (aG 1 x0 x1) fun v5=>opt (aN v5 v2 H) fun H1=>opt (aG 1 x0 x3) fun v6=>opt (aN v6 v4 H1) fun H2=>opt (aA .add x1 (.int .i64 1)) fun v7=>opt (aA .sub x2 (.int .i64 1)) fun v8=>aO (fun l H X0=>F.f93_l1 E Q (nth l 0) (nth l 1) (nth l 2) (nth l 3) H X0) [x0,x1,v7,v8] H2

def F.f95_l5 (E:Sy) (Q:VK) (X0:LK) (t0 t1 t10 t11:Value) (H:AH) (X1:LK):Prop :=
 opt (aA .leq t10 t11) fun v1=>gd v1 true (fun k=>k t0 H) H fun v2 H1=>gd v1 true (fun k=>k t11 H1) H1 fun v3 H2=>gd v1 true (fun k=>opt (aG 1 v2 v3) fun v=>k v H2) H2 fun v4 H3=>gd v1 true (fun k=>opt (aB v4 H3) fun v=>k v H3) H3 fun v5 H4=>gd v1 true (fun k=>k t0 H4) H4 fun v6 H5=>gd v1 true (fun k=>k t1 H5) H5 fun v7 H6=>gd v1 true (fun k=>opt (aG 1 v6 v7) fun v=>k v H6) H6 fun v8 H7=>gd v1 true (fun k=>opt (aB v8 H7) fun v=>k v H7) H7 fun v9 H8=>gd v1 true (fun k=>E.call (E.fid i.f2) [v5,v9] H8 fun v h=>k v h) H8 fun v10 H9=>gd v1 true (fun k=>opt (un .not v10) fun v=>k v H9) H9 fun v11 H10=>opt (pick v1 v11 (.bool false)) fun v12=>ifB v12 (
 opt (aA .sub t11 (.int .i64 1)) fun v13=>X1 [t0,t1,t10,v13] H10) (
 opt (aA .gtr t10 t11) fun v14=>ifB v14 (
 opt (aG 1 t0 t1) fun v15=>opt (aB v15 H10) fun v16=>opt (aG 1 t0 t11) fun v17=>opt (aB v17 H10) fun v18=>opt (aG 1 t0 t11) fun v19=>opt (aN v19 v16 H10) fun H11=>opt (aG 1 t0 t1) fun v20=>opt (aN v20 v18 H11) fun H12=>Q (.tuple #[t11,(.bool false)]) H12) (
 opt (aG 1 t0 t11) fun v21=>opt (aB v21 H10) fun v22=>opt (aG 1 t0 t10) fun v23=>opt (aB v23 H10) fun v24=>opt (aG 1 t0 t10) fun v25=>opt (aN v25 v22 H10) fun H13=>opt (aG 1 t0 t11) fun v26=>opt (aN v26 v24 H13) fun H14=>opt (aA .add t10 (.int .i64 1)) fun v27=>opt (aA .sub t11 (.int .i64 1)) fun v28=>X0 [t0,t1,v27,v28] H14))
def F.f95_l4 (E:Sy) (Q:VK) (X0:LK) (t0 t1 t10 t11:Value) (H:AH) (X1:LK):Prop :=
 opt (aA .leq t10 t11) fun v1=>gd v1 true (fun k=>k t0 H) H fun v2 H1=>gd v1 true (fun k=>k t10 H1) H1 fun v3 H2=>gd v1 true (fun k=>opt (aG 1 v2 v3) fun v=>k v H2) H2 fun v4 H3=>gd v1 true (fun k=>opt (aB v4 H3) fun v=>k v H3) H3 fun v5 H4=>gd v1 true (fun k=>k t0 H4) H4 fun v6 H5=>gd v1 true (fun k=>k t1 H5) H5 fun v7 H6=>gd v1 true (fun k=>opt (aG 1 v6 v7) fun v=>k v H6) H6 fun v8 H7=>gd v1 true (fun k=>opt (aB v8 H7) fun v=>k v H7) H7 fun v9 H8=>gd v1 true (fun k=>E.call (E.fid i.f2) [v5,v9] H8 fun v h=>k v h) H8 fun v10 H9=>opt (pick v1 v10 (.bool false)) fun v11=>ifB v11 (
 opt (aA .add t10 (.int .i64 1)) fun v12=>X1 [t0,t1,v12,t11] H9) (
 aO (fun l H X1=>F.f95_l5 E Q X0 (nth l 0) (nth l 1) (nth l 2) (nth l 3) H X1) [t0,t1,t10,t11] H9)
def F.f95_l3 (E:Sy) (Q:VK) (t0 t1 t10 t11:Value) (H:AH) (X0:LK):Prop :=
 aO (fun l H X1=>F.f95_l4 E Q X0 (nth l 0) (nth l 1) (nth l 2) (nth l 3) H X1) [t0,t1,t10,t11] H
def F.f95_l2 (E:Sy) (Q:VK) (t0 t1 t10 t11:Value) (H:AH) (X0:LK):Prop :=
 opt (aA .leq t10 t11) fun v1=>gd v1 true (fun k=>k t0 H) H fun v2 H1=>gd v1 true (fun k=>k t11 H1) H1 fun v3 H2=>gd v1 true (fun k=>opt (aG 1 v2 v3) fun v=>k v H2) H2 fun v4 H3=>gd v1 true (fun k=>opt (aB v4 H3) fun v=>k v H3) H3 fun v5 H4=>gd v1 true (fun k=>k t0 H4) H4 fun v6 H5=>gd v1 true (fun k=>k t1 H5) H5 fun v7 H6=>gd v1 true (fun k=>opt (aG 1 v6 v7) fun v=>k v H6) H6 fun v8 H7=>gd v1 true (fun k=>opt (aB v8 H7) fun v=>k v H7) H7 fun v9 H8=>gd v1 true (fun k=>E.call (E.fid i.f2) [v5,v9] H8 fun v h=>k v h) H8 fun v10 H9=>gd v1 true (fun k=>opt (un .not v10) fun v=>k v H9) H9 fun v11 H10=>opt (pick v1 v11 (.bool false)) fun v12=>ifB v12 (
 opt (aA .sub t11 (.int .i64 1)) fun v13=>X0 [t0,t1,t10,v13] H10) (
 opt (aA .gtr t10 t11) fun v14=>ifB v14 (
 opt (aG 1 t0 t1) fun v15=>opt (aB v15 H10) fun v16=>opt (aG 1 t0 t11) fun v17=>opt (aB v17 H10) fun v18=>opt (aG 1 t0 t11) fun v19=>opt (aN v19 v16 H10) fun H11=>opt (aG 1 t0 t1) fun v20=>opt (aN v20 v18 H11) fun H12=>Q (.tuple #[t11,(.bool true)]) H12) (
 opt (aG 1 t0 t11) fun v21=>opt (aB v21 H10) fun v22=>opt (aG 1 t0 t10) fun v23=>opt (aB v23 H10) fun v24=>opt (aG 1 t0 t10) fun v25=>opt (aN v25 v22 H10) fun H13=>opt (aG 1 t0 t11) fun v26=>opt (aN v26 v24 H13) fun H14=>opt (aA .add t10 (.int .i64 1)) fun v27=>opt (aA .sub t11 (.int .i64 1)) fun v28=>aO (fun l H X0=>F.f95_l3 E Q (nth l 0) (nth l 1) (nth l 2) (nth l 3) H X0) [t0,t1,v27,v28] H14))
def F.f95_l1 (E:Sy) (Q:VK) (t0 t1 t10 t11:Value) (H:AH) (X0:LK):Prop :=
 opt (aA .leq t10 t11) fun v1=>gd v1 true (fun k=>k t0 H) H fun v2 H1=>gd v1 true (fun k=>k t10 H1) H1 fun v3 H2=>gd v1 true (fun k=>opt (aG 1 v2 v3) fun v=>k v H2) H2 fun v4 H3=>gd v1 true (fun k=>opt (aB v4 H3) fun v=>k v H3) H3 fun v5 H4=>gd v1 true (fun k=>k t0 H4) H4 fun v6 H5=>gd v1 true (fun k=>k t1 H5) H5 fun v7 H6=>gd v1 true (fun k=>opt (aG 1 v6 v7) fun v=>k v H6) H6 fun v8 H7=>gd v1 true (fun k=>opt (aB v8 H7) fun v=>k v H7) H7 fun v9 H8=>gd v1 true (fun k=>E.call (E.fid i.f2) [v5,v9] H8 fun v h=>k v h) H8 fun v10 H9=>opt (pick v1 v10 (.bool false)) fun v11=>ifB v11 (
 opt (aA .add t10 (.int .i64 1)) fun v12=>X0 [t0,t1,v12,t11] H9) (
 aO (fun l H X0=>F.f95_l2 E Q (nth l 0) (nth l 1) (nth l 2) (nth l 3) H X0) [t0,t1,t10,t11] H9)
def F.f95 (E:Sy) (x0 x1 x2 x3:Value) (H:AH) (Q:VK):Prop :=
 opt (aG 1 x0 x3) fun v1=>opt (aB v1 H) fun v2=>opt (aG 1 x0 x1) fun v3=>opt (aB v3 H) fun v4=>opt (aG 1 x0 x1) fun v5=>opt (aN v5 v2 H) fun H1=>opt (aG 1 x0 x3) fun v6=>opt (aN v6 v4 H1) fun H2=>opt (aA .add x1 (.int .i64 1)) fun v7=>opt (aA .sub x2 (.int .i64 1)) fun v8=>aO (fun l H X0=>F.f95_l1 E Q (nth l 0) (nth l 1) (nth l 2) (nth l 3) H X0) [x0,x1,v7,v8] H2

def F.f83_l2 (E:Sy) (Q:VK) (X0:LK) (t0 t1 t2 t6 t7:Value) (H:AH) (X1:LK):Prop :=
 opt (aA .gtr t7 t1) fun v1=>gd v1 true (fun k=>k t0 H) H fun v2 H1=>gd v1 true (fun k=>k t7 H1) H1 fun v3 H2=>gd v1 true (fun k=>opt (aG 1 v2 v3) fun v=>k v H2) H2 fun v4 H3=>gd v1 true (fun k=>opt (aB v4 H3) fun v=>k v H3) H3 fun v5 H4=>gd v1 true (fun k=>k t0 H4) H4 fun v6 H5=>gd v1 true (fun k=>k t7 H5) H5 fun v7 H6=>gd v1 true (fun k=>opt (aA .sub v7 (.int .i64 1)) fun v=>k v H6) H6 fun v8 H7=>gd v1 true (fun k=>opt (aG 1 v6 v8) fun v=>k v H7) H7 fun v9 H8=>gd v1 true (fun k=>opt (aB v9 H8) fun v=>k v H8) H8 fun v10 H9=>gd v1 true (fun k=>E.call (E.fid i.f3) [v5,v10] H9 fun v h=>k v h) H9 fun v11 H10=>opt (pick v1 v11 (.bool false)) fun v12=>ifB v12 (
 opt (aA .sub t7 (.int .i64 1)) fun v13=>opt (aA .sub t7 (.int .i64 1)) fun v14=>opt (aG 1 t0 v14) fun v15=>opt (aB v15 H10) fun v16=>opt (aG 1 t0 t7) fun v17=>opt (aB v17 H10) fun v18=>opt (aG 1 t0 t7) fun v19=>opt (aN v19 v16 H10) fun H11=>opt (aG 1 t0 v13) fun v20=>opt (aN v20 v18 H11) fun H12=>opt (aA .sub t7 (.int .i64 1)) fun v21=>X1 [t0,t1,t2,t6,v21] H12) (
 opt (aA .add t6 (.int .i64 1)) fun v22=>X0 [t0,t1,t2,v22] H10)
def F.f83_l1 (E:Sy) (Q:VK) (t0 t1 t2 t6:Value) (H:AH) (X0:LK):Prop :=
 opt (aA .lss t6 t2) fun v1=>ifB v1 (
 aO (fun l H X1=>F.f83_l2 E Q X0 (nth l 0) (nth l 1) (nth l 2) (nth l 3) (nth l 4) H X1) [t0,t1,t2,t6,t6] H) (
 Q (.tuple #[]) H)
def F.f83 (E:Sy) (x0 x1 x2:Value) (H:AH) (Q:VK):Prop :=
 opt (aA .add x1 (.int .i64 1)) fun v1=>aO (fun l H X0=>F.f83_l1 E Q (nth l 0) (nth l 1) (nth l 2) (nth l 3) H X0) [x0,x1,x2,v1] H

def F.f81_l2 (E:Sy) (Q:VK) (t0 t6 t7 t10:Value) (H:AH) (X0:LK):Prop :=
 opt (aA .geq t10 (.int .i64 0)) fun v1=>ifB v1 (
 opt (aA .add t6 t10) fun v2=>opt (aA .add t6 t10) fun v3=>opt (aG 1 t0 v3) fun v4=>opt (aB v4 H) fun v5=>opt (aG 1 t0 t6) fun v6=>opt (aB v6 H) fun v7=>opt (aG 1 t0 t6) fun v8=>opt (aN v8 v5 H) fun H1=>opt (aG 1 t0 v2) fun v9=>opt (aN v9 v7 H1) fun H2=>E.call (E.fid i.f102) [t0,t7,t10,t6] H2 fun v10 H3=>opt (aA .sub t10 (.int .i64 1)) fun v11=>X0 [t0,t6,t7,v11] H3) (
 Q (.tuple #[]) H)
def F.f81_l1 (E:Sy) (Q:VK) (t0 t6 t7 t8 t9:Value) (H:AH) (X0:LK):Prop :=
 opt (aA .geq t9 (.int .i64 0)) fun v1=>ifB v1 (
 E.call (E.fid i.f102) [t0,t9,t8,t6] H fun v2 H1=>opt (aA .sub t9 (.int .i64 1)) fun v3=>X0 [t0,t6,t7,t8,v3] H1) (
 opt (aA .sub t8 (.int .i64 1)) fun v4=>aO (fun l H X0=>F.f81_l2 E Q (nth l 0) (nth l 1) (nth l 2) (nth l 3) H X0) [t0,t6,t7,v4] H)
def F.f81 (E:Sy) (x0 x1 x2:Value) (H:AH) (Q:VK):Prop :=
 opt (aA .sub x2 x1) fun v1=>opt (aA .sub v1 (.int .i64 1)) fun v2=>opt (aA .quo v2 (.int .i64 2)) fun v3=>aO (fun l H X0=>F.f81_l1 E Q (nth l 0) (nth l 1) (nth l 2) (nth l 3) (nth l 4) H X0) [x0,x1,(.int .i64 0),v1,v3] H

def F.f77_j1 (E:Sy) (Q:VK) (X0:LK) (t0 t1 t6 t7 t8 t9 t10:Value) (H:AH):Prop :=
 opt (aA .add t1 t10) fun v1=>opt (aA .add t1 t10) fun v2=>opt (aG 1 t0 v2) fun v3=>opt (aB v3 H) fun v4=>opt (aG 1 t0 t9) fun v5=>opt (aB v5 H) fun v6=>opt (aG 1 t0 t9) fun v7=>opt (aN v7 v4 H) fun H1=>opt (aG 1 t0 v1) fun v8=>opt (aN v8 v6 H1) fun H2=>opt (aA .add t9 (.int .i64 1)) fun v9=>X0 [t0,t1,t6,t7,t8,v9] H2
def F.f77_l1 (E:Sy) (Q:VK) (t0 t1 t6 t7 t8 t9:Value) (H:AH) (X0:LK):Prop :=
 opt (aA .quo t6 (.int .i64 4)) fun v1=>opt (aA .mul v1 (.int .i64 2)) fun v2=>opt (aA .add t1 v2) fun v3=>opt (aA .add v3 (.int .i64 1)) fun v4=>opt (aA .leq t9 v4) fun v5=>ifB v5 (
 E.call (E.fid i.f103) [t7] H fun v6 H1=>opt (aA .sub t8 (.int .u64 1)) fun v7=>opt (aA .and v6 v7) fun v8=>opt (bC .i64 v8) fun v9=>opt (aA .geq v9 t6) fun v10=>ifB v10 (
 opt (aA .sub v9 t6) fun v11=>F.f77_j1 E Q X0 t0 t1 t6 t7 t8 t9 v11 H1) (
 F.f77_j1 E Q X0 t0 t1 t6 t7 t8 t9 v9 H1)) (
 Q (.tuple #[]) H)
def F.f77 (E:Sy) (x0 x1 x2:Value) (H:AH) (Q:VK):Prop :=
 opt (aA .sub x2 x1) fun v1=>opt (aA .geq v1 (.int .i64 8)) fun v2=>ifB v2 (
 opt (bC .u64 v1) fun v3=>eH [(.int .u64 0)] H fun v4 H1=>opt (aN v4 v3 H1) fun H2=>E.call (E.fid i.f88) [v1] H2 fun v5 H3=>opt (aA .quo v1 (.int .i64 4)) fun v6=>opt (aA .mul v6 (.int .i64 2)) fun v7=>opt (aA .add x1 v7) fun v8=>opt (aA .sub v8 (.int .i64 1)) fun v9=>aO (fun l H X0=>F.f77_l1 E Q (nth l 0) (nth l 1) (nth l 2) (nth l 3) (nth l 4) (nth l 5) H X0) [x0,x1,v1,v4,v5,v9] H3) (
 Q (.tuple #[]) H)

def F.f79_j1 (E:Sy) (Q:VK) (t9 t11:Value) (H:AH):Prop :=
 opt (aB t9 H) fun v1=>opt (aA .eql v1 (.int .i64 0)) fun v2=>ifB v2 (
 Q (.tuple #[t11,(.int .i64 1)]) H) (
 opt (aA .eql v1 (.int .i64 12)) fun v3=>ifB v3 (
 Q (.tuple #[t11,(.int .i64 2)]) H) (
 Q (.tuple #[t11,(.int .i64 0)]) H))
def F.f79_j2 (E:Sy) (Q:VK) (t0 t9 t10 t11 t12:Value) (H:AH):Prop :=
 E.call (E.fid i.f87) [t0,t10,t11,t12,t9] H fun v1 H1=>F.f79_j1 E Q t9 v1 H1
def F.f79 (E:Sy) (x0 x1 x2:Value) (H:AH) (Q:VK):Prop :=
 opt (aA .sub x2 x1) fun v1=>eH [(.int .i64 0)] H fun v2 H1=>opt (aA .quo v1 (.int .i64 4)) fun v3=>opt (aA .mul v3 (.int .i64 1)) fun v4=>opt (aA .add x1 v4) fun v5=>opt (aA .quo v1 (.int .i64 4)) fun v6=>opt (aA .mul v6 (.int .i64 2)) fun v7=>opt (aA .add x1 v7) fun v8=>opt (aA .quo v1 (.int .i64 4)) fun v9=>opt (aA .mul v9 (.int .i64 3)) fun v10=>opt (aA .add x1 v10) fun v11=>opt (aA .geq v1 (.int .i64 8)) fun v12=>ifB v12 (
 opt (aA .geq v1 (.int .i64 50)) fun v13=>ifB v13 (
 E.call (E.fid i.f85) [x0,v5,v2] H1 fun v14 H2=>E.call (E.fid i.f85) [x0,v8,v2] H2 fun v15 H3=>E.call (E.fid i.f85) [x0,v11,v2] H3 fun v16 H4=>F.f79_j2 E Q x0 v2 v14 v15 v16 H4) (
 F.f79_j2 E Q x0 v2 v5 v8 v11 H1)) (
 F.f79_j1 E Q v2 v8 H1)

def F.f100_l1 (E:Sy) (Q:VK) (t0 t6 t7:Value) (H:AH) (X0:LK):Prop :=
 opt (aA .lss t6 t7) fun v1=>ifB v1 (
 opt (aG 1 t0 t7) fun v2=>opt (aB v2 H) fun v3=>opt (aG 1 t0 t6) fun v4=>opt (aB v4 H) fun v5=>opt (aG 1 t0 t6) fun v6=>opt (aN v6 v3 H) fun H1=>opt (aG 1 t0 t7) fun v7=>opt (aN v7 v5 H1) fun H2=>opt (aA .add t6 (.int .i64 1)) fun v8=>opt (aA .sub t7 (.int .i64 1)) fun v9=>X0 [t0,v8,v9] H2) (
 Q (.tuple #[]) H)
def F.f100 (E:Sy) (x0 x1 x2:Value) (H:AH) (Q:VK):Prop :=
 opt (aA .sub x2 (.int .i64 1)) fun v1=>aO (fun l H X0=>F.f100_l1 E Q (nth l 0) (nth l 1) (nth l 2) H X0) [x0,x1,v1] H

def F.f92_l3 (E:Sy) (Q:VK) (X0:LK) (t0 t1 t2 t7 t8 t10:Value) (H:AH) (X1:LK):Prop :=
 opt (aA .lss t10 t2) fun v1=>ifB v1 (
 opt (aG 1 t0 t10) fun v2=>opt (aB v2 H) fun v3=>opt (aA .sub t10 (.int .i64 1)) fun v4=>opt (aG 1 t0 v4) fun v5=>opt (aB v5 H) fun v6=>E.call (E.fid i.f3) [v3,v6] H fun v7 H1=>opt (un .not v7) fun v8=>ifB v8 (
 opt (aA .add t8 (.int .i64 1)) fun v9=>X0 [t0,t1,t2,t7,v9] H1) (
 opt (aA .sub t10 (.int .i64 1)) fun v10=>opt (aA .sub t10 (.int .i64 1)) fun v11=>opt (aG 1 t0 v11) fun v12=>opt (aB v12 H1) fun v13=>opt (aG 1 t0 t10) fun v14=>opt (aB v14 H1) fun v15=>opt (aG 1 t0 t10) fun v16=>opt (aN v16 v13 H1) fun H2=>opt (aG 1 t0 v10) fun v17=>opt (aN v17 v15 H2) fun H3=>opt (aA .add t10 (.int .i64 1)) fun v18=>X1 [t0,t1,t2,t7,t8,v18] H3)) (
 opt (aA .add t8 (.int .i64 1)) fun v19=>X0 [t0,t1,t2,t7,v19] H)
def F.f92_j1 (E:Sy) (Q:VK) (X0:LK) (t0 t1 t2 t7 t8:Value) (H:AH):Prop :=
 opt (aA .sub t2 t7) fun v1=>opt (aA .geq v1 (.int .i64 2)) fun v2=>ifB v2 (
 opt (aA .add t7 (.int .i64 1)) fun v3=>aO (fun l H X1=>F.f92_l3 E Q X0 (nth l 0) (nth l 1) (nth l 2) (nth l 3) (nth l 4) (nth l 5) H X1) [t0,t1,t2,t7,t8,v3] H) (
 opt (aA .add t8 (.int .i64 1)) fun v4=>X0 [t0,t1,t2,t7,v4] H)
def F.f92_l4 (E:Sy) (Q:VK) (X0:LK) (t0 t1 t2 t7 t8 t9:Value) (H:AH) (X1:LK):Prop :=
 opt (aA .geq t9 (.int .i64 1)) fun v1=>ifB v1 (
 opt (aG 1 t0 t9) fun v2=>opt (aB v2 H) fun v3=>opt (aA .sub t9 (.int .i64 1)) fun v4=>opt (aG 1 t0 v4) fun v5=>opt (aB v5 H) fun v6=>E.call (E.fid i.f3) [v3,v6] H fun v7 H1=>opt (un .not v7) fun v8=>ifB v8 (
 F.f92_j1 E Q X0 t0 t1 t2 t7 t8 H1) (
 opt (aA .sub t9 (.int .i64 1)) fun v9=>opt (aA .sub t9 (.int .i64 1)) fun v10=>opt (aG 1 t0 v10) fun v11=>opt (aB v11 H1) fun v12=>opt (aG 1 t0 t9) fun v13=>opt (aB v13 H1) fun v14=>opt (aG 1 t0 t9) fun v15=>opt (aN v15 v12 H1) fun H2=>opt (aG 1 t0 v9) fun v16=>opt (aN v16 v14 H2) fun H3=>opt (aA .sub t9 (.int .i64 1)) fun v17=>X1 [t0,t1,t2,t7,t8,v17] H3)) (
 F.f92_j1 E Q X0 t0 t1 t2 t7 t8 H)
def F.f92_l2 (E:Sy) (Q:VK) (X0:LK) (t0 t1 t2 t7 t8:Value) (H:AH) (X1:LK):Prop :=
 opt (aA .lss t7 t2) fun v1=>gd v1 true (fun k=>k t0 H) H fun v2 H1=>gd v1 true (fun k=>k t7 H1) H1 fun v3 H2=>gd v1 true (fun k=>opt (aG 1 v2 v3) fun v=>k v H2) H2 fun v4 H3=>gd v1 true (fun k=>opt (aB v4 H3) fun v=>k v H3) H3 fun v5 H4=>gd v1 true (fun k=>k t0 H4) H4 fun v6 H5=>gd v1 true (fun k=>k t7 H5) H5 fun v7 H6=>gd v1 true (fun k=>opt (aA .sub v7 (.int .i64 1)) fun v=>k v H6) H6 fun v8 H7=>gd v1 true (fun k=>opt (aG 1 v6 v8) fun v=>k v H7) H7 fun v9 H8=>gd v1 true (fun k=>opt (aB v9 H8) fun v=>k v H8) H8 fun v10 H9=>gd v1 true (fun k=>E.call (E.fid i.f3) [v5,v10] H9 fun v h=>k v h) H9 fun v11 H10=>gd v1 true (fun k=>opt (un .not v11) fun v=>k v H10) H10 fun v12 H11=>opt (pick v1 v12 (.bool false)) fun v13=>ifB v13 (
 opt (aA .add t7 (.int .i64 1)) fun v14=>X1 [t0,t1,t2,v14,t8] H11) (
 opt (aA .eql t7 t2) fun v15=>ifB v15 (
 Q (.bool true) H11) (
 opt (aA .sub t2 t1) fun v16=>opt (aA .lss v16 (.int .i64 50)) fun v17=>ifB v17 (
 Q (.bool false) H11) (
 opt (aA .sub t7 (.int .i64 1)) fun v18=>opt (aA .sub t7 (.int .i64 1)) fun v19=>opt (aG 1 t0 v19) fun v20=>opt (aB v20 H11) fun v21=>opt (aG 1 t0 t7) fun v22=>opt (aB v22 H11) fun v23=>opt (aG 1 t0 t7) fun v24=>opt (aN v24 v21 H11) fun H12=>opt (aG 1 t0 v18) fun v25=>opt (aN v25 v23 H12) fun H13=>opt (aA .sub t7 t1) fun v26=>opt (aA .geq v26 (.int .i64 2)) fun v27=>ifB v27 (
 opt (aA .sub t7 (.int .i64 1)) fun v28=>aO (fun l H X1=>F.f92_l4 E Q X0 (nth l 0) (nth l 1) (nth l 2) (nth l 3) (nth l 4) (nth l 5) H X1) [t0,t1,t2,t7,t8,v28] H13) (
 F.f92_j1 E Q X0 t0 t1 t2 t7 t8 H13))))
def F.f92_l1 (E:Sy) (Q:VK) (t0 t1 t2 t7 t8:Value) (H:AH) (X0:LK):Prop :=
 opt (aA .lss t8 (.int .i64 5)) fun v1=>ifB v1 (
 aO (fun l H X1=>F.f92_l2 E Q X0 (nth l 0) (nth l 1) (nth l 2) (nth l 3) (nth l 4) H X1) [t0,t1,t2,t7,t8] H) (
 Q (.bool false) H)
def F.f92 (E:Sy) (x0 x1 x2:Value) (H:AH) (Q:VK):Prop :=
 opt (aA .add x1 (.int .i64 1)) fun v1=>aO (fun l H X0=>F.f92_l1 E Q (nth l 0) (nth l 1) (nth l 2) (nth l 3) (nth l 4) H X0) [x0,x1,x2,v1,(.int .i64 0)] H

def F.f3 (E:Sy) (x0 x1:Value) (H:AH) (Q:VK):Prop :=
 E.call (E.fid i.f5) [x0] H fun v1 H1=>gd v1 true (fun k=>k x1 H1) H1 fun v2 H2=>gd v1 true (fun k=>E.call (E.fid i.f5) [v2] H2 fun v h=>k v h) H2 fun v3 H3=>gd v1 true (fun k=>opt (un .not v3) fun v=>k v H3) H3 fun v4 H4=>opt (pick v1 v4 (.bool false)) fun v5=>gd v5 false (fun k=>k x0 H4) H4 fun v6 H5=>gd v5 false (fun k=>k x1 H5) H5 fun v7 H6=>gd v5 false (fun k=>opt (cE .lss v6 v7) fun v=>k v H6) H6 fun v8 H7=>opt (pick v5 (.bool true) v8) fun v9=>Q v9 H7

def F.f94_l3 (E:Sy) (Q:VK) (X0:LK) (t0 t1 t9 t10:Value) (H:AH) (X1:LK):Prop :=
 opt (aA .leq t9 t10) fun v1=>gd v1 true (fun k=>k t0 H) H fun v2 H1=>gd v1 true (fun k=>k t1 H1) H1 fun v3 H2=>gd v1 true (fun k=>opt (aG 1 v2 v3) fun v=>k v H2) H2 fun v4 H3=>gd v1 true (fun k=>opt (aB v4 H3) fun v=>k v H3) H3 fun v5 H4=>gd v1 true (fun k=>k t0 H4) H4 fun v6 H5=>gd v1 true (fun k=>k t10 H5) H5 fun v7 H6=>gd v1 true (fun k=>opt (aG 1 v6 v7) fun v=>k v H6) H6 fun v8 H7=>gd v1 true (fun k=>opt (aB v8 H7) fun v=>k v H7) H7 fun v9 H8=>gd v1 true (fun k=>E.call (E.fid i.f3) [v5,v9] H8 fun v h=>k v h) H8 fun v10 H9=>opt (pick v1 v10 (.bool false)) fun v11=>ifB v11 (
 opt (aA .sub t10 (.int .i64 1)) fun v12=>X1 [t0,t1,t9,v12] H9) (
 opt (aA .gtr t9 t10) fun v13=>ifB v13 (
 Q t9 H9) (
 opt (aG 1 t0 t10) fun v14=>opt (aB v14 H9) fun v15=>opt (aG 1 t0 t9) fun v16=>opt (aB v16 H9) fun v17=>opt (aG 1 t0 t9) fun v18=>opt (aN v18 v15 H9) fun H10=>opt (aG 1 t0 t10) fun v19=>opt (aN v19 v17 H10) fun H11=>opt (aA .add t9 (.int .i64 1)) fun v20=>opt (aA .sub t10 (.int .i64 1)) fun v21=>X0 [t0,t1,v20,v21] H11))
def F.f94_l2 (E:Sy) (Q:VK) (X0:LK) (t0 t1 t9 t10:Value) (H:AH) (X1:LK):Prop :=
 opt (aA .leq t9 t10) fun v1=>gd v1 true (fun k=>k t0 H) H fun v2 H1=>gd v1 true (fun k=>k t1 H1) H1 fun v3 H2=>gd v1 true (fun k=>opt (aG 1 v2 v3) fun v=>k v H2) H2 fun v4 H3=>gd v1 true (fun k=>opt (aB v4 H3) fun v=>k v H3) H3 fun v5 H4=>gd v1 true (fun k=>k t0 H4) H4 fun v6 H5=>gd v1 true (fun k=>k t9 H5) H5 fun v7 H6=>gd v1 true (fun k=>opt (aG 1 v6 v7) fun v=>k v H6) H6 fun v8 H7=>gd v1 true (fun k=>opt (aB v8 H7) fun v=>k v H7) H7 fun v9 H8=>gd v1 true (fun k=>E.call (E.fid i.f3) [v5,v9] H8 fun v h=>k v h) H8 fun v10 H9=>gd v1 true (fun k=>opt (un .not v10) fun v=>k v H9) H9 fun v11 H10=>opt (pick v1 v11 (.bool false)) fun v12=>ifB v12 (
 opt (aA .add t9 (.int .i64 1)) fun v13=>X1 [t0,t1,v13,t10] H10) (
 aO (fun l H X1=>F.f94_l3 E Q X0 (nth l 0) (nth l 1) (nth l 2) (nth l 3) H X1) [t0,t1,t9,t10] H10)
def F.f94_l1 (E:Sy) (Q:VK) (t0 t1 t9 t10:Value) (H:AH) (X0:LK):Prop :=
 aO (fun l H X1=>F.f94_l2 E Q X0 (nth l 0) (nth l 1) (nth l 2) (nth l 3) H X1) [t0,t1,t9,t10] H
def F.f94 (E:Sy) (x0 x1 x2 x3:Value) (H:AH) (Q:VK):Prop :=
 opt (aG 1 x0 x3) fun v1=>opt (aB v1 H) fun v2=>opt (aG 1 x0 x1) fun v3=>opt (aB v3 H) fun v4=>opt (aG 1 x0 x1) fun v5=>opt (aN v5 v2 H) fun H1=>opt (aG 1 x0 x3) fun v6=>opt (aN v6 v4 H1) fun H2=>opt (aA .add x1 (.int .i64 1)) fun v7=>opt (aA .sub x2 (.int .i64 1)) fun v8=>aO (fun l H X0=>F.f94_l1 E Q (nth l 0) (nth l 1) (nth l 2) (nth l 3) H X0) [x0,x1,v7,v8] H2

def F.f96_l5 (E:Sy) (Q:VK) (X0:LK) (t0 t1 t10 t11:Value) (H:AH) (X1:LK):Prop :=
 opt (aA .leq t10 t11) fun v1=>gd v1 true (fun k=>k t0 H) H fun v2 H1=>gd v1 true (fun k=>k t11 H1) H1 fun v3 H2=>gd v1 true (fun k=>opt (aG 1 v2 v3) fun v=>k v H2) H2 fun v4 H3=>gd v1 true (fun k=>opt (aB v4 H3) fun v=>k v H3) H3 fun v5 H4=>gd v1 true (fun k=>k t0 H4) H4 fun v6 H5=>gd v1 true (fun k=>k t1 H5) H5 fun v7 H6=>gd v1 true (fun k=>opt (aG 1 v6 v7) fun v=>k v H6) H6 fun v8 H7=>gd v1 true (fun k=>opt (aB v8 H7) fun v=>k v H7) H7 fun v9 H8=>gd v1 true (fun k=>E.call (E.fid i.f3) [v5,v9] H8 fun v h=>k v h) H8 fun v10 H9=>gd v1 true (fun k=>opt (un .not v10) fun v=>k v H9) H9 fun v11 H10=>opt (pick v1 v11 (.bool false)) fun v12=>ifB v12 (
 opt (aA .sub t11 (.int .i64 1)) fun v13=>X1 [t0,t1,t10,v13] H10) (
 opt (aA .gtr t10 t11) fun v14=>ifB v14 (
 opt (aG 1 t0 t1) fun v15=>opt (aB v15 H10) fun v16=>opt (aG 1 t0 t11) fun v17=>opt (aB v17 H10) fun v18=>opt (aG 1 t0 t11) fun v19=>opt (aN v19 v16 H10) fun H11=>opt (aG 1 t0 t1) fun v20=>opt (aN v20 v18 H11) fun H12=>Q (.tuple #[t11,(.bool false)]) H12) (
 opt (aG 1 t0 t11) fun v21=>opt (aB v21 H10) fun v22=>opt (aG 1 t0 t10) fun v23=>opt (aB v23 H10) fun v24=>opt (aG 1 t0 t10) fun v25=>opt (aN v25 v22 H10) fun H13=>opt (aG 1 t0 t11) fun v26=>opt (aN v26 v24 H13) fun H14=>opt (aA .add t10 (.int .i64 1)) fun v27=>opt (aA .sub t11 (.int .i64 1)) fun v28=>X0 [t0,t1,v27,v28] H14))
def F.f96_l4 (E:Sy) (Q:VK) (X0:LK) (t0 t1 t10 t11:Value) (H:AH) (X1:LK):Prop :=
 opt (aA .leq t10 t11) fun v1=>gd v1 true (fun k=>k t0 H) H fun v2 H1=>gd v1 true (fun k=>k t10 H1) H1 fun v3 H2=>gd v1 true (fun k=>opt (aG 1 v2 v3) fun v=>k v H2) H2 fun v4 H3=>gd v1 true (fun k=>opt (aB v4 H3) fun v=>k v H3) H3 fun v5 H4=>gd v1 true (fun k=>k t0 H4) H4 fun v6 H5=>gd v1 true (fun k=>k t1 H5) H5 fun v7 H6=>gd v1 true (fun k=>opt (aG 1 v6 v7) fun v=>k v H6) H6 fun v8 H7=>gd v1 true (fun k=>opt (aB v8 H7) fun v=>k v H7) H7 fun v9 H8=>gd v1 true (fun k=>E.call (E.fid i.f3) [v5,v9] H8 fun v h=>k v h) H8 fun v10 H9=>opt (pick v1 v10 (.bool false)) fun v11=>ifB v11 (
 opt (aA .add t10 (.int .i64 1)) fun v12=>X1 [t0,t1,v12,t11] H9) (
 aO (fun l H X1=>F.f96_l5 E Q X0 (nth l 0) (nth l 1) (nth l 2) (nth l 3) H X1) [t0,t1,t10,t11] H9)
def F.f96_l3 (E:Sy) (Q:VK) (t0 t1 t10 t11:Value) (H:AH) (X0:LK):Prop :=
 aO (fun l H X1=>F.f96_l4 E Q X0 (nth l 0) (nth l 1) (nth l 2) (nth l 3) H X1) [t0,t1,t10,t11] H
def F.f96_l2 (E:Sy) (Q:VK) (t0 t1 t10 t11:Value) (H:AH) (X0:LK):Prop :=
 opt (aA .leq t10 t11) fun v1=>gd v1 true (fun k=>k t0 H) H fun v2 H1=>gd v1 true (fun k=>k t11 H1) H1 fun v3 H2=>gd v1 true (fun k=>opt (aG 1 v2 v3) fun v=>k v H2) H2 fun v4 H3=>gd v1 true (fun k=>opt (aB v4 H3) fun v=>k v H3) H3 fun v5 H4=>gd v1 true (fun k=>k t0 H4) H4 fun v6 H5=>gd v1 true (fun k=>k t1 H5) H5 fun v7 H6=>gd v1 true (fun k=>opt (aG 1 v6 v7) fun v=>k v H6) H6 fun v8 H7=>gd v1 true (fun k=>opt (aB v8 H7) fun v=>k v H7) H7 fun v9 H8=>gd v1 true (fun k=>E.call (E.fid i.f3) [v5,v9] H8 fun v h=>k v h) H8 fun v10 H9=>gd v1 true (fun k=>opt (un .not v10) fun v=>k v H9) H9 fun v11 H10=>opt (pick v1 v11 (.bool false)) fun v12=>ifB v12 (
 opt (aA .sub t11 (.int .i64 1)) fun v13=>X0 [t0,t1,t10,v13] H10) (
 opt (aA .gtr t10 t11) fun v14=>ifB v14 (
 opt (aG 1 t0 t1) fun v15=>opt (aB v15 H10) fun v16=>opt (aG 1 t0 t11) fun v17=>opt (aB v17 H10) fun v18=>opt (aG 1 t0 t11) fun v19=>opt (aN v19 v16 H10) fun H11=>opt (aG 1 t0 t1) fun v20=>opt (aN v20 v18 H11) fun H12=>Q (.tuple #[t11,(.bool true)]) H12) (
 opt (aG 1 t0 t11) fun v21=>opt (aB v21 H10) fun v22=>opt (aG 1 t0 t10) fun v23=>opt (aB v23 H10) fun v24=>opt (aG 1 t0 t10) fun v25=>opt (aN v25 v22 H10) fun H13=>opt (aG 1 t0 t11) fun v26=>opt (aN v26 v24 H13) fun H14=>opt (aA .add t10 (.int .i64 1)) fun v27=>opt (aA .sub t11 (.int .i64 1)) fun v28=>aO (fun l H X0=>F.f96_l3 E Q (nth l 0) (nth l 1) (nth l 2) (nth l 3) H X0) [t0,t1,v27,v28] H14))
def F.f96_l1 (E:Sy) (Q:VK) (t0 t1 t10 t11:Value) (H:AH) (X0:LK):Prop :=
 opt (aA .leq t10 t11) fun v1=>gd v1 true (fun k=>k t0 H) H fun v2 H1=>gd v1 true (fun k=>k t10 H1) H1 fun v3 H2=>gd v1 true (fun k=>opt (aG 1 v2 v3) fun v=>k v H2) H2 fun v4 H3=>gd v1 true (fun k=>opt (aB v4 H3) fun v=>k v H3) H3 fun v5 H4=>gd v1 true (fun k=>k t0 H4) H4 fun v6 H5=>gd v1 true (fun k=>k t1 H5) H5 fun v7 H6=>gd v1 true (fun k=>opt (aG 1 v6 v7) fun v=>k v H6) H6 fun v8 H7=>gd v1 true (fun k=>opt (aB v8 H7) fun v=>k v H7) H7 fun v9 H8=>gd v1 true (fun k=>E.call (E.fid i.f3) [v5,v9] H8 fun v h=>k v h) H8 fun v10 H9=>opt (pick v1 v10 (.bool false)) fun v11=>ifB v11 (
 opt (aA .add t10 (.int .i64 1)) fun v12=>X0 [t0,t1,v12,t11] H9) (
 aO (fun l H X0=>F.f96_l2 E Q (nth l 0) (nth l 1) (nth l 2) (nth l 3) H X0) [t0,t1,t10,t11] H9)
def F.f96 (E:Sy) (x0 x1 x2 x3:Value) (H:AH) (Q:VK):Prop :=
 opt (aG 1 x0 x3) fun v1=>opt (aB v1 H) fun v2=>opt (aG 1 x0 x1) fun v3=>opt (aB v3 H) fun v4=>opt (aG 1 x0 x1) fun v5=>opt (aN v5 v2 H) fun H1=>opt (aG 1 x0 x3) fun v6=>opt (aN v6 v4 H1) fun H2=>opt (aA .add x1 (.int .i64 1)) fun v7=>opt (aA .sub x2 (.int .i64 1)) fun v8=>aO (fun l H X0=>F.f96_l1 E Q (nth l 0) (nth l 1) (nth l 2) (nth l 3) H X0) [x0,x1,v7,v8] H2

def F.f19_l1 (E:Sy) (Q:VK) (t0 t2 t7 t11:Value) (H:AH) (X0:LK):Prop :=
 opt (aA .lss t11 (.int .i64 18)) fun v1=>ifB v1 (
 opt (cW fE .eql t7 (.pointer none)) fun v2=>gd v2 false (fun k=>k t7 H) H fun v3 H1=>gd v2 false (fun k=>opt (aH v3) fun v=>k v H1) H1 fun v4 H2=>gd v2 false (fun k=>opt (aC v4 1) fun v=>k v H2) H2 fun v5 H3=>gd v2 false (fun k=>opt (aB v5 H3) fun v=>k v H3) H3 fun v6 H4=>gd v2 false (fun k=>opt (aA .neq v6 (.int .u8 2)) fun v=>k v H4) H4 fun v7 H5=>opt (pick v2 (.bool true) v7) fun v8=>ifB v8 (
 Q (.bool false) H5) (
 opt (aH t7) fun v9=>opt (aC v9 0) fun v10=>opt (aB v10 H5) fun v11=>opt (aA .eql v11 t2) fun v12=>ifB v12 (
 Q (.bool true) H5) (
 opt (aH t7) fun v13=>opt (aC v13 4) fun v14=>opt (aB v14 H5) fun v15=>opt (aH t7) fun v16=>opt (aC v16 0) fun v17=>opt (aB v17 H5) fun v18=>opt (aA .eql v15 v18) fun v19=>ifB v19 (
 Q (.bool false) H5) (
 opt (aH t0) fun v20=>opt (aC v20 0) fun v21=>opt (aB v21 H5) fun v22=>opt (aH t7) fun v23=>opt (aC v23 4) fun v24=>opt (aB v24 H5) fun v25=>opt (look 0 (.pointer none) false v22 v25 H5) fun v26=>opt (aA .add t11 (.int .i64 1)) fun v27=>X0 [t0,t2,v26,v27] H5)))) (
 Q (.bool false) H)
def F.f19 (E:Sy) (x0 x1 x2:Value) (H:AH) (Q:VK):Prop :=
 E.call (E.fid i.f13) [x0,x1] H fun v1 H1=>aO (fun l H X0=>F.f19_l1 E Q (nth l 0) (nth l 1) (nth l 2) (nth l 3) H X0) [x0,x2,v1,(.int .i64 0)] H1

def F.f25_l1 (E:Sy) (Q:VK) (t0 t5 t17:Value) (H:AH) (X0:LK):Prop :=
 mX t17 H fun v1 H1=>opt (ext v1 0) fun v2=>ifB v2 (
 opt (lN t17 H1) fun v3=>opt (ext v3 1) fun v4=>opt (aH t0) fun v5=>opt (aC v5 0) fun v6=>opt (aB v6 H1) fun v7=>opt (look 0 (.pointer none) false v7 v4 H1) fun v8=>opt (aH v8) fun v9=>opt (aC v9 1) fun v10=>opt (aB v10 H1) fun v11=>opt (aA .eql v11 (.int .u8 2)) fun v12=>ifB v12 (
 E.call (E.fid i.f25) [t0,v4] H1 fun v13 H2=>opt (jE max2 [t5,v13]) fun v14=>X0 [t0,v14,t17] H2) (
 X0 [t0,t5,t17] H1)) (
 opt (aA .add t5 (.int .i64 1)) fun v15=>Q v15 H1)
def F.f25 (E:Sy) (x0 x1:Value) (H:AH) (Q:VK):Prop :=
 opt (aH x0) fun v1=>opt (aC v1 0) fun v2=>opt (aB v2 H) fun v3=>opt (look 0 (.pointer none) false v3 x1 H) fun v4=>opt (aH v4) fun v5=>opt (aC v5 3) fun v6=>opt (aB v6 H) fun v7=>mk (mO v7 H) H fun v8 H1=>aO (fun l H X0=>F.f25_l1 E Q (nth l 0) (nth l 1) (nth l 2) H X0) [x0,(.int .i64 0),v8] H1

def F.f112_l1 (E:Sy) (Q:VK) (t1 t2 t10:Value) (H:AH) (X0:LK):Prop :=
 fR (aBW t10 H) fun v1 H1=>opt (ext v1 0) fun v2=>ifB v2 (
 opt (ext v1 1) fun v3=>opt (ext v1 2) fun v4=>jJ E.call t1 [v4] H1 fun v5 H2=>opt (nV .eql v5 t2) fun v6=>ifB v6 (
 Q v3 H2) (
 X0 [t1,t2,t10] H2)) (
 Q (.int .i64 (-1)) H1)
def F.f112 (E:Sy) (x0 x1 x2:Value) (H:AH) (Q:VK):Prop :=
 mk (wM x0) H fun v1 H1=>aO (fun l H X0=>F.f112_l1 E Q (nth l 0) (nth l 1) (nth l 2) H X0) [x1,x2,v1] H1

def F.f101_j1 (E:Sy) (Q:VK) (X0:LK) (t0 t2 t3 t8 t9:Value) (H:AH):Prop :=
 opt (aA .add t3 t8) fun v1=>opt (aG 1 t0 v1) fun v2=>opt (aB v2 H) fun v3=>opt (aA .add t3 t9) fun v4=>opt (aG 1 t0 v4) fun v5=>opt (aB v5 H) fun v6=>E.call (E.fid i.f2) [v3,v6] H fun v7 H1=>opt (un .not v7) fun v8=>ifB v8 (
 Q (.tuple #[]) H1) (
 opt (aA .add t3 t8) fun v9=>opt (aA .add t3 t9) fun v10=>opt (aA .add t3 t9) fun v11=>opt (aG 1 t0 v11) fun v12=>opt (aB v12 H1) fun v13=>opt (aA .add t3 t8) fun v14=>opt (aG 1 t0 v14) fun v15=>opt (aB v15 H1) fun v16=>opt (aG 1 t0 v9) fun v17=>opt (aN v17 v13 H1) fun H2=>opt (aG 1 t0 v10) fun v18=>opt (aN v18 v16 H2) fun H3=>X0 [t0,t2,t3,t9] H3)
def F.f101_l1 (E:Sy) (Q:VK) (t0 t2 t3 t8:Value) (H:AH) (X0:LK):Prop :=
 opt (aA .mul (.int .i64 2) t8) fun v1=>opt (aA .add v1 (.int .i64 1)) fun v2=>opt (aA .geq v2 t2) fun v3=>ifB v3 (
 Q (.tuple #[]) H) (
 opt (aA .add v2 (.int .i64 1)) fun v4=>opt (aA .lss v4 t2) fun v5=>gd v5 true (fun k=>k t0 H) H fun v6 H1=>gd v5 true (fun k=>k t3 H1) H1 fun v7 H2=>gd v5 true (fun k=>k v2 H2) H2 fun v8 H3=>gd v5 true (fun k=>opt (aA .add v7 v8) fun v=>k v H3) H3 fun v9 H4=>gd v5 true (fun k=>opt (aG 1 v6 v9) fun v=>k v H4) H4 fun v10 H5=>gd v5 true (fun k=>opt (aB v10 H5) fun v=>k v H5) H5 fun v11 H6=>gd v5 true (fun k=>k t0 H6) H6 fun v12 H7=>gd v5 true (fun k=>k t3 H7) H7 fun v13 H8=>gd v5 true (fun k=>k v2 H8) H8 fun v14 H9=>gd v5 true (fun k=>opt (aA .add v13 v14) fun v=>k v H9) H9 fun v15 H10=>gd v5 true (fun k=>opt (aA .add v15 (.int .i64 1)) fun v=>k v H10) H10 fun v16 H11=>gd v5 true (fun k=>opt (aG 1 v12 v16) fun v=>k v H11) H11 fun v17 H12=>gd v5 true (fun k=>opt (aB v17 H12) fun v=>k v H12) H12 fun v18 H13=>gd v5 true (fun k=>E.call (E.fid i.f2) [v11,v18] H13 fun v h=>k v h) H13 fun v19 H14=>opt (pick v5 v19 (.bool false)) fun v20=>ifB v20 (
 opt (aA .add v2 (.int .i64 1)) fun v21=>F.f101_j1 E Q X0 t0 t2 t3 t8 v21 H14) (
 F.f101_j1 E Q X0 t0 t2 t3 t8 v2 H14))
def F.f101 (E:Sy) (x0 x1 x2 x3:Value) (H:AH) (Q:VK):Prop :=
 aO (fun l H X0=>F.f101_l1 E Q (nth l 0) (nth l 1) (nth l 2) (nth l 3) H X0) [x0,x2,x3,x1] H

def F.f88 (E:Sy) (x0:Value) (H:AH) (Q:VK):Prop :=
 opt (bC .u64 x0) fun v1=>E.call (E.fid i.f27) [v1] H fun v2 H1=>opt (aA .shl (.int .u64 1) v2) fun v3=>Q v3 H1

def F.f103 (E:Sy) (x0:Value) (H:AH) (Q:VK):Prop :=
 opt (aH x0) fun v1=>opt (aB v1 H) fun v2=>opt (aH x0) fun v3=>opt (aB v3 H) fun v4=>opt (aA .shl v4 (.int .u64 13)) fun v5=>opt (aA .xor v2 v5) fun v6=>opt (aH x0) fun v7=>opt (aN v7 v6 H) fun H1=>opt (aH x0) fun v8=>opt (aB v8 H1) fun v9=>opt (aH x0) fun v10=>opt (aB v10 H1) fun v11=>opt (aA .shr v11 (.int .u64 7)) fun v12=>opt (aA .xor v9 v12) fun v13=>opt (aH x0) fun v14=>opt (aN v14 v13 H1) fun H2=>opt (aH x0) fun v15=>opt (aB v15 H2) fun v16=>opt (aH x0) fun v17=>opt (aB v17 H2) fun v18=>opt (aA .shl v18 (.int .u64 17)) fun v19=>opt (aA .xor v16 v19) fun v20=>opt (aH x0) fun v21=>opt (aN v21 v20 H2) fun H3=>opt (aH x0) fun v22=>opt (aB v22 H3) fun v23=>Q v23 H3

def F.f84 (E:Sy) (x0 x1 x2:Value) (H:AH) (Q:VK):Prop :=
 opt (aA .sub x1 (.int .i64 1)) fun v1=>opt (aA .add x1 (.int .i64 1)) fun v2=>E.call (E.fid i.f86) [x0,v1,x1,v2,x2] H fun v3 H1=>Q v3 H1

def F.f86 (E:Sy) (x0 x1 x2 x3 x4:Value) (H:AH) (Q:VK):Prop :=
 E.call (E.fid i.f89) [x0,x1,x2,x4] H fun v1 H1=>opt (ext v1 0) fun v2=>opt (ext v1 1) fun v3=>E.call (E.fid i.f89) [x0,v3,x3,x4] H1 fun v4 H2=>opt (ext v4 0) fun v5=>opt (ext v4 1) fun v6=>E.call (E.fid i.f89) [x0,v2,v5,x4] H2 fun v7 H3=>opt (ext v7 0) fun v8=>opt (ext v7 1) fun v9=>Q v9 H3

def F.f4 (E:Sy) (x0:Value) (H:AH) (Q:VK):Prop :=
 opt (aA .neq x0 x0) fun v1=>Q v1 H

def F.f102_j1 (E:Sy) (Q:VK) (X0:LK) (t0 t2 t3 t8 t9:Value) (H:AH):Prop :=
 opt (aA .add t3 t8) fun v1=>opt (aG 1 t0 v1) fun v2=>opt (aB v2 H) fun v3=>opt (aA .add t3 t9) fun v4=>opt (aG 1 t0 v4) fun v5=>opt (aB v5 H) fun v6=>E.call (E.fid i.f3) [v3,v6] H fun v7 H1=>opt (un .not v7) fun v8=>ifB v8 (
 Q (.tuple #[]) H1) (
 opt (aA .add t3 t8) fun v9=>opt (aA .add t3 t9) fun v10=>opt (aA .add t3 t9) fun v11=>opt (aG 1 t0 v11) fun v12=>opt (aB v12 H1) fun v13=>opt (aA .add t3 t8) fun v14=>opt (aG 1 t0 v14) fun v15=>opt (aB v15 H1) fun v16=>opt (aG 1 t0 v9) fun v17=>opt (aN v17 v13 H1) fun H2=>opt (aG 1 t0 v10) fun v18=>opt (aN v18 v16 H2) fun H3=>X0 [t0,t2,t3,t9] H3)
def F.f102_l1 (E:Sy) (Q:VK) (t0 t2 t3 t8:Value) (H:AH) (X0:LK):Prop :=
 opt (aA .mul (.int .i64 2) t8) fun v1=>opt (aA .add v1 (.int .i64 1)) fun v2=>opt (aA .geq v2 t2) fun v3=>ifB v3 (
 Q (.tuple #[]) H) (
 opt (aA .add v2 (.int .i64 1)) fun v4=>opt (aA .lss v4 t2) fun v5=>gd v5 true (fun k=>k t0 H) H fun v6 H1=>gd v5 true (fun k=>k t3 H1) H1 fun v7 H2=>gd v5 true (fun k=>k v2 H2) H2 fun v8 H3=>gd v5 true (fun k=>opt (aA .add v7 v8) fun v=>k v H3) H3 fun v9 H4=>gd v5 true (fun k=>opt (aG 1 v6 v9) fun v=>k v H4) H4 fun v10 H5=>gd v5 true (fun k=>opt (aB v10 H5) fun v=>k v H5) H5 fun v11 H6=>gd v5 true (fun k=>k t0 H6) H6 fun v12 H7=>gd v5 true (fun k=>k t3 H7) H7 fun v13 H8=>gd v5 true (fun k=>k v2 H8) H8 fun v14 H9=>gd v5 true (fun k=>opt (aA .add v13 v14) fun v=>k v H9) H9 fun v15 H10=>gd v5 true (fun k=>opt (aA .add v15 (.int .i64 1)) fun v=>k v H10) H10 fun v16 H11=>gd v5 true (fun k=>opt (aG 1 v12 v16) fun v=>k v H11) H11 fun v17 H12=>gd v5 true (fun k=>opt (aB v17 H12) fun v=>k v H12) H12 fun v18 H13=>gd v5 true (fun k=>E.call (E.fid i.f3) [v11,v18] H13 fun v h=>k v h) H13 fun v19 H14=>opt (pick v5 v19 (.bool false)) fun v20=>ifB v20 (
 opt (aA .add v2 (.int .i64 1)) fun v21=>F.f102_j1 E Q X0 t0 t2 t3 t8 v21 H14) (
 F.f102_j1 E Q X0 t0 t2 t3 t8 v2 H14))
def F.f102 (E:Sy) (x0 x1 x2 x3:Value) (H:AH) (Q:VK):Prop :=
 aO (fun l H X0=>F.f102_l1 E Q (nth l 0) (nth l 1) (nth l 2) (nth l 3) H X0) [x0,x2,x3,x1] H

def F.f85 (E:Sy) (x0 x1 x2:Value) (H:AH) (Q:VK):Prop :=
 opt (aA .sub x1 (.int .i64 1)) fun v1=>opt (aA .add x1 (.int .i64 1)) fun v2=>E.call (E.fid i.f87) [x0,v1,x1,v2,x2] H fun v3 H1=>Q v3 H1

def F.f87 (E:Sy) (x0 x1 x2 x3 x4:Value) (H:AH) (Q:VK):Prop :=
 E.call (E.fid i.f90) [x0,x1,x2,x4] H fun v1 H1=>opt (ext v1 0) fun v2=>opt (ext v1 1) fun v3=>E.call (E.fid i.f90) [x0,v3,x3,x4] H1 fun v4 H2=>opt (ext v4 0) fun v5=>opt (ext v4 1) fun v6=>E.call (E.fid i.f90) [x0,v2,v5,x4] H2 fun v7 H3=>opt (ext v7 0) fun v8=>opt (ext v7 1) fun v9=>Q v9 H3

def F.f89 (E:Sy) (x0 x1 x2 x3:Value) (H:AH) (Q:VK):Prop :=
 opt (aG 1 x0 x2) fun v1=>opt (aB v1 H) fun v2=>opt (aG 1 x0 x1) fun v3=>opt (aB v3 H) fun v4=>E.call (E.fid i.f2) [v2,v4] H fun v5 H1=>ifB v5 (
 opt (aH x3) fun v6=>opt (aB v6 H1) fun v7=>opt (aA .add v7 (.int .i64 1)) fun v8=>opt (aH x3) fun v9=>opt (aN v9 v8 H1) fun H2=>Q (.tuple #[x2,x1]) H2) (
 Q (.tuple #[x1,x2]) H1)

def F.f90 (E:Sy) (x0 x1 x2 x3:Value) (H:AH) (Q:VK):Prop :=
 opt (aG 1 x0 x2) fun v1=>opt (aB v1 H) fun v2=>opt (aG 1 x0 x1) fun v3=>opt (aB v3 H) fun v4=>E.call (E.fid i.f3) [v2,v4] H fun v5 H1=>ifB v5 (
 opt (aH x3) fun v6=>opt (aB v6 H1) fun v7=>opt (aA .add v7 (.int .i64 1)) fun v8=>opt (aH x3) fun v9=>opt (aN v9 v8 H1) fun H2=>Q (.tuple #[x2,x1]) H2) (
 Q (.tuple #[x1,x2]) H1)
structure bJ (E:Sy):Prop where
  mono:aDs E.call
  f45:∀ x0 x1 H Q,F.f45 E x0 x1 H Q->E.call (E.fid i.f45) [x0,x1] H Q
  f44:∀ H Q,F.f44 E H Q->E.call (E.fid i.f44) [] H Q
  f41:∀ x0 H Q,F.f41 E x0 H Q->E.call (E.fid i.f41) [x0] H Q
  f40:∀ x0 H Q,F.f40 E x0 H Q->E.call (E.fid i.f40) [x0] H Q
  f107:∀ x0 H Q,F.f107 E x0 H Q->E.call (E.fid i.f107) [x0] H Q
  f47:∀ x0 H Q,F.f47 E x0 H Q->E.call (E.fid i.f47) [x0] H Q
  f42:∀ x0 x1 x2 H Q,F.f42 E x0 x1 x2 H Q->E.call (E.fid i.f42) [x0,x1,x2] H Q
  f106:∀ x0 x1 H Q,F.f106 E x0 x1 H Q->E.call (E.fid i.f106) [x0,x1] H Q
  f46:∀ x0 x1 x2 H Q,F.f46 E x0 x1 x2 H Q->E.call (E.fid i.f46) [x0,x1,x2] H Q
  f104:∀ x0 x1 H Q,F.f104 E x0 x1 H Q->E.call (E.fid i.f104) [x0,x1] H Q
  f48:∀ x0 x1 H Q,F.f48 E x0 x1 H Q->E.call (E.fid i.f48) [x0,x1] H Q
  f115:∀ x0 H Q,F.f115 E x0 H Q->E.call (E.fid i.f115) [x0] H Q
  f16:∀ x0 x1 x2 x3 x4 H Q,F.f16 E x0 x1 x2 x3 x4 H Q->E.call (E.fid i.f16) [x0,x1,x2,x3,x4] H Q
  f105:∀ x0 H Q,F.f105 E x0 H Q->E.call (E.fid i.f105) [x0] H Q
  f50:∀ x0 H Q,F.f50 E x0 H Q->E.call (E.fid i.f50) [x0] H Q
  f18:∀ x0 H Q,F.f18 E x0 H Q->E.call (E.fid i.f18) [x0] H Q
  f13:∀ x0 x1 H Q,F.f13 E x0 x1 H Q->E.call (E.fid i.f13) [x0,x1] H Q
  f12:∀ x0 x1 H Q,F.f12 E x0 x1 H Q->E.call (E.fid i.f12) [x0,x1] H Q
  f15:∀ x0 x1 x2 H Q,F.f15 E x0 x1 x2 H Q->E.call (E.fid i.f15) [x0,x1,x2] H Q
  f43:∀ H Q,F.f43 E H Q->E.call (E.fid i.f43) [] H Q
  f37:∀ x0 x1 x2 H Q,F.f37 E x0 x1 x2 H Q->E.call (E.fid i.f37) [x0,x1,x2] H Q
  f116:∀ x0 x1 H Q,F.f116 E x0 x1 H Q->E.call (E.fid i.f116) [x0,x1] H Q
  f31:∀ x0 x1 x2 H Q,F.f31 E x0 x1 x2 H Q->E.call (E.fid i.f31) [x0,x1,x2] H Q
  f39:∀ x0 H Q,F.f39 E x0 H Q->E.call (E.fid i.f39) [x0] H Q
  f52:∀ x0 x1 x2 H Q,F.f52 E x0 x1 x2 H Q->E.call (E.fid i.f52) [x0,x1,x2] H Q
  f14:∀ x0 x1 x2 H Q,F.f14 E x0 x1 x2 H Q->E.call (E.fid i.f14) [x0,x1,x2] H Q
  f55:∀ x0 x1 x2 H Q,F.f55 E x0 x1 x2 H Q->E.call (E.fid i.f55) [x0,x1,x2] H Q
  f110:∀ x0 x1 H Q,F.f110 E x0 x1 H Q->E.call (E.fid i.f110) [x0,x1] H Q
  f109:∀ x0 x1 H Q,F.f109 E x0 x1 H Q->E.call (E.fid i.f109) [x0,x1] H Q
  f108:∀ x0 x1 H Q,F.f108 E x0 x1 H Q->E.call (E.fid i.f108) [x0,x1] H Q
  f8:∀ x0 H Q,F.f8 E x0 H Q->E.call (E.fid i.f8) [x0] H Q
  f30:∀ H Q,F.f30 E H Q->E.call (E.fid i.f30) [] H Q
  f24:∀ x0 x1 x2 H Q,F.f24 E x0 x1 x2 H Q->E.call (E.fid i.f24) [x0,x1,x2] H Q
  f21:∀ x0 x1 H Q,F.f21 E x0 x1 H Q->E.call (E.fid i.f21) [x0,x1] H Q
  f114:∀ x0 x1 H Q,F.f114 E x0 x1 H Q->E.call (E.fid i.f114) [x0,x1] H Q
  f0:∀ x0 H Q,F.f0 E x0 H Q->E.call (E.fid i.f0) [x0] H Q
  f74:∀ x0 H Q,F.f74 E x0 H Q->E.call (E.fid i.f74) [x0] H Q
  f22:∀ x0 x1 H Q,F.f22 E x0 x1 H Q->E.call (E.fid i.f22) [x0,x1] H Q
  f75:∀ x0 H Q,F.f75 E x0 H Q->E.call (E.fid i.f75) [x0] H Q
  f38:∀ H Q,F.f38 E H Q->E.call (E.fid i.f38) [] H Q
  f58:∀ x0 x1 x2 x3 x4 H Q,F.f58 E x0 x1 x2 x3 x4 H Q->E.call (E.fid i.f58) [x0,x1,x2,x3,x4] H Q
  f9:∀ x0 x1 x2 x3 H Q,F.f9 E x0 x1 x2 x3 H Q->E.call (E.fid i.f9) [x0,x1,x2,x3] H Q
  f51:∀ x0 x1 x2 x3 H Q,F.f51 E x0 x1 x2 x3 H Q->E.call (E.fid i.f51) [x0,x1,x2,x3] H Q
  f11:∀ x0 x1 x2 x3 H Q,F.f11 E x0 x1 x2 x3 H Q->E.call (E.fid i.f11) [x0,x1,x2,x3] H Q
  f54:∀ x0 x1 x2 x3 H Q,F.f54 E x0 x1 x2 x3 H Q->E.call (E.fid i.f54) [x0,x1,x2,x3] H Q
  f17:∀ x0 x1 x2 x3 x4 H Q,F.f17 E x0 x1 x2 x3 x4 H Q->E.call (E.fid i.f17) [x0,x1,x2,x3,x4] H Q
  f59:∀ x0 x1 x2 x3 x4 H Q,F.f59 E x0 x1 x2 x3 x4 H Q->E.call (E.fid i.f59) [x0,x1,x2,x3,x4] H Q
  f20:∀ x0 x1 x2 x3 H Q,F.f20 E x0 x1 x2 x3 H Q->E.call (E.fid i.f20) [x0,x1,x2,x3] H Q
  f63:∀ x0 x1 x2 x3 H Q,F.f63 E x0 x1 x2 x3 H Q->E.call (E.fid i.f63) [x0,x1,x2,x3] H Q
  f10:∀ x0 x1 x2 H Q,F.f10 E x0 x1 x2 H Q->E.call (E.fid i.f10) [x0,x1,x2] H Q
  f53:∀ x0 x1 x2 H Q,F.f53 E x0 x1 x2 H Q->E.call (E.fid i.f53) [x0,x1,x2] H Q
  f57:∀ x0 x1 x2 H Q,F.f57 E x0 x1 x2 H Q->E.call (E.fid i.f57) [x0,x1,x2] H Q
  f117:∀ x0 H Q,F.f117 E x0 H Q->E.call (E.fid i.f117) [x0] H Q
  f32:∀ x0 x1 H Q,F.f32 E x0 x1 H Q->E.call (E.fid i.f32) [x0,x1] H Q
  f35:∀ x0 x1 H Q,F.f35 E x0 x1 H Q->E.call (E.fid i.f35) [x0,x1] H Q
  f33:∀ x0 x1 H Q,F.f33 E x0 x1 H Q->E.call (E.fid i.f33) [x0,x1] H Q
  f66:∀ x0 x1 H Q,F.f66 E x0 x1 H Q->E.call (E.fid i.f66) [x0,x1] H Q
  f61:∀ x0 x1 H Q,F.f61 E x0 x1 H Q->E.call (E.fid i.f61) [x0,x1] H Q
  f26:∀ x0 x1 H Q,F.f26 E x0 x1 H Q->E.call (E.fid i.f26) [x0,x1] H Q
  f60:∀ x0 x1 H Q,F.f60 E x0 x1 H Q->E.call (E.fid i.f60) [x0,x1] H Q
  f69:∀ x0 x1 H Q,F.f69 E x0 x1 H Q->E.call (E.fid i.f69) [x0,x1] H Q
  f1:∀ x0 x1 H Q,F.f1 E x0 x1 H Q->E.call (E.fid i.f1) [x0,x1] H Q
  f6:∀ x0 H Q,F.f6 E x0 H Q->E.call (E.fid i.f6) [x0] H Q
  f27:∀ x0 H Q,F.f27 E x0 H Q->E.call (E.fid i.f27) [x0] H Q
  f97:∀ x0 x1 x2 x3 H Q,F.f97 E x0 x1 x2 x3 H Q->E.call (E.fid i.f97) [x0,x1,x2,x3] H Q
  f98:∀ x0 x1 x2 x3 H Q,F.f98 E x0 x1 x2 x3 H Q->E.call (E.fid i.f98) [x0,x1,x2,x3] H Q
  f67:∀ x0 x1 x2 H Q,F.f67 E x0 x1 x2 H Q->E.call (E.fid i.f67) [x0,x1,x2] H Q
  f56:∀ x0 H Q,F.f56 E x0 H Q->E.call (E.fid i.f56) [x0] H Q
  f64:∀ x0 x1 H Q,F.f64 E x0 x1 H Q->E.call (E.fid i.f64) [x0,x1] H Q
  f71:∀ x0 x1 H Q,F.f71 E x0 x1 H Q->E.call (E.fid i.f71) [x0,x1] H Q
  f70:∀ x0 x1 H Q,F.f70 E x0 x1 H Q->E.call (E.fid i.f70) [x0,x1] H Q
  f72:∀ x0 x1 H Q,F.f72 E x0 x1 H Q->E.call (E.fid i.f72) [x0,x1] H Q
  f23:∀ x0 x1 x2 x3 x4 x5 H Q,F.f23 E x0 x1 x2 x3 x4 x5 H Q->E.call (E.fid i.f23) [x0,x1,x2,x3,x4,x5] H Q
  f65:∀ x0 x1 H Q,F.f65 E x0 x1 H Q->E.call (E.fid i.f65) [x0,x1] H Q
  f49:∀ x0 H Q,F.f49 E x0 H Q->E.call (E.fid i.f49) [x0] H Q
  f62:∀ x0 x1 x2 H Q,F.f62 E x0 x1 x2 H Q->E.call (E.fid i.f62) [x0,x1,x2] H Q
  f68:∀ x0 x1 H Q,F.f68 E x0 x1 H Q->E.call (E.fid i.f68) [x0,x1] H Q
  f36:∀ x0 x1 H Q,F.f36 E x0 x1 H Q->E.call (E.fid i.f36) [x0,x1] H Q
  f73:∀ x0 x1 H Q,F.f73 E x0 x1 H Q->E.call (E.fid i.f73) [x0,x1] H Q
  f34:∀ x0 x1 H Q,F.f34 E x0 x1 H Q->E.call (E.fid i.f34) [x0,x1] H Q
  f5:∀ x0 H Q,F.f5 E x0 H Q->E.call (E.fid i.f5) [x0] H Q
  f111:∀ x0 x1 H Q,F.f111 E x0 x1 H Q->E.call (E.fid i.f111) [x0,x1] H Q
  f7:∀ x0 H Q,F.f7 E x0 H Q->E.call (E.fid i.f7) [x0] H Q
  f29:∀ x0 H Q,F.f29 E x0 H Q->E.call (E.fid i.f29) [x0] H Q
  f82:∀ x0 x1 x2 H Q,F.f82 E x0 x1 x2 H Q->E.call (E.fid i.f82) [x0,x1,x2] H Q
  f80:∀ x0 x1 x2 H Q,F.f80 E x0 x1 x2 H Q->E.call (E.fid i.f80) [x0,x1,x2] H Q
  f76:∀ x0 x1 x2 H Q,F.f76 E x0 x1 x2 H Q->E.call (E.fid i.f76) [x0,x1,x2] H Q
  f78:∀ x0 x1 x2 H Q,F.f78 E x0 x1 x2 H Q->E.call (E.fid i.f78) [x0,x1,x2] H Q
  f99:∀ x0 x1 x2 H Q,F.f99 E x0 x1 x2 H Q->E.call (E.fid i.f99) [x0,x1,x2] H Q
  f91:∀ x0 x1 x2 H Q,F.f91 E x0 x1 x2 H Q->E.call (E.fid i.f91) [x0,x1,x2] H Q
  f2:∀ x0 x1 H Q,F.f2 E x0 x1 H Q->E.call (E.fid i.f2) [x0,x1] H Q
  f93:∀ x0 x1 x2 x3 H Q,F.f93 E x0 x1 x2 x3 H Q->E.call (E.fid i.f93) [x0,x1,x2,x3] H Q
  f95:∀ x0 x1 x2 x3 H Q,F.f95 E x0 x1 x2 x3 H Q->E.call (E.fid i.f95) [x0,x1,x2,x3] H Q
  f83:∀ x0 x1 x2 H Q,F.f83 E x0 x1 x2 H Q->E.call (E.fid i.f83) [x0,x1,x2] H Q
  f81:∀ x0 x1 x2 H Q,F.f81 E x0 x1 x2 H Q->E.call (E.fid i.f81) [x0,x1,x2] H Q
  f77:∀ x0 x1 x2 H Q,F.f77 E x0 x1 x2 H Q->E.call (E.fid i.f77) [x0,x1,x2] H Q
  f79:∀ x0 x1 x2 H Q,F.f79 E x0 x1 x2 H Q->E.call (E.fid i.f79) [x0,x1,x2] H Q
  f100:∀ x0 x1 x2 H Q,F.f100 E x0 x1 x2 H Q->E.call (E.fid i.f100) [x0,x1,x2] H Q
  f92:∀ x0 x1 x2 H Q,F.f92 E x0 x1 x2 H Q->E.call (E.fid i.f92) [x0,x1,x2] H Q
  f3:∀ x0 x1 H Q,F.f3 E x0 x1 H Q->E.call (E.fid i.f3) [x0,x1] H Q
  f94:∀ x0 x1 x2 x3 H Q,F.f94 E x0 x1 x2 x3 H Q->E.call (E.fid i.f94) [x0,x1,x2,x3] H Q
  f96:∀ x0 x1 x2 x3 H Q,F.f96 E x0 x1 x2 x3 H Q->E.call (E.fid i.f96) [x0,x1,x2,x3] H Q
  f19:∀ x0 x1 x2 H Q,F.f19 E x0 x1 x2 H Q->E.call (E.fid i.f19) [x0,x1,x2] H Q
  f25:∀ x0 x1 H Q,F.f25 E x0 x1 H Q->E.call (E.fid i.f25) [x0,x1] H Q
  f112:∀ x0 x1 x2 H Q,F.f112 E x0 x1 x2 H Q->E.call (E.fid i.f112) [x0,x1,x2] H Q
  f101:∀ x0 x1 x2 x3 H Q,F.f101 E x0 x1 x2 x3 H Q->E.call (E.fid i.f101) [x0,x1,x2,x3] H Q
  f88:∀ x0 H Q,F.f88 E x0 H Q->E.call (E.fid i.f88) [x0] H Q
  f103:∀ x0 H Q,F.f103 E x0 H Q->E.call (E.fid i.f103) [x0] H Q
  f84:∀ x0 x1 x2 H Q,F.f84 E x0 x1 x2 H Q->E.call (E.fid i.f84) [x0,x1,x2] H Q
  f86:∀ x0 x1 x2 x3 x4 H Q,F.f86 E x0 x1 x2 x3 x4 H Q->E.call (E.fid i.f86) [x0,x1,x2,x3,x4] H Q
  f4:∀ x0 H Q,F.f4 E x0 H Q->E.call (E.fid i.f4) [x0] H Q
  f102:∀ x0 x1 x2 x3 H Q,F.f102 E x0 x1 x2 x3 H Q->E.call (E.fid i.f102) [x0,x1,x2,x3] H Q
  f85:∀ x0 x1 x2 H Q,F.f85 E x0 x1 x2 H Q->E.call (E.fid i.f85) [x0,x1,x2] H Q
  f87:∀ x0 x1 x2 x3 x4 H Q,F.f87 E x0 x1 x2 x3 x4 H Q->E.call (E.fid i.f87) [x0,x1,x2,x3,x4] H Q
  f89:∀ x0 x1 x2 x3 H Q,F.f89 E x0 x1 x2 x3 H Q->E.call (E.fid i.f89) [x0,x1,x2,x3] H Q
  f90:∀ x0 x1 x2 x3 H Q,F.f90 E x0 x1 x2 x3 H Q->E.call (E.fid i.f90) [x0,x1,x2,x3] H Q
  f113:∀ x0 x1 H Q,mY x0 x1 H Q->E.call (E.fid i.f113) [x0,x1] H Q
end Go.AM
