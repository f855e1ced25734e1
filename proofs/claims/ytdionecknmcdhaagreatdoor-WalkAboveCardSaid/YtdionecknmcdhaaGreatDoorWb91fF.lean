/- THE FUNCTIONS, AS THE ABSTRACT MACHINE SEES THEM: written by program (gen2.py). -/
import Derived.Test.YtdionecknmcdhaaGreatDoorWb91fA1
set_option linter.all false
set_option linter.unusedVariables false
namespace Go.AM
abbrev LK:=List Value->AH->Prop
abbrev VK:=Value->AH->Prop
def i.f33:Nat:=68
def i.f37:Nat:=69
def i.f35:Nat:=70
def i.f34:Nat:=71
def i.f41:Nat:=76
def i.f52:Nat:=78
def i.f44:Nat:=79
def i.f59:Nat:=80
def i.f68:Nat:=81
def i.f36:Nat:=84
def i.f56:Nat:=85
def i.f38:Nat:=88
def i.f81:Nat:=89
def i.f39:Nat:=90
def i.f74:Nat:=95
def i.f40:Nat:=97
def i.f4:Nat:=100
def i.f12:Nat:=101
def i.f10:Nat:=102
def i.f7:Nat:=103
def i.f9:Nat:=104
def i.f15:Nat:=105
def i.f13:Nat:=107
def i.f5:Nat:=108
def i.f64:Nat:=110
def i.f8:Nat:=111
def i.f2:Nat:=112
def i.f51:Nat:=113
def i.f62:Nat:=115
def i.f14:Nat:=116
def i.f70:Nat:=117
def i.f65:Nat:=118
def i.f11:Nat:=121
def i.f6:Nat:=125
def i.f42:Nat:=128
def i.f19:Nat:=130
def i.f16:Nat:=131
def i.f108:Nat:=132
def i.f21:Nat:=133
def i.f17:Nat:=134
def i.f18:Nat:=135
def i.f75:Nat:=136
def i.f72:Nat:=137
def i.f79:Nat:=138
def i.f3:Nat:=139
def i.f101:Nat:=140
def i.f66:Nat:=141
def i.f63:Nat:=142
def i.f73:Nat:=143
def i.f78:Nat:=144
def i.f76:Nat:=145
def i.f80:Nat:=146
def i.f60:Nat:=147
def i.f43:Nat:=149
def i.f55:Nat:=150
def i.f61:Nat:=151
def i.f71:Nat:=152
def i.f57:Nat:=153
def i.f107:Nat:=154
def i.f20:Nat:=155
def i.f82:Nat:=156
def i.f30:Nat:=157
def i.f94:Nat:=158
def i.f106:Nat:=159
def i.f77:Nat:=160
def i.f31:Nat:=164
def i.f32:Nat:=165
def i.f86:Nat:=166
def i.f85:Nat:=167
def i.f84:Nat:=168
def i.f0:Nat:=169
def i.f92:Nat:=170
def i.f93:Nat:=171
def i.f91:Nat:=172
def i.f95:Nat:=173
def i.f83:Nat:=174
def i.f96:Nat:=184
def i.f89:Nat:=185
def i.f97:Nat:=186
def i.f88:Nat:=187
def i.f87:Nat:=188
def i.f1:Nat:=189
def i.f90:Nat:=194
def i.f110:Nat:=198
def i.f45:Nat:=216
def i.f113:Nat:=218
def i.f114:Nat:=235
def i.f117:Nat:=236
def i.f99:Nat:=237
def i.f121:Nat:=238
def i.f112:Nat:=239
def i.f111:Nat:=241
def i.f116:Nat:=242
def i.f102:Nat:=243
def i.f119:Nat:=244
def i.f118:Nat:=245
def i.f27:Nat:=246
def i.f115:Nat:=247
def i.f120:Nat:=248
def i.f103:Nat:=252
def i.f105:Nat:=254
def i.f104:Nat:=256
def i.f100:Nat:=257
def i.f98:Nat:=258
def i.f109:Nat:=261
def i.f22:Nat:=263
def i.f28:Nat:=264
def i.f29:Nat:=266
def i.f26:Nat:=267
def i.f23:Nat:=268
def i.f25:Nat:=269
def i.f24:Nat:=270
def i.f47:Nat:=274
def i.f46:Nat:=275
def i.f48:Nat:=277
def i.f50:Nat:=290
def i.f49:Nat:=320
def i.f54:Nat:=321
def i.f67:Nat:=322
def i.f58:Nat:=323
def i.f69:Nat:=324
def i.f53:Nat:=328
def F.f49_l2 (E:Sy) (Q:VK) (X0:LK) (t5 t6 t7 t8 t32 t35:Value) (H:AH) (X1:LK):Prop :=
 opt (aA .lss t35 (.int .i64 10)) fun v1=>ifB v1 (
 opt (bQ .u16 t35) fun v2=>opt (bN [(0,1),(1,1)] #[(.int .i64 0),(.int .u16 0)] [(0,t8),(1,v2)]) fun v3=>mk (buildS 1 2 #[(.int .i64 0),(.int .u16 0)] [(0,v3)]) H fun v4 H1=>gG (app 2 16 t7 v4 H1) fun v5 H2=>opt (aA .add t35 (.int .i64 1)) fun v6=>X1 [t5,t6,v5,t8,t32,v6] H2) (
 opt (aA .add t32 (.int .i64 1)) fun v7=>X0 [t5,t6,t7,v7] H)
def F.f49_l4 (E:Sy) (Q:VK) (X0:LK) (t5 t6 t13 t14 t47 t48 t49 t108 t109:Value) (H:AH) (X1:LK):Prop :=
 opt (aA .lss t109 t108) fun v1=>ifB v1 (
 opt (aM 2 t13 t109) fun v2=>opt (aL 2 v2 H) fun v3=>opt (aM 2 t14 t109) fun v4=>opt (aL 2 v4 H) fun v5=>E.call (E.fid i.f44) [v3] H fun v6 H1=>aL 2 v4 H1=aL 2 v4 H /\
 opt (dZ [0,0] .neq v6 v5) fun v7=>ifB v7 (
 Q (.bool false) H1) (
 opt (aA .add t109 (.int .i64 1)) fun v8=>X1 [t5,t6,t13,t14,t47,t48,t49,t108,v8] H1)) (
 opt (aA .add t49 (.int .i64 1)) fun v9=>X0 [t5,t6,t47,t48,v9] H)
def F.f49_l3 (E:Sy) (Q:VK) (t5 t6 t47 t48 t49:Value) (H:AH) (X0:LK):Prop :=
 opt (aA .lss t49 t48) fun v1=>ifB v1 (
 opt (aM 2 t47 t49) fun v2=>opt (aL 2 v2 H) fun v3=>dC [(.int .i64 0),(.int .u16 0)] H fun v4 H1=>opt (storeN 2 v4 v3 H1) fun H2=>opt (aL 2 v4 H2) fun v5=>E.call (E.fid i.f44) [v5] H2 fun v6 H3=>dC [(.int .i64 0),(.int .i64 0)] H3 fun v7 H4=>opt (storeN 2 v7 v6 H4) fun H5=>opt (aL 2 v4 H5) fun v8=>opt (aL 2 v7 H5) fun v9=>E.call (E.fid i.f111) [t5,v8] H5 fun v10 H6=>aL 2 v7 H6=aL 2 v7 H5 /\
 E.call (E.fid i.f54) [t6,v9] H6 fun v11 H7=>opt (aL 2 v4 H7) fun v12=>E.call (E.fid i.f114) [t5,v12] H7 fun v13 H8=>opt (ext v13 0) fun v14=>opt (ext v13 1) fun v15=>opt (aL 2 v7 H8) fun v16=>E.call (E.fid i.f67) [t6,v16] H8 fun v17 H9=>opt (ext v17 0) fun v18=>opt (ext v17 1) fun v19=>opt (aL 2 v4 H9) fun v20=>opt (aL 2 v7 H9) fun v21=>E.call (E.fid i.f112) [t5,v20] H9 fun v22 H10=>aL 2 v7 H10=aL 2 v7 H9 /\
 E.call (E.fid i.f58) [t6,v21] H10 fun v23 H11=>opt (kS .neq v22 v23) fun v24=>gd v24 false (fun k=>k t5 H11) H11 fun v25 H12=>gd v24 false (fun k=>opt (aL 2 v4 H12) fun v=>k v H12) H12 fun v26 H13=>gd v24 false (fun k=>k t6 H13) H13 fun v27 H14=>gd v24 false (fun k=>opt (aL 2 v7 H14) fun v=>k v H14) H14 fun v28 H15=>gd v24 false (fun k=>E.call (E.fid i.f115) [v25,v26] H15 fun v h=>k v h) H15 fun v29 H16=>gdC v24 false (aL 2 v7 H16=aL 2 v7 H14) /\
 gd v24 false (fun k=>E.call (E.fid i.f44) [v29] H16 fun v h=>k v h) H16 fun v30 H17=>gdC v24 false (aL 2 v7 H17=aL 2 v7 H14) /\
 gd v24 false (fun k=>E.call (E.fid i.f69) [v27,v28] H17 fun v h=>k v h) H17 fun v31 H18=>gd v24 false (fun k=>opt (dZ [0,0] .neq v30 v31) fun v=>k v H18) H18 fun v32 H19=>opt (pick v24 (.bool true) v32) fun v33=>gd v33 false (fun k=>k v10 H19) H19 fun v34 H20=>gd v33 false (fun k=>opt (lenSlc v34) fun v=>k v H20) H20 fun v35 H21=>gd v33 false (fun k=>k v11 H21) H21 fun v36 H22=>gd v33 false (fun k=>opt (lenSlc v36) fun v=>k v H22) H22 fun v37 H23=>gd v33 false (fun k=>opt (aA .neq v35 v37) fun v=>k v H23) H23 fun v38 H24=>opt (pick v33 (.bool true) v38) fun v39=>gd v39 false (fun k=>k v15 H24) H24 fun v40 H25=>gd v39 false (fun k=>k v19 H25) H25 fun v41 H26=>gd v39 false (fun k=>opt (kS .neq v40 v41) fun v=>k v H26) H26 fun v42 H27=>opt (pick v39 (.bool true) v42) fun v43=>gd v43 false (fun k=>k v14 H27) H27 fun v44 H28=>gd v43 false (fun k=>k v18 H28) H28 fun v45 H29=>gd v43 false (fun k=>opt (cK .neq v44 v45) fun v=>k v H29) H29 fun v46 H30=>opt (pick v43 (.bool true) v46) fun v47=>ifB v47 (
 Q (.bool false) H30) (
 opt (lenSlc v10) fun v48=>aT (fun l H X1=>F.f49_l4 E Q X0 (nth l 0) (nth l 1) (nth l 2) (nth l 3) (nth l 4) (nth l 5) (nth l 6) (nth l 7) (nth l 8) H X1) [t5,t6,v10,v11,t47,t48,t49,v48,(.int .i64 0)] H30)) (
 Q (.bool true) H)
def F.f49_l1 (E:Sy) (Q:VK) (t5 t6 t7 t32:Value) (H:AH) (X0:LK):Prop :=
 opt (aA .lss t32 (.int .i64 4)) fun v1=>ifB v1 (
 aT (fun l H X1=>F.f49_l2 E Q X0 (nth l 0) (nth l 1) (nth l 2) (nth l 3) (nth l 4) (nth l 5) H X1) [t5,t6,t7,t32,t32,(.int .i64 0)] H) (
 opt (lenSlc t7) fun v2=>aT (fun l H X0=>F.f49_l3 E Q (nth l 0) (nth l 1) (nth l 2) (nth l 3) (nth l 4) H X0) [t5,t6,t7,v2,(.int .i64 0)] H)
def F.f49 (E:Sy) (x0 x1:Value) (H:AH) (Q:VK):Prop :=
 mk (gD x1) H fun v1 H1=>E.call (E.fid i.f45) [] H1 fun v2 H2=>opt (un .not v2) fun v3=>ifB v3 (
 Q (.bool false) H2) (
 E.call (E.fid i.f47) [x0] H2 fun v4 H3=>opt (un .not v4) fun v5=>ifB v5 (
 Q (.bool true) H3) (
 E.call (E.fid i.f46) [x0] H3 fun v6 H4=>opt (ext v6 0) fun v7=>opt (ext v6 1) fun v8=>opt (aL 2 v1 H4) fun v9=>mk (buildS 1 2 #[(.int .i64 0),(.int .u16 0)] [(0,v9)]) H4 fun v10 H5=>aT (fun l H X0=>F.f49_l1 E Q (nth l 0) (nth l 1) (nth l 2) (nth l 3) H X0) [v7,v8,v10,(.int .i64 0)] H5))

def F.f45 (E:Sy) (H:AH) (Q:VK):Prop :=
 E.call (E.fid i.f110) [(.int .i64 9)] H fun v1 H1=>opt (cQ eI .eql v1 (.pointer none)) fun v2=>ifB v2 (
 Q (.bool false) H1) (
 opt (aG v1) fun v3=>opt (aB v3 0) fun v4=>opt (aC v4 H1) fun v5=>E.call (E.fid i.f12) [v5,(.int .u16 1),(.string ⟨#[97]⟩),(.int .u8 2),(.string ⟨#[]⟩)] H1 fun v6 H2=>opt (ext v6 0) fun v7=>opt (ext v6 1) fun v8=>opt (aG v1) fun v9=>opt (aB v9 0) fun v10=>opt (aC v10 H2) fun v11=>E.call (E.fid i.f12) [v11,v7,(.string ⟨#[102]⟩),(.int .u8 1),(.string ⟨#[]⟩)] H2 fun v12 H3=>opt (ext v12 0) fun v13=>opt (ext v12 1) fun v14=>E.call (E.fid i.f41) [] H3 fun v15 H4=>E.call (E.fid i.f113) [v1,v15,(.string ⟨#[47,97,47,46,46,47,97,47,102]⟩),(.bool true)] H4 fun v16 H5=>opt (ext v16 0) fun v17=>opt (ext v16 1) fun v18=>dC [(.int .i64 0),(.int .u16 0)] H5 fun v19 H6=>opt (storeN 2 v19 v17 H6) fun H7=>opt (bN [(0,1),(1,1)] #[(.int .i64 0),(.int .u16 0)] [(1,v7)]) fun v20=>E.call (E.fid i.f114) [v1,v20] H7 fun v21 H8=>opt (ext v21 0) fun v22=>opt (ext v21 1) fun v23=>opt (aA .eql v8 (.int .i64 0)) fun v24=>gd v24 true (fun k=>k v14 H8) H8 fun v25 H9=>gd v24 true (fun k=>opt (aA .eql v25 (.int .i64 0)) fun v=>k v H9) H9 fun v26 H10=>opt (pick v24 v26 (.bool false)) fun v27=>gd v27 true (fun k=>k v18 H10) H10 fun v28 H11=>gd v27 true (fun k=>opt (aA .eql v28 (.int .i64 0)) fun v=>k v H11) H11 fun v29 H12=>opt (pick v27 v29 (.bool false)) fun v30=>gd v30 true (fun k=>opt (aB v19 1) fun v=>k v H12) H12 fun v31 H13=>gd v30 true (fun k=>opt (aC v31 H13) fun v=>k v H13) H13 fun v32 H14=>gd v30 true (fun k=>k v13 H14) H14 fun v33 H15=>gd v30 true (fun k=>opt (aA .eql v32 v33) fun v=>k v H15) H15 fun v34 H16=>opt (pick v30 v34 (.bool false)) fun v35=>gd v35 true (fun k=>k v23 H16) H16 fun v36 H17=>opt (pick v35 v36 (.bool false)) fun v37=>gd v37 true (fun k=>k v22 H17) H17 fun v38 H18=>gd v37 true (fun k=>opt (cK .eql v38 (.string ⟨#[47,97]⟩)) fun v=>k v H18) H18 fun v39 H19=>opt (pick v37 v39 (.bool false)) fun v40=>Q v40 H19)

def F.f47_l1 (E:Sy) (Q:VK) (t5 t6 t7:Value) (H:AH) (X0:LK):Prop :=
 opt (aA .lss t7 t6) fun v1=>ifB v1 (
 opt (aM 14 t5 t7) fun v2=>opt (aL 14 v2 H) fun v3=>dC [(.int .u8 0),(.int .u8 0),(.int .u8 0),(.int .u8 0),(.int .u8 0),(.int .u8 0),(.string ⟨#[]⟩),(.int .i64 0),(.slice none 0 0),(.bool false),(.bool false),(.int .u8 0),(.int .u8 0),(.int .u8 0)] H fun v4 H1=>opt (storeN 14 v4 v3 H1) fun H2=>opt (aB v4 1) fun v5=>opt (aB v5 5) fun v6=>opt (aC v6 H2) fun v7=>opt (dS v7) fun v8=>opt (aA .gtr v8 (.int .i64 200)) fun v9=>gd v9 false (fun k=>opt (aB v4 1) fun v=>k v H2) H2 fun v10 H3=>gd v9 false (fun k=>opt (aB v10 7) fun v=>k v H3) H3 fun v11 H4=>gd v9 false (fun k=>opt (aC v11 H4) fun v=>k v H4) H4 fun v12 H5=>gd v9 false (fun k=>opt (lenSlc v12) fun v=>k v H5) H5 fun v13 H6=>gd v9 false (fun k=>opt (aA .gtr v13 (.int .i64 200)) fun v=>k v H6) H6 fun v14 H7=>opt (pick v9 (.bool true) v14) fun v15=>ifB v15 (
 Q (.bool false) H7) (
 opt (aA .add t7 (.int .i64 1)) fun v16=>X0 [t5,t6,v16] H7)) (
 Q (.bool true) H)
def F.f47 (E:Sy) (x0:Value) (H:AH) (Q:VK):Prop :=
 opt (lenSlc x0) fun v1=>aT (fun l H X0=>F.f47_l1 E Q (nth l 0) (nth l 1) (nth l 2) H X0) [x0,v1,(.int .i64 0)] H

def F.f46 (E:Sy) (x0:Value) (H:AH) (Q:VK):Prop :=
 E.call (E.fid i.f110) [(.int .i64 60)] H fun v1 H1=>E.call (E.fid i.f52) [(.int .i64 60)] H1 fun v2 H2=>E.call (E.fid i.f48) [v1,v2,x0] H2 fun v3 H3=>Q (.tuple #[v1,v2]) H3

def F.f44 (E:Sy) (x0:Value) (H:AH) (Q:VK):Prop :=
 mk (gD x0) H fun v1 H1=>dC [(.int .i64 0),(.int .i64 0)] H1 fun v2 H2=>opt (aB v1 0) fun v3=>opt (aC v3 H2) fun v4=>opt (aB v1 1) fun v5=>opt (aC v5 H2) fun v6=>opt (bQ .i64 v6) fun v7=>opt (bN [(0,1),(1,1)] #[(.int .i64 0),(.int .i64 0)] [(0,v4),(1,v7)]) fun v8=>opt (storeN 2 v2 v8 H2) fun H3=>opt (aL 2 v2 H3) fun v9=>Q v9 H3

def F.f111_l1 (E:Sy) (Q:VK) (t0 t3 t5 t13:Value) (H:AH) (X0:LK):Prop :=
 opt (aA .lss t13 (.int .i64 289)) fun v1=>ifB v1 (
 opt (aL 2 t3 H) fun v2=>mk (buildS 1 2 #[(.int .i64 0),(.int .u16 0)] [(0,v2)]) H fun v3 H1=>gG (app 2 16 t5 v3 H1) fun v4 H2=>opt (aG t0) fun v5=>opt (aB v5 1) fun v6=>opt (aC v6 H2) fun v7=>opt (aL 2 t3 H2) fun v8=>dC [(.int .i64 0),(.int .u16 0)] H2 fun v9 H3=>E.call (E.fid i.f35) [v7,v8] H3 fun v10 H4=>H4.get H2.next=H3.get H2.next /\
 opt (ext v10 0) fun v11=>opt (ext v10 1) fun v12=>opt (storeN 2 v9 v11 H4) fun H5=>ifB v12 (
 opt (aL 2 v9 H5) fun v13=>opt (storeN 2 t3 v13 H5) fun H6=>opt (aA .add t13 (.int .i64 1)) fun v14=>X0 [t0,t3,v4,v14] H6) (
 opt (aB t3 0) fun v15=>opt (aC v15 H5) fun v16=>opt (aG t0) fun v17=>opt (aB v17 0) fun v18=>opt (aC v18 H5) fun v19=>opt (aB t3 1) fun v20=>opt (aC v20 H5) fun v21=>dC [(.int .i64 0),(.int .u16 0)] H5 fun v22 H7=>E.call (E.fid i.f9) [v19,v21] H7 fun v23 H8=>H8.get H5.next=H7.get H5.next /\
 aC v15 H8=aC v15 H5 /\
 opt (aG v23) fun v24=>opt (aB v24 4) fun v25=>opt (aC v25 H8) fun v26=>opt (bN [(0,1),(1,1)] #[(.int .i64 0),(.int .u16 0)] [(0,v16),(1,v26)]) fun v27=>opt (storeN 2 v22 v27 H8) fun H9=>opt (aL 2 v22 H9) fun v28=>opt (aL 2 t3 H9) fun v29=>opt (dZ [0,0] .eql v28 v29) fun v30=>gd v30 false (fun k=>k t0 H9) H9 fun v31 H10=>gd v30 false (fun k=>opt (aG v31) fun v=>k v H10) H10 fun v32 H11=>gd v30 false (fun k=>opt (aB v32 0) fun v=>k v H11) H11 fun v33 H12=>gd v30 false (fun k=>opt (aC v33 H12) fun v=>k v H12) H12 fun v34 H13=>gd v30 false (fun k=>opt (aB v22 1) fun v=>k v H13) H13 fun v35 H14=>gd v30 false (fun k=>opt (aC v35 H14) fun v=>k v H14) H14 fun v36 H15=>gd v30 false (fun k=>E.call (E.fid i.f9) [v34,v36] H15 fun v h=>k v h) H15 fun v37 H16=>gd v30 false (fun k=>opt (cQ eI .eql v37 (.pointer none)) fun v=>k v H16) H16 fun v38 H17=>opt (pick v30 (.bool true) v38) fun v39=>ifB v39 (
 Q v4 H17) (
 opt (aL 2 v22 H17) fun v40=>opt (storeN 2 t3 v40 H17) fun H18=>opt (aA .add t13 (.int .i64 1)) fun v41=>X0 [t0,t3,v4,v41] H18))) (
 Q t5 H)
def F.f111 (E:Sy) (x0 x1:Value) (H:AH) (Q:VK):Prop :=
 mk (gD x1) H fun v1 H1=>opt (aL 2 v1 H1) fun v2=>E.call (E.fid i.f112) [x0,v2] H1 fun v3 H2=>opt (un .not v3) fun v4=>ifB v4 (
 Q (.slice none 0 0) H2) (
 aT (fun l H X0=>F.f111_l1 E Q (nth l 0) (nth l 1) (nth l 2) (nth l 3) H X0) [x0,v1,(.slice none 0 0),(.int .i64 0)] H2)

def F.f54_l1 (E:Sy) (Q:VK) (t0 t3 t5 t6:Value) (H:AH) (X0:LK):Prop :=
 opt (aA .lss t6 (.int .i64 300)) fun v1=>ifB v1 (
 opt (aL 2 t3 H) fun v2=>mk (buildS 1 2 #[(.int .i64 0),(.int .i64 0)] [(0,v2)]) H fun v3 H1=>gG (app 2 16 t5 v3 H1) fun v4 H2=>opt (aL 2 t3 H2) fun v5=>E.call (E.fid i.f59) [t0,v5] H2 fun v6 H3=>opt (ext v6 0) fun v7=>opt (ext v6 1) fun v8=>dC [(.int .i64 0),(.int .i64 0)] H3 fun v9 H4=>opt (storeN 2 v9 v7 H4) fun H5=>ifB v8 (
 opt (aL 2 v9 H5) fun v10=>opt (storeN 2 t3 v10 H5) fun H6=>opt (aA .add t6 (.int .i64 1)) fun v11=>X0 [t0,t3,v4,v11] H6) (
 opt (aB t3 0) fun v12=>opt (aC v12 H5) fun v13=>opt (aB t3 1) fun v14=>opt (aC v14 H5) fun v15=>dC [(.int .i64 0),(.int .i64 0)] H5 fun v16 H7=>E.call (E.fid i.f66) [t0,v15] H7 fun v17 H8=>H8.get H5.next=H7.get H5.next /\
 aC v12 H8=aC v12 H5 /\
 opt (aG v17) fun v18=>opt (aB v18 3) fun v19=>opt (aC v19 H8) fun v20=>opt (bN [(0,1),(1,1)] #[(.int .i64 0),(.int .i64 0)] [(0,v13),(1,v20)]) fun v21=>opt (storeN 2 v16 v21 H8) fun H9=>opt (aL 2 v16 H9) fun v22=>opt (aL 2 t3 H9) fun v23=>opt (dZ [0,0] .eql v22 v23) fun v24=>gd v24 false (fun k=>k t0 H9) H9 fun v25 H10=>gd v24 false (fun k=>opt (aB v16 1) fun v=>k v H10) H10 fun v26 H11=>gd v24 false (fun k=>opt (aC v26 H11) fun v=>k v H11) H11 fun v27 H12=>gd v24 false (fun k=>E.call (E.fid i.f66) [v25,v27] H12 fun v h=>k v h) H12 fun v28 H13=>gd v24 false (fun k=>opt (aG v28) fun v=>k v H13) H13 fun v29 H14=>gd v24 false (fun k=>opt (aB v29 0) fun v=>k v H14) H14 fun v30 H15=>gd v24 false (fun k=>opt (aC v30 H15) fun v=>k v H15) H15 fun v31 H16=>gd v24 false (fun k=>opt (aA .eql v31 (.int .i64 0)) fun v=>k v H16) H16 fun v32 H17=>opt (pick v24 (.bool true) v32) fun v33=>ifB v33 (
 Q v4 H17) (
 opt (aL 2 v16 H17) fun v34=>opt (storeN 2 t3 v34 H17) fun H18=>opt (aA .add t6 (.int .i64 1)) fun v35=>X0 [t0,t3,v4,v35] H18))) (
 Q t5 H)
def F.f54 (E:Sy) (x0 x1:Value) (H:AH) (Q:VK):Prop :=
 mk (gD x1) H fun v1 H1=>opt (aL 2 v1 H1) fun v2=>E.call (E.fid i.f58) [x0,v2] H1 fun v3 H2=>opt (un .not v3) fun v4=>ifB v4 (
 Q (.slice none 0 0) H2) (
 aT (fun l H X0=>F.f54_l1 E Q (nth l 0) (nth l 1) (nth l 2) (nth l 3) H X0) [x0,v1,(.slice none 0 0),(.int .i64 0)] H2)

def F.f114_l1 (E:Sy) (Q:VK) (t0 t6 t7 t8:Value) (H:AH) (X0:LK):Prop :=
 opt (aA .gtr t8 (.int .i64 0)) fun v1=>ifB v1 (
 opt (aM 2 t6 t8) fun v2=>opt (aL 2 v2 H) fun v3=>opt (aA .sub t8 (.int .i64 1)) fun v4=>opt (aM 2 t6 v4) fun v5=>opt (aL 2 v5 H) fun v6=>dC [(.int .i64 0),(.int .u16 0)] H fun v7 H1=>dC [(.int .i64 0),(.int .u16 0)] H1 fun v8 H2=>opt (storeN 2 v7 v3 H2) fun H3=>aL 2 v5 H3=aL 2 v5 H /\
 opt (storeN 2 v8 v6 H3) fun H4=>opt (aB v7 0) fun v9=>opt (aC v9 H4) fun v10=>opt (aB v8 0) fun v11=>opt (aC v11 H4) fun v12=>opt (aA .neq v10 v12) fun v13=>ifB v13 (
 opt (aA .sub t8 (.int .i64 1)) fun v14=>X0 [t0,t6,t7,v14] H4) (
 opt (aB v7 1) fun v15=>opt (aC v15 H4) fun v16=>opt (aB v8 1) fun v17=>opt (aC v17 H4) fun v18=>E.call (E.fid i.f116) [t0,v16,v18] H4 fun v19 H5=>opt (ext v19 0) fun v20=>opt (ext v19 1) fun v21=>opt (un .not v21) fun v22=>ifB v22 (
 Q (.tuple #[(.string ⟨#[]⟩),(.bool false)]) H5) (
 mk (buildS 1 1 #[(.string ⟨#[]⟩)] [(0,v20)]) H5 fun v23 H6=>gG (app 1 16 t7 v23 H6) fun v24 H7=>opt (aA .sub t8 (.int .i64 1)) fun v25=>X0 [t0,t6,v24,v25] H7))) (
 E.call (E.fid i.f102) [t7,(.string ⟨#[47]⟩)] H fun v26 H8=>opt (cK .add (.string ⟨#[47]⟩) v26) fun v27=>Q (.tuple #[v27,(.bool true)]) H8)
def F.f114 (E:Sy) (x0 x1:Value) (H:AH) (Q:VK):Prop :=
 mk (gD x1) H fun v1 H1=>opt (aL 2 v1 H1) fun v2=>E.call (E.fid i.f111) [x0,v2] H1 fun v3 H2=>opt (lenSlc v3) fun v4=>opt (aA .eql v4 (.int .i64 0)) fun v5=>gd v5 false (fun k=>k v3 H2) H2 fun v6 H3=>gd v5 false (fun k=>k v3 H3) H3 fun v7 H4=>gd v5 false (fun k=>opt (lenSlc v7) fun v=>k v H4) H4 fun v8 H5=>gd v5 false (fun k=>opt (aA .sub v8 (.int .i64 1)) fun v=>k v H5) H5 fun v9 H6=>gd v5 false (fun k=>opt (aM 2 v6 v9) fun v=>k v H6) H6 fun v10 H7=>gd v5 false (fun k=>opt (aL 2 v10 H7) fun v=>k v H7) H7 fun v11 H8=>gd v5 false (fun k=>E.call (E.fid i.f41) [] H8 fun v h=>k v h) H8 fun v12 H9=>gdC v5 false (aL 2 v10 H9=aL 2 v10 H7) /\
 gd v5 false (fun k=>opt (dZ [0,0] .neq v11 v12) fun v=>k v H9) H9 fun v13 H10=>opt (pick v5 (.bool true) v13) fun v14=>ifB v14 (
 Q (.tuple #[(.string ⟨#[]⟩),(.bool false)]) H10) (
 opt (lenSlc v3) fun v15=>opt (aA .sub v15 (.int .i64 1)) fun v16=>aT (fun l H X0=>F.f114_l1 E Q (nth l 0) (nth l 1) (nth l 2) (nth l 3) H X0) [x0,v3,(.slice none 0 0),v16] H10)

def F.f67_l2 (E:Sy) (Q:VK) (X0:LK) (t0 t6 t7 t8 t9 t10 t11:Value) (H:AH) (X1:LK):Prop :=
 opt (aA .geq t11 (.int .i64 0)) fun v1=>ifB v1 (
 opt (aG t9) fun v2=>opt (aB v2 2) fun v3=>opt (aC v3 H) fun v4=>opt (aM 2 v4 t11) fun v5=>opt (aB v5 1) fun v6=>opt (aC v6 H) fun v7=>opt (aA .sub t8 (.int .i64 1)) fun v8=>opt (aM 2 t6 v8) fun v9=>opt (aB v9 1) fun v10=>opt (aC v10 H) fun v11=>opt (aA .eql v7 v11) fun v12=>ifB v12 (
 opt (aG t9) fun v13=>opt (aB v13 2) fun v14=>opt (aC v14 H) fun v15=>opt (aM 2 v15 t11) fun v16=>opt (aB v16 0) fun v17=>opt (aC v17 H) fun v18=>opt (aA .sub t11 (.int .i64 1)) fun v19=>X1 [t0,t6,t7,t8,t9,v18,v19] H) (
 opt (aA .sub t11 (.int .i64 1)) fun v20=>X1 [t0,t6,t7,t8,t9,t10,v20] H)) (
 opt (cK .eql t10 (.string ⟨#[]⟩)) fun v21=>ifB v21 (
 Q (.tuple #[(.string ⟨#[]⟩),(.bool false)]) H) (
 opt (cK .add t7 (.string ⟨#[47]⟩)) fun v22=>opt (cK .add v22 t10) fun v23=>opt (aA .sub t8 (.int .i64 1)) fun v24=>X0 [t0,t6,v23,v24] H))
def F.f67_l1 (E:Sy) (Q:VK) (t0 t6 t7 t8:Value) (H:AH) (X0:LK):Prop :=
 opt (aA .gtr t8 (.int .i64 0)) fun v1=>ifB v1 (
 opt (aM 2 t6 t8) fun v2=>opt (aB v2 0) fun v3=>opt (aC v3 H) fun v4=>opt (aA .sub t8 (.int .i64 1)) fun v5=>opt (aM 2 t6 v5) fun v6=>opt (aB v6 0) fun v7=>opt (aC v7 H) fun v8=>opt (aA .neq v4 v8) fun v9=>ifB v9 (
 opt (aA .sub t8 (.int .i64 1)) fun v10=>X0 [t0,t6,t7,v10] H) (
 opt (aM 2 t6 t8) fun v11=>opt (aB v11 1) fun v12=>opt (aC v12 H) fun v13=>E.call (E.fid i.f66) [t0,v13] H fun v14 H1=>opt (aG v14) fun v15=>opt (aB v15 2) fun v16=>opt (aC v16 H1) fun v17=>opt (lenSlc v17) fun v18=>opt (aA .sub v18 (.int .i64 1)) fun v19=>aT (fun l H X1=>F.f67_l2 E Q X0 (nth l 0) (nth l 1) (nth l 2) (nth l 3) (nth l 4) (nth l 5) (nth l 6) H X1) [t0,t6,t7,t8,v14,(.string ⟨#[]⟩),v19] H1)) (
 opt (cK .eql t7 (.string ⟨#[]⟩)) fun v20=>ifB v20 (
 Q (.tuple #[(.string ⟨#[47]⟩),(.bool true)]) H) (
 Q (.tuple #[t7,(.bool true)]) H))
def F.f67 (E:Sy) (x0 x1:Value) (H:AH) (Q:VK):Prop :=
 mk (gD x1) H fun v1 H1=>opt (aL 2 v1 H1) fun v2=>E.call (E.fid i.f54) [x0,v2] H1 fun v3 H2=>opt (lenSlc v3) fun v4=>opt (aA .eql v4 (.int .i64 0)) fun v5=>gd v5 false (fun k=>k v3 H2) H2 fun v6 H3=>gd v5 false (fun k=>k v3 H3) H3 fun v7 H4=>gd v5 false (fun k=>opt (lenSlc v7) fun v=>k v H4) H4 fun v8 H5=>gd v5 false (fun k=>opt (aA .sub v8 (.int .i64 1)) fun v=>k v H5) H5 fun v9 H6=>gd v5 false (fun k=>opt (aM 2 v6 v9) fun v=>k v H6) H6 fun v10 H7=>gd v5 false (fun k=>opt (aL 2 v10 H7) fun v=>k v H7) H7 fun v11 H8=>gd v5 false (fun k=>E.call (E.fid i.f53) [] H8 fun v h=>k v h) H8 fun v12 H9=>gdC v5 false (aL 2 v10 H9=aL 2 v10 H7) /\
 gd v5 false (fun k=>opt (dZ [0,0] .neq v11 v12) fun v=>k v H9) H9 fun v13 H10=>opt (pick v5 (.bool true) v13) fun v14=>ifB v14 (
 Q (.tuple #[(.string ⟨#[]⟩),(.bool false)]) H10) (
 opt (lenSlc v3) fun v15=>opt (aA .sub v15 (.int .i64 1)) fun v16=>aT (fun l H X0=>F.f67_l1 E Q (nth l 0) (nth l 1) (nth l 2) (nth l 3) H X0) [x0,v3,(.string ⟨#[]⟩),v16] H10)

def F.f112 (E:Sy) (x0 x1:Value) (H:AH) (Q:VK):Prop :=
 mk (gD x1) H fun v1 H1=>E.call (E.fid i.f118) [x0] H1 fun v2 H2=>opt (un .not v2) fun v3=>ifB v3 (
 Q (.bool false) H2) (
 opt (aG x0) fun v4=>opt (aB v4 0) fun v5=>opt (aC v5 H2) fun v6=>opt (aB v1 1) fun v7=>opt (aC v7 H2) fun v8=>E.call (E.fid i.f9) [v6,v8] H2 fun v9 H3=>opt (aG x0) fun v10=>opt (aB v10 1) fun v11=>opt (aC v11 H3) fun v12=>opt (aB v1 0) fun v13=>opt (aC v13 H3) fun v14=>dC [(.int .i64 0),(.int .i64 0),(.int .u16 0),(.int .u16 0),(.int .i64 0)] H3 fun v15 H4=>E.call (E.fid i.f36) [v12,v14] H4 fun v16 H5=>H5.get H3.next=H4.get H3.next /\
 opt (ext v16 0) fun v17=>opt (ext v16 1) fun v18=>opt (storeN 5 v15 v17 H5) fun H6=>gd v18 true (fun k=>k v9 H6) H6 fun v19 H7=>gd v18 true (fun k=>opt (cQ eI .neq v19 (.pointer none)) fun v=>k v H7) H7 fun v20 H8=>opt (pick v18 v20 (.bool false)) fun v21=>gd v21 true (fun k=>k v9 H8) H8 fun v22 H9=>gd v21 true (fun k=>opt (aG v22) fun v=>k v H9) H9 fun v23 H10=>gd v21 true (fun k=>opt (aB v23 1) fun v=>k v H10) H10 fun v24 H11=>gd v21 true (fun k=>opt (aC v24 H11) fun v=>k v H11) H11 fun v25 H12=>gd v21 true (fun k=>opt (aA .eql v25 (.int .u8 2)) fun v=>k v H12) H12 fun v26 H13=>opt (pick v21 v26 (.bool false)) fun v27=>Q v27 H13)

def F.f58 (E:Sy) (x0 x1:Value) (H:AH) (Q:VK):Prop :=
 mk (gD x1) H fun v1 H1=>opt (aB v1 0) fun v2=>opt (aC v2 H1) fun v3=>E.call (E.fid i.f74) [x0,v3] H1 fun v4 H2=>opt (aA .geq v4 (.int .i64 0)) fun v5=>gd v5 true (fun k=>k x0 H2) H2 fun v6 H3=>gd v5 true (fun k=>opt (aB v1 1) fun v=>k v H3) H3 fun v7 H4=>gd v5 true (fun k=>opt (aC v7 H4) fun v=>k v H4) H4 fun v8 H5=>gd v5 true (fun k=>E.call (E.fid i.f66) [v6,v8] H5 fun v h=>k v h) H5 fun v9 H6=>gd v5 true (fun k=>opt (aG v9) fun v=>k v H6) H6 fun v10 H7=>gd v5 true (fun k=>opt (aB v10 0) fun v=>k v H7) H7 fun v11 H8=>gd v5 true (fun k=>opt (aC v11 H8) fun v=>k v H8) H8 fun v12 H9=>gd v5 true (fun k=>opt (aA .eql v12 (.int .i64 2)) fun v=>k v H9) H9 fun v13 H10=>opt (pick v5 v13 (.bool false)) fun v14=>Q v14 H10

def F.f115_l1 (E:Sy) (Q:VK) (t0 t3 t4:Value) (H:AH) (X0:LK):Prop :=
 opt (aG t0) fun v1=>opt (aB v1 1) fun v2=>opt (aC v2 H) fun v3=>opt (aL 2 t3 H) fun v4=>dC [(.int .i64 0),(.int .u16 0)] H fun v5 H1=>E.call (E.fid i.f35) [v3,v4] H1 fun v6 H2=>H2.get H.next=H1.get H.next /\
 opt (ext v6 0) fun v7=>opt (ext v6 1) fun v8=>opt (storeN 2 v5 v7 H2) fun H3=>opt (un .not v8) fun v9=>ifB v9 (
 opt (aG t0) fun v10=>opt (aB v10 0) fun v11=>opt (aC v11 H3) fun v12=>opt (aB t3 1) fun v13=>opt (aC v13 H3) fun v14=>E.call (E.fid i.f9) [v12,v14] H3 fun v15 H4=>opt (cQ eI .eql v15 (.pointer none)) fun v16=>ifB v16 (
 E.call (E.fid i.f41) [] H4 fun v17 H5=>opt (storeN 2 t4 v17 H5) fun H6=>opt (aL 2 t4 H6) fun v18=>Q v18 H6) (
 opt (aG t0) fun v19=>opt (aB v19 1) fun v20=>opt (aC v20 H4) fun v21=>opt (aB t3 0) fun v22=>opt (aC v22 H4) fun v23=>opt (aG v15) fun v24=>opt (aB v24 4) fun v25=>opt (aC v25 H4) fun v26=>opt (bN [(0,1),(1,1)] #[(.int .i64 0),(.int .u16 0)] [(0,v23),(1,v26)]) fun v27=>E.call (E.fid i.f37) [v21,v27] H4 fun v28 H7=>opt (storeN 2 t4 v28 H7) fun H8=>opt (aL 2 t4 H8) fun v29=>Q v29 H8)) (
 opt (aL 2 v5 H3) fun v30=>opt (storeN 2 t3 v30 H3) fun H9=>X0 [t0,t3,t4] H9)
def F.f115 (E:Sy) (x0 x1:Value) (H:AH) (Q:VK):Prop :=
 mk (gD x1) H fun v1 H1=>dC [(.int .i64 0),(.int .u16 0)] H1 fun v2 H2=>opt (aL 2 v1 H2) fun v3=>E.call (E.fid i.f112) [x0,v3] H2 fun v4 H3=>opt (un .not v4) fun v5=>ifB v5 (
 E.call (E.fid i.f41) [] H3 fun v6 H4=>opt (storeN 2 v2 v6 H4) fun H5=>opt (aL 2 v2 H5) fun v7=>Q v7 H5) (
 aT (fun l H X0=>F.f115_l1 E Q (nth l 0) (nth l 1) (nth l 2) H X0) [x0,v1,v2] H3)

def F.f69_j1 (E:Sy) (Q:VK) (t0 t3 t4:Value) (H:AH):Prop :=
 opt (aB t3 1) fun v1=>opt (aC v1 H) fun v2=>E.call (E.fid i.f66) [t0,v2] H fun v3 H1=>opt (aG v3) fun v4=>opt (aB v4 0) fun v5=>opt (aC v5 H1) fun v6=>opt (aA .eql v6 (.int .i64 0)) fun v7=>ifB v7 (
 E.call (E.fid i.f53) [] H1 fun v8 H2=>opt (storeN 2 t4 v8 H2) fun H3=>opt (aL 2 t4 H3) fun v9=>Q v9 H3) (
 opt (aB t3 0) fun v10=>opt (aC v10 H1) fun v11=>opt (aB t3 1) fun v12=>opt (aC v12 H1) fun v13=>E.call (E.fid i.f66) [t0,v13] H1 fun v14 H4=>aC v10 H4=aC v10 H1 /\
 opt (aG v14) fun v15=>opt (aB v15 3) fun v16=>opt (aC v16 H4) fun v17=>opt (bN [(0,1),(1,1)] #[(.int .i64 0),(.int .i64 0)] [(0,v11),(1,v17)]) fun v18=>E.call (E.fid i.f68) [t0,v18] H4 fun v19 H5=>opt (storeN 2 t4 v19 H5) fun H6=>opt (aL 2 t4 H6) fun v20=>Q v20 H6)
def F.f69_l1 (E:Sy) (Q:VK) (t0 t3 t4 t5:Value) (H:AH) (X0:LK):Prop :=
 opt (aA .lss t5 (.int .i64 20)) fun v1=>ifB v1 (
 opt (aL 2 t3 H) fun v2=>E.call (E.fid i.f59) [t0,v2] H fun v3 H1=>opt (ext v3 0) fun v4=>opt (ext v3 1) fun v5=>dC [(.int .i64 0),(.int .i64 0)] H1 fun v6 H2=>opt (storeN 2 v6 v4 H2) fun H3=>opt (un .not v5) fun v7=>ifB v7 (
 F.f69_j1 E Q t0 t3 t4 H3) (
 opt (aL 2 v6 H3) fun v8=>opt (storeN 2 t3 v8 H3) fun H4=>opt (aA .add t5 (.int .i64 1)) fun v9=>X0 [t0,t3,t4,v9] H4)) (
 F.f69_j1 E Q t0 t3 t4 H)
def F.f69 (E:Sy) (x0 x1:Value) (H:AH) (Q:VK):Prop :=
 mk (gD x1) H fun v1 H1=>dC [(.int .i64 0),(.int .i64 0)] H1 fun v2 H2=>opt (aL 2 v1 H2) fun v3=>E.call (E.fid i.f58) [x0,v3] H2 fun v4 H3=>opt (un .not v4) fun v5=>ifB v5 (
 E.call (E.fid i.f53) [] H3 fun v6 H4=>opt (storeN 2 v2 v6 H4) fun H5=>opt (aL 2 v2 H5) fun v7=>Q v7 H5) (
 aT (fun l H X0=>F.f69_l1 E Q (nth l 0) (nth l 1) (nth l 2) (nth l 3) H X0) [x0,v1,v2,(.int .i64 0)] H3)

def F.f110 (E:Sy) (x0:Value) (H:AH) (Q:VK):Prop :=
 E.call (E.fid i.f4) [x0] H fun v1 H1=>E.call (E.fid i.f33) [] H1 fun v2 H2=>opt (bN [(0,1),(1,1)] #[(.pointer none),(.pointer none)] [(0,v1),(1,v2)]) fun v3=>mk (gD v3) H2 fun v4 H3=>Q v4 H3

def F.f12_j1 (E:Sy) (Q:VK) (t0 t2 t12 t14 t15:Value) (H:AH):Prop :=
 opt (aG t0) fun v1=>opt (aB v1 0) fun v2=>opt (aC v2 H) fun v3=>opt (setMap 0 v3 t14 t15 H) fun H1=>opt (aG t12) fun v4=>opt (aB v4 3) fun v5=>opt (aC v5 H1) fun v6=>opt (setMap 1 v6 t2 t14 H1) fun H2=>opt (aG t0) fun v7=>opt (aB v7 2) fun v8=>E.call (E.fid i.f108) [v8,(.int .i64 1)] H2 fun v9 H3=>Q (.tuple #[t14,(.int .i64 0)]) H3
def F.f12_l1 (E:Sy) (Q:VK) (t0 t1 t2 t3 t4 t12 t14:Value) (H:AH) (X0:LK):Prop :=
 opt (aG t0) fun v1=>opt (aB v1 0) fun v2=>opt (aC v2 H) fun v3=>opt (look 0 (.pointer none) false v3 t14 H) fun v4=>opt (cQ eI .neq v4 (.pointer none)) fun v5=>ifB v5 (
 opt (aA .add t14 (.int .u16 1)) fun v6=>X0 [t0,t1,t2,t3,t4,t12,v6] H) (
 opt (bN [(0,1),(1,1),(2,1),(3,1),(4,1),(5,1),(6,1),(7,1)] #[(.int .u16 0),(.int .u8 0),(.slice none 0 0),(.map none),(.int .u16 0),(.string ⟨#[]⟩),(.int .i64 0),(.int .i64 0)] [(0,t14),(1,t3),(6,(.int .i64 1))]) fun v7=>mk (gD v7) H fun v8 H1=>opt (aA .eql t3 (.int .u8 2)) fun v9=>ifB v9 (
 aHg H1 fun v10 H2=>opt (aG v8) fun v11=>opt (aB v11 3) fun v12=>opt (aR v12 v10 H2) fun H3=>opt (aG v8) fun v13=>opt (aB v13 4) fun v14=>opt (aR v14 t1 H3) fun H4=>F.f12_j1 E Q t0 t2 t12 t14 v8 H4) (
 opt (aA .eql t3 (.int .u8 3)) fun v15=>ifB v15 (
 opt (aG v8) fun v16=>opt (aB v16 5) fun v17=>opt (aR v17 t4 H1) fun H5=>F.f12_j1 E Q t0 t2 t12 t14 v8 H5) (
 F.f12_j1 E Q t0 t2 t12 t14 v8 H1)))
def F.f12 (E:Sy) (x0 x1 x2 x3 x4:Value) (H:AH) (Q:VK):Prop :=
 E.call (E.fid i.f19) [x0,x1,x2] H fun v1 H1=>opt (ext v1 0) fun v2=>opt (ext v1 1) fun v3=>opt (aA .neq v3 (.int .i64 0)) fun v4=>ifB v4 (
 Q (.tuple #[(.int .u16 0),v3]) H1) (
 opt (aA .lss x3 (.int .u8 1)) fun v5=>gd v5 false (fun k=>k x3 H1) H1 fun v6 H2=>gd v5 false (fun k=>opt (aA .gtr v6 (.int .u8 3)) fun v=>k v H2) H2 fun v7 H3=>opt (pick v5 (.bool true) v7) fun v8=>ifB v8 (
 Q (.tuple #[(.int .u16 0),(.int .i64 22)]) H3) (
 opt (aA .eql x3 (.int .u8 3)) fun v9=>gd v9 true (fun k=>k x4 H3) H3 fun v10 H4=>gd v9 true (fun k=>opt (dS v10) fun v=>k v H4) H4 fun v11 H5=>gd v9 true (fun k=>opt (aA .lss v11 (.int .i64 1)) fun v=>k v H5) H5 fun v12 H6=>gd v9 true (fun k=>k v12 H6) H6 fun v13 H7=>gd v13 false (fun k=>k x4 H7) H7 fun v14 H8=>gd v13 false (fun k=>opt (dS v14) fun v=>k v H8) H8 fun v15 H9=>gd v13 false (fun k=>opt (aA .gtr v15 (.int .i64 120)) fun v=>k v H9) H9 fun v16 H10=>gd v9 true (fun k=>opt (pick v13 (.bool true) v16) fun v=>k v H10) H10 fun v17 H11=>opt (pick v9 v17 (.bool false)) fun v18=>ifB v18 (
 Q (.tuple #[(.int .u16 0),(.int .i64 22)]) H11) (
 opt (aG x0) fun v19=>opt (aB v19 0) fun v20=>opt (aC v20 H11) fun v21=>opt (iS v21 H11) fun v22=>opt (aG x0) fun v23=>opt (aB v23 1) fun v24=>opt (aC v24 H11) fun v25=>opt (aA .geq v22 v25) fun v26=>ifB v26 (
 Q (.tuple #[(.int .u16 0),(.int .i64 28)]) H11) (
 opt (aA .eql x3 (.int .u8 2)) fun v27=>gd v27 true (fun k=>k x0 H11) H11 fun v28 H12=>gd v27 true (fun k=>k x1 H12) H12 fun v29 H13=>gd v27 true (fun k=>E.call (E.fid i.f16) [v28,v29] H13 fun v h=>k v h) H13 fun v30 H14=>gd v27 true (fun k=>opt (aA .geq v30 (.int .i64 16)) fun v=>k v H14) H14 fun v31 H15=>opt (pick v27 v31 (.bool false)) fun v32=>ifB v32 (
 Q (.tuple #[(.int .u16 0),(.int .i64 28)]) H15) (
 aT (fun l H X0=>F.f12_l1 E Q (nth l 0) (nth l 1) (nth l 2) (nth l 3) (nth l 4) (nth l 5) (nth l 6) H X0) [x0,x1,x2,x3,x4,v2,(.int .u16 1)] H15)))))

def F.f41 (E:Sy) (H:AH) (Q:VK):Prop :=
 dC [(.int .i64 0),(.int .u16 0)] H fun v1 H1=>opt (bN [(0,1),(1,1)] #[(.int .i64 0),(.int .u16 0)] [(0,(.int .i64 0)),(1,(.int .u16 1))]) fun v2=>opt (storeN 2 v1 v2 H1) fun H2=>opt (aL 2 v1 H2) fun v3=>Q v3 H2

def F.f113_l1 (E:Sy) (Q:VK) (t0 t3 t8 t10 t12:Value) (H:AH) (X0:LK):Prop :=
 opt (aB t10 3) fun v1=>opt (aC v1 H) fun v2=>opt (lenSlc v2) fun v3=>opt (aA .gtr v3 (.int .i64 0)) fun v4=>ifB v4 (
 gd t3 false (fun k=>k t12 H) H fun v5 H1=>opt (pick t3 (.bool true) v5) fun v6=>E.call (E.fid i.f121) [t10,v6] H1 fun v7 H2=>opt (aA .neq v7 (.int .i64 0)) fun v8=>ifB v8 (
 opt (bN [(0,1),(1,1)] #[(.int .i64 0),(.int .u16 0)] []) fun v9=>opt (storeN 2 t8 v9 H2) fun H3=>opt (aL 2 t8 H3) fun v10=>Q (.tuple #[v10,v7]) H3) (
 X0 [t0,t3,t8,t10,t12] H2)) (
 opt (aG t0) fun v11=>opt (aB v11 0) fun v12=>opt (aC v12 H) fun v13=>opt (aB t10 1) fun v14=>opt (aB v14 1) fun v15=>opt (aC v15 H) fun v16=>E.call (E.fid i.f9) [v13,v16] H fun v17 H4=>opt (cQ eI .eql v17 (.pointer none)) fun v18=>ifB v18 (
 opt (bN [(0,1),(1,1)] #[(.int .i64 0),(.int .u16 0)] []) fun v19=>opt (storeN 2 t8 v19 H4) fun H5=>opt (aL 2 t8 H5) fun v20=>Q (.tuple #[v20,(.int .i64 2)]) H5) (
 gd t12 true (fun k=>k t0 H4) H4 fun v21 H6=>gd t12 true (fun k=>opt (aB t10 1) fun v=>k v H6) H6 fun v22 H7=>gd t12 true (fun k=>opt (aL 2 v22 H7) fun v=>k v H7) H7 fun v23 H8=>gd t12 true (fun k=>E.call (E.fid i.f112) [v21,v23] H8 fun v h=>k v h) H8 fun v24 H9=>gd t12 true (fun k=>opt (un .not v24) fun v=>k v H9) H9 fun v25 H10=>opt (pick t12 v25 (.bool false)) fun v26=>ifB v26 (
 opt (bN [(0,1),(1,1)] #[(.int .i64 0),(.int .u16 0)] []) fun v27=>opt (storeN 2 t8 v27 H10) fun H11=>opt (aL 2 t8 H11) fun v28=>Q (.tuple #[v28,(.int .i64 20)]) H11) (
 opt (aB t10 1) fun v29=>opt (aL 2 v29 H10) fun v30=>opt (storeN 2 t8 v30 H10) fun H12=>opt (aL 2 t8 H12) fun v31=>Q (.tuple #[v31,(.int .i64 0)]) H12)))
def F.f113 (E:Sy) (x0 x1 x2 x3:Value) (H:AH) (Q:VK):Prop :=
 mk (gD x1) H fun v1 H1=>dC [(.int .i64 0),(.int .u16 0)] H1 fun v2 H2=>opt (aL 2 v1 H2) fun v3=>E.call (E.fid i.f117) [x0,v3,x2] H2 fun v4 H3=>opt (ext v4 0) fun v5=>opt (ext v4 1) fun v6=>dC [(.pointer none),(.int .i64 0),(.int .u16 0),(.slice none 0 0),(.int .i64 0)] H3 fun v7 H4=>opt (storeN 5 v7 v5 H4) fun H5=>opt (aA .neq v6 (.int .i64 0)) fun v8=>ifB v8 (
 opt (bN [(0,1),(1,1)] #[(.int .i64 0),(.int .u16 0)] []) fun v9=>opt (storeN 2 v2 v9 H5) fun H6=>opt (aL 2 v2 H6) fun v10=>Q (.tuple #[v10,v6]) H6) (
 E.call (E.fid i.f99) [x2,(.string ⟨#[47]⟩)] H5 fun v11 H7=>aT (fun l H X0=>F.f113_l1 E Q (nth l 0) (nth l 1) (nth l 2) (nth l 3) (nth l 4) H X0) [x0,x3,v2,v7,v11] H7)

def F.f52 (E:Sy) (x0:Value) (H:AH) (Q:VK):Prop :=
 opt (bN [(0,1),(1,1),(2,1),(3,1),(4,1),(5,1),(6,1)] #[(.int .i64 0),(.slice none 0 0),(.slice none 0 0),(.int .i64 0),(.string ⟨#[]⟩),(.int .i64 0),(.int .i64 0)] []) fun v1=>opt (bN [(0,1),(1,1),(2,1),(3,1),(4,1),(5,1),(6,1)] #[(.int .i64 0),(.slice none 0 0),(.slice none 0 0),(.int .i64 0),(.string ⟨#[]⟩),(.int .i64 0),(.int .i64 0)] [(0,(.int .i64 2)),(3,(.int .i64 1)),(5,(.int .i64 1))]) fun v2=>mk (buildS 2 7 #[(.int .i64 0),(.slice none 0 0),(.slice none 0 0),(.int .i64 0),(.string ⟨#[]⟩),(.int .i64 0),(.int .i64 0)] [(0,v1),(1,v2)]) H fun v3 H1=>opt (iY max2 [x0,(.int .i64 1)]) fun v4=>opt (iY min2 [v4,(.int .i64 256)]) fun v5=>opt (bN [(0,1),(1,1),(2,2),(4,1)] #[(.int .i64 0),(.int .i64 0),(.int .i64 0),(.int .i64 0),(.int .i64 0)] [(1,(.int .i64 1))]) fun v6=>mk (buildS 1 5 #[(.int .i64 0),(.int .i64 0),(.int .i64 0),(.int .i64 0),(.int .i64 0)] [(0,v6)]) H1 fun v7 H2=>opt (bN [(0,1),(1,1),(2,1),(3,1),(4,1)] #[(.slice none 0 0),(.int .i64 0),(.slice none 0 0),(.int .i64 0),(.int .i64 0)] [(0,v3),(1,v5),(2,v7),(3,(.int .i64 1))]) fun v8=>mk (gD v8) H2 fun v9 H3=>Q v9 H3

def F.f48_j2 (E:Sy) (Q:VK) (X0:LK) (t0 t1 t8 t15 t16 t17:Value) (H:AH):Prop :=
 opt (aG t0) fun v1=>opt (aB v1 0) fun v2=>opt (aC v2 H) fun v3=>opt (aL 10 t8 H) fun v4=>E.call (E.fid i.f42) [v3,t1,v4] H fun v5 H1=>opt (aA .add t17 (.int .i64 1)) fun v6=>X0 [t0,t1,t15,t16,v6] H1
def F.f48_j1 (E:Sy) (Q:VK) (X0:LK) (t0 t1 t7 t8 t15 t16 t17:Value) (H:AH):Prop :=
 opt (aB t8 0) fun v1=>opt (aC v1 H) fun v2=>opt (aA .rem v2 (.int .u8 15)) fun v3=>opt (aA .eql v3 (.int .u8 3)) fun v4=>ifB v4 (
 opt (aB t7 13) fun v5=>opt (aC v5 H) fun v6=>opt (bQ .i64 v6) fun v7=>E.call (E.fid i.f50) [] H fun v8 H1=>aC v5 H1=aC v5 H /\
 E.call (E.fid i.f50) [] H1 fun v9 H2=>aC v5 H2=aC v5 H /\
 opt (lenSlc v9) fun v10=>opt (aA .rem v7 v10) fun v11=>opt (aM 1 v8 v11) fun v12=>opt (aC v12 H2) fun v13=>opt (aB t8 5) fun v14=>opt (aR v14 v13 H2) fun H3=>F.f48_j2 E Q X0 t0 t1 t8 t15 t16 t17 H3) (
 F.f48_j2 E Q X0 t0 t1 t8 t15 t16 t17 H)
def F.f48_l2 (E:Sy) (Q:VK) (X0:LK) (t0 t1 t15 t16 t17 t104 t105 t106:Value) (H:AH) (X1:LK):Prop :=
 opt (aA .lss t106 t105) fun v1=>ifB v1 (
 opt (aM 1 t104 t106) fun v2=>opt (aC v2 H) fun v3=>opt (aG t0) fun v4=>opt (aB v4 0) fun v5=>opt (aC v5 H) fun v6=>opt (bQ .u16 v3) fun v7=>E.call (E.fid i.f10) [v6,v7,(.bool true)] H fun v8 H1=>E.call (E.fid i.f61) [t1,v3,(.bool true)] H1 fun v9 H2=>opt (aA .add t106 (.int .i64 1)) fun v10=>X1 [t0,t1,t15,t16,t17,t104,t105,v10] H2) (
 opt (aA .add t17 (.int .i64 1)) fun v11=>X0 [t0,t1,t15,t16,v11] H)
def F.f48_l1 (E:Sy) (Q:VK) (t0 t1 t15 t16 t17:Value) (H:AH) (X0:LK):Prop :=
 opt (aA .lss t17 t16) fun v1=>ifB v1 (
 opt (aM 14 t15 t17) fun v2=>opt (aL 14 v2 H) fun v3=>dC [(.int .u8 0),(.int .u8 0),(.int .u8 0),(.int .u8 0),(.int .u8 0),(.int .u8 0),(.string ⟨#[]⟩),(.int .i64 0),(.slice none 0 0),(.bool false),(.bool false),(.int .u8 0),(.int .u8 0),(.int .u8 0)] H fun v4 H1=>opt (storeN 14 v4 v3 H1) fun H2=>opt (aA .geq t17 (.int .i64 60)) fun v5=>ifB v5 (
 Q (.tuple #[]) H2) (
 opt (aB v4 0) fun v6=>opt (aC v6 H2) fun v7=>opt (aA .rem v7 (.int .u8 12)) fun v8=>opt (aA .lss v8 (.int .u8 10)) fun v9=>ifB v9 (
 opt (aB v4 1) fun v10=>opt (aL 10 v10 H2) fun v11=>dC [(.int .u8 0),(.int .u8 0),(.int .u8 0),(.int .u8 0),(.int .u8 0),(.string ⟨#[]⟩),(.int .i64 0),(.slice none 0 0),(.bool false),(.bool false)] H2 fun v12 H3=>opt (storeN 10 v12 v11 H3) fun H4=>opt (aB v12 9) fun v13=>opt (aR v13 (.bool false) H4) fun H5=>opt (aB v12 0) fun v14=>opt (aC v14 H5) fun v15=>opt (aA .rem v15 (.int .u8 15)) fun v16=>opt (aA .eql v16 (.int .u8 11)) fun v17=>ifB v17 (
 opt (aB v12 8) fun v18=>opt (aR v18 (.bool true) H5) fun H6=>F.f48_j1 E Q X0 t0 t1 v4 v12 t15 t16 t17 H6) (
 F.f48_j1 E Q X0 t0 t1 v4 v12 t15 t16 t17 H5)) (
 opt (aB v4 11) fun v19=>opt (aC v19 H2) fun v20=>opt (bQ .i64 v20) fun v21=>opt (aA .rem v21 (.int .i64 8)) fun v22=>opt (aA .add (.int .i64 1) v22) fun v23=>opt (aB v4 13) fun v24=>opt (aC v24 H2) fun v25=>opt (aA .rem v25 (.int .u8 3)) fun v26=>opt (bQ .i64 v26) fun v27=>opt (aB v4 12) fun v28=>opt (aC v28 H2) fun v29=>opt (aA .rem v29 (.int .u8 8)) fun v30=>opt (aA .add (.int .u8 1) v30) fun v31=>opt (bQ .u16 v31) fun v32=>opt (bN [(0,1),(1,1)] #[(.int .i64 0),(.int .u16 0)] [(0,v27),(1,v32)]) fun v33=>dC [(.int .i64 0),(.int .u16 0)] H2 fun v34 H7=>opt (storeN 2 v34 v33 H7) fun H8=>opt (bQ .u16 v23) fun v35=>opt (bN [(0,1),(1,1)] #[(.int .i64 0),(.int .u16 0)] [(1,v35)]) fun v36=>E.call (E.fid i.f112) [t0,v36] H8 fun v37 H9=>gd v37 true (fun k=>k t0 H9) H9 fun v38 H10=>gd v37 true (fun k=>opt (aL 2 v34 H10) fun v=>k v H10) H10 fun v39 H11=>gd v37 true (fun k=>E.call (E.fid i.f112) [v38,v39] H11 fun v h=>k v h) H11 fun v40 H12=>opt (pick v37 v40 (.bool false)) fun v41=>ifB v41 (
 opt (aG t0) fun v42=>opt (aB v42 1) fun v43=>opt (aC v43 H12) fun v44=>opt (bQ .u16 v23) fun v45=>opt (aL 2 v34 H12) fun v46=>E.call (E.fid i.f34) [v44,v45,v46] H12 fun v47 H13=>opt (ext v47 0) fun v48=>opt (ext v47 1) fun v49=>opt (aA .eql v49 (.int .i64 0)) fun v50=>ifB v50 (
 opt (aL 2 v34 H13) fun v51=>E.call (E.fid i.f44) [v51] H13 fun v52 H14=>E.call (E.fid i.f56) [t1,v23,v52] H14 fun v53 H15=>opt (aB v34 1) fun v54=>opt (aC v54 H15) fun v55=>opt (bQ .i64 v55) fun v56=>mk (buildS 2 1 #[(.int .i64 0)] [(0,v23),(1,v56)]) H15 fun v57 H16=>opt (lenSlc v57) fun v58=>aT (fun l H X1=>F.f48_l2 E Q X0 (nth l 0) (nth l 1) (nth l 2) (nth l 3) (nth l 4) (nth l 5) (nth l 6) (nth l 7) H X1) [t0,t1,t15,t16,t17,v57,v58,(.int .i64 0)] H16) (
 opt (aA .add t17 (.int .i64 1)) fun v59=>X0 [t0,t1,t15,t16,v59] H13)) (
 opt (aA .add t17 (.int .i64 1)) fun v60=>X0 [t0,t1,t15,t16,v60] H12)))) (
 Q (.tuple #[]) H)
def F.f48 (E:Sy) (x0 x1 x2:Value) (H:AH) (Q:VK):Prop :=
 opt (lenSlc x2) fun v1=>aT (fun l H X0=>F.f48_l1 E Q (nth l 0) (nth l 1) (nth l 2) (nth l 3) (nth l 4) H X0) [x0,x1,x2,v1,(.int .i64 0)] H

def F.f35 (E:Sy) (x0 x1:Value) (H:AH) (Q:VK):Prop :=
 mk (gD x1) H fun v1 H1=>dC [(.int .i64 0),(.int .u16 0)] H1 fun v2 H2=>opt (aB v1 0) fun v3=>opt (aC v3 H2) fun v4=>E.call (E.fid i.f36) [x0,v4] H2 fun v5 H3=>opt (ext v5 0) fun v6=>opt (ext v5 1) fun v7=>dC [(.int .i64 0),(.int .i64 0),(.int .u16 0),(.int .u16 0),(.int .i64 0)] H3 fun v8 H4=>opt (storeN 5 v8 v6 H4) fun H5=>opt (un .not v7) fun v9=>gd v9 false (fun k=>opt (aB v8 0) fun v=>k v H5) H5 fun v10 H6=>gd v9 false (fun k=>opt (aC v10 H6) fun v=>k v H6) H6 fun v11 H7=>gd v9 false (fun k=>opt (aA .eql v11 (.int .i64 0)) fun v=>k v H7) H7 fun v12 H8=>opt (pick v9 (.bool true) v12) fun v13=>gd v13 false (fun k=>opt (aB v8 3) fun v=>k v H8) H8 fun v14 H9=>gd v13 false (fun k=>opt (aC v14 H9) fun v=>k v H9) H9 fun v15 H10=>gd v13 false (fun k=>opt (aB v1 1) fun v=>k v H10) H10 fun v16 H11=>gd v13 false (fun k=>opt (aC v16 H11) fun v=>k v H11) H11 fun v17 H12=>gd v13 false (fun k=>opt (aA .neq v15 v17) fun v=>k v H12) H12 fun v18 H13=>opt (pick v13 (.bool true) v18) fun v19=>ifB v19 (
 opt (bN [(0,1),(1,1)] #[(.int .i64 0),(.int .u16 0)] []) fun v20=>opt (storeN 2 v2 v20 H13) fun H14=>opt (aL 2 v2 H14) fun v21=>Q (.tuple #[v21,(.bool false)]) H14) (
 opt (aB v8 1) fun v22=>opt (aL 2 v22 H13) fun v23=>opt (storeN 2 v2 v23 H13) fun H15=>opt (aL 2 v2 H15) fun v24=>Q (.tuple #[v24,(.bool true)]) H15)

def F.f9 (E:Sy) (x0 x1:Value) (H:AH) (Q:VK):Prop :=
 opt (cQ eI .eql x0 (.pointer none)) fun v1=>ifB v1 (
 Q (.pointer none) H) (
 opt (aG x0) fun v2=>opt (aB v2 0) fun v3=>opt (aC v3 H) fun v4=>opt (look 0 (.pointer none) false v4 x1 H) fun v5=>Q v5 H)

def F.f59 (E:Sy) (x0 x1:Value) (H:AH) (Q:VK):Prop :=
 mk (gD x1) H fun v1 H1=>dC [(.int .i64 0),(.int .i64 0)] H1 fun v2 H2=>opt (aB v1 0) fun v3=>opt (aC v3 H2) fun v4=>E.call (E.fid i.f74) [x0,v4] H2 fun v5 H3=>opt (aA .lss v5 (.int .i64 0)) fun v6=>gd v6 false (fun k=>opt (aB v1 0) fun v=>k v H3) H3 fun v7 H4=>gd v6 false (fun k=>opt (aC v7 H4) fun v=>k v H4) H4 fun v8 H5=>gd v6 false (fun k=>opt (aA .eql v8 (.int .i64 0)) fun v=>k v H5) H5 fun v9 H6=>opt (pick v6 (.bool true) v9) fun v10=>gd v10 false (fun k=>k x0 H6) H6 fun v11 H7=>gd v10 false (fun k=>opt (aG v11) fun v=>k v H7) H7 fun v12 H8=>gd v10 false (fun k=>opt (aB v12 2) fun v=>k v H8) H8 fun v13 H9=>gd v10 false (fun k=>opt (aC v13 H9) fun v=>k v H9) H9 fun v14 H10=>gd v10 false (fun k=>k v5 H10) H10 fun v15 H11=>gd v10 false (fun k=>opt (aM 5 v14 v15) fun v=>k v H11) H11 fun v16 H12=>gd v10 false (fun k=>opt (aB v16 1) fun v=>k v H12) H12 fun v17 H13=>gd v10 false (fun k=>opt (aC v17 H13) fun v=>k v H13) H13 fun v18 H14=>gd v10 false (fun k=>opt (aB v1 1) fun v=>k v H14) H14 fun v19 H15=>gd v10 false (fun k=>opt (aC v19 H15) fun v=>k v H15) H15 fun v20 H16=>gd v10 false (fun k=>opt (aA .neq v18 v20) fun v=>k v H16) H16 fun v21 H17=>opt (pick v10 (.bool true) v21) fun v22=>ifB v22 (
 opt (bN [(0,1),(1,1)] #[(.int .i64 0),(.int .i64 0)] []) fun v23=>opt (storeN 2 v2 v23 H17) fun H18=>opt (aL 2 v2 H18) fun v24=>Q (.tuple #[v24,(.bool false)]) H18) (
 opt (aG x0) fun v25=>opt (aB v25 2) fun v26=>opt (aC v26 H17) fun v27=>opt (aM 5 v27 v5) fun v28=>opt (aB v28 2) fun v29=>opt (aL 2 v29 H17) fun v30=>opt (storeN 2 v2 v30 H17) fun H19=>opt (aL 2 v2 H19) fun v31=>Q (.tuple #[v31,(.bool true)]) H19)

def F.f66 (E:Sy) (x0 x1:Value) (H:AH) (Q:VK):Prop :=
 opt (aA .lss x1 (.int .i64 0)) fun v1=>gd v1 false (fun k=>k x1 H) H fun v2 H1=>gd v1 false (fun k=>k x0 H1) H1 fun v3 H2=>gd v1 false (fun k=>opt (aG v3) fun v=>k v H2) H2 fun v4 H3=>gd v1 false (fun k=>opt (aB v4 0) fun v=>k v H3) H3 fun v5 H4=>gd v1 false (fun k=>opt (aC v5 H4) fun v=>k v H4) H4 fun v6 H5=>gd v1 false (fun k=>opt (lenSlc v6) fun v=>k v H5) H5 fun v7 H6=>gd v1 false (fun k=>opt (aA .geq v2 v7) fun v=>k v H6) H6 fun v8 H7=>opt (pick v1 (.bool true) v8) fun v9=>ifB v9 (
 opt (bN [(0,1),(1,1),(2,1),(3,1),(4,1),(5,1),(6,1)] #[(.int .i64 0),(.slice none 0 0),(.slice none 0 0),(.int .i64 0),(.string ⟨#[]⟩),(.int .i64 0),(.int .i64 0)] []) fun v10=>mk (gD v10) H7 fun v11 H8=>Q v11 H8) (
 opt (aG x0) fun v12=>opt (aB v12 0) fun v13=>opt (aC v13 H7) fun v14=>opt (aM 7 v14 x1) fun v15=>Q v15 H7)

def F.f116_l1 (E:Sy) (Q:VK) (t0 t1 t2 t23 t24 t25:Value) (H:AH) (X0:LK):Prop :=
 opt (aA .lss t25 t24) fun v1=>ifB v1 (
 opt (aM 1 t23 t25) fun v2=>opt (aC v2 H) fun v3=>opt (aG t0) fun v4=>opt (aB v4 0) fun v5=>opt (aC v5 H) fun v6=>E.call (E.fid i.f11) [v6,t1,v3] H fun v7 H1=>opt (ext v7 0) fun v8=>opt (ext v7 1) fun v9=>opt (aA .eql v8 t2) fun v10=>ifB v10 (
 Q (.tuple #[v3,(.bool true)]) H1) (
 opt (aA .add t25 (.int .i64 1)) fun v11=>X0 [t0,t1,t2,t23,t24,v11] H1)) (
 Q (.tuple #[(.string ⟨#[]⟩),(.bool false)]) H)
def F.f116 (E:Sy) (x0 x1 x2:Value) (H:AH) (Q:VK):Prop :=
 opt (aG x0) fun v1=>opt (aB v1 0) fun v2=>opt (aC v2 H) fun v3=>E.call (E.fid i.f8) [v3,x1] H fun v4 H1=>opt (ext v4 0) fun v5=>opt (ext v4 1) fun v6=>opt (lenSlc v5) fun v7=>aT (fun l H X0=>F.f116_l1 E Q (nth l 0) (nth l 1) (nth l 2) (nth l 3) (nth l 4) (nth l 5) H X0) [x0,x1,x2,v5,v7,(.int .i64 0)] H1

def F.f53 (E:Sy) (H:AH) (Q:VK):Prop :=
 dC [(.int .i64 0),(.int .i64 0)] H fun v1 H1=>opt (bN [(0,1),(1,1)] #[(.int .i64 0),(.int .i64 0)] [(0,(.int .i64 0)),(1,(.int .i64 1))]) fun v2=>opt (storeN 2 v1 v2 H1) fun H2=>opt (aL 2 v1 H2) fun v3=>Q v3 H2

def F.f118 (E:Sy) (x0:Value) (H:AH) (Q:VK):Prop :=
 opt (cQ eI .neq x0 (.pointer none)) fun v1=>gd v1 true (fun k=>k x0 H) H fun v2 H1=>gd v1 true (fun k=>opt (aG v2) fun v=>k v H1) H1 fun v3 H2=>gd v1 true (fun k=>opt (aB v3 0) fun v=>k v H2) H2 fun v4 H3=>gd v1 true (fun k=>opt (aC v4 H3) fun v=>k v H3) H3 fun v5 H4=>gd v1 true (fun k=>opt (cQ eI .neq v5 (.pointer none)) fun v=>k v H4) H4 fun v6 H5=>opt (pick v1 v6 (.bool false)) fun v7=>gd v7 true (fun k=>k x0 H5) H5 fun v8 H6=>gd v7 true (fun k=>opt (aG v8) fun v=>k v H6) H6 fun v9 H7=>gd v7 true (fun k=>opt (aB v9 1) fun v=>k v H7) H7 fun v10 H8=>gd v7 true (fun k=>opt (aC v10 H8) fun v=>k v H8) H8 fun v11 H9=>gd v7 true (fun k=>opt (cQ eI .neq v11 (.pointer none)) fun v=>k v H9) H9 fun v12 H10=>opt (pick v7 v12 (.bool false)) fun v13=>Q v13 H10

def F.f36 (E:Sy) (x0 x1:Value) (H:AH) (Q:VK):Prop :=
 dC [(.int .i64 0),(.int .i64 0),(.int .u16 0),(.int .u16 0),(.int .i64 0)] H fun v1 H1=>E.call (E.fid i.f39) [x0,x1] H1 fun v2 H2=>opt (aA .lss v2 (.int .i64 0)) fun v3=>ifB v3 (
 opt (bN [(0,1),(1,2),(3,1),(4,1)] #[(.int .i64 0),(.int .i64 0),(.int .u16 0),(.int .u16 0),(.int .i64 0)] []) fun v4=>opt (storeN 5 v1 v4 H2) fun H3=>opt (aL 5 v1 H3) fun v5=>Q (.tuple #[v5,(.bool false)]) H3) (
 opt (aG x0) fun v6=>opt (aB v6 0) fun v7=>opt (aC v7 H2) fun v8=>opt (aM 5 v8 v2) fun v9=>opt (aL 5 v9 H2) fun v10=>opt (storeN 5 v1 v10 H2) fun H4=>opt (aL 5 v1 H4) fun v11=>Q (.tuple #[v11,(.bool true)]) H4)

def F.f74_l1 (E:Sy) (Q:VK) (t0 t1 t5:Value) (H:AH) (X0:LK):Prop :=
 opt (aG t0) fun v1=>opt (aB v1 2) fun v2=>opt (aC v2 H) fun v3=>opt (lenSlc v3) fun v4=>opt (aA .lss t5 v4) fun v5=>ifB v5 (
 opt (aG t0) fun v6=>opt (aB v6 2) fun v7=>opt (aC v7 H) fun v8=>opt (aM 5 v8 t5) fun v9=>opt (aB v9 0) fun v10=>opt (aC v10 H) fun v11=>opt (aA .eql v11 t1) fun v12=>ifB v12 (
 Q t5 H) (
 opt (aA .add t5 (.int .i64 1)) fun v13=>X0 [t0,t1,v13] H)) (
 Q (.int .i64 (-1)) H)
def F.f74 (E:Sy) (x0 x1:Value) (H:AH) (Q:VK):Prop :=
 aT (fun l H X0=>F.f74_l1 E Q (nth l 0) (nth l 1) (nth l 2) H X0) [x0,x1,(.int .i64 0)] H

def F.f37_l1 (E:Sy) (Q:VK) (t0 t3 t4:Value) (H:AH) (X0:LK):Prop :=
 opt (aG t0) fun v1=>opt (aB v1 0) fun v2=>opt (aC v2 H) fun v3=>opt (some (.func (.func (E.fid i.f38)) #[] #[t3])) fun v4=>E.call (E.fid i.f81) [v3,v4] H fun v5 H1=>opt (aA .lss v5 (.int .i64 0)) fun v6=>ifB v6 (
 opt (aL 2 t3 H1) fun v7=>opt (storeN 2 t4 v7 H1) fun H2=>opt (aL 2 t4 H2) fun v8=>Q v8 H2) (
 opt (aG t0) fun v9=>opt (aB v9 0) fun v10=>opt (aC v10 H1) fun v11=>opt (aM 5 v11 v5) fun v12=>opt (aB v12 0) fun v13=>opt (aC v13 H1) fun v14=>opt (aG t0) fun v15=>opt (aB v15 0) fun v16=>opt (aC v16 H1) fun v17=>opt (aM 5 v17 v5) fun v18=>opt (aB v18 3) fun v19=>opt (aC v19 H1) fun v20=>opt (bN [(0,1),(1,1)] #[(.int .i64 0),(.int .u16 0)] [(0,v14),(1,v20)]) fun v21=>opt (storeN 2 t3 v21 H1) fun H3=>X0 [t0,t3,t4] H3)
def F.f37 (E:Sy) (x0 x1:Value) (H:AH) (Q:VK):Prop :=
 mk (gD x1) H fun v1 H1=>dC [(.int .i64 0),(.int .u16 0)] H1 fun v2 H2=>opt (cQ eI .eql x0 (.pointer none)) fun v3=>ifB v3 (
 opt (aL 2 v1 H2) fun v4=>opt (storeN 2 v2 v4 H2) fun H3=>opt (aL 2 v2 H3) fun v5=>Q v5 H3) (
 aT (fun l H X0=>F.f37_l1 E Q (nth l 0) (nth l 1) (nth l 2) H X0) [x0,v1,v2] H2)

def F.f68_l2 (E:Sy) (Q:VK) (X0:LK) (t0 t3 t4 t5 t6 t7:Value) (H:AH) (X1:LK):Prop :=
 opt (aG t0) fun v1=>opt (aB v1 2) fun v2=>opt (aC v2 H) fun v3=>opt (lenSlc v3) fun v4=>opt (aA .lss t7 v4) fun v5=>ifB v5 (
 opt (aG t0) fun v6=>opt (aB v6 2) fun v7=>opt (aC v7 H) fun v8=>opt (aM 5 v8 t7) fun v9=>opt (aB v9 0) fun v10=>opt (aC v10 H) fun v11=>opt (aA .neq v11 (.int .i64 0)) fun v12=>gd v12 true (fun k=>k t0 H) H fun v13 H1=>gd v12 true (fun k=>opt (aG v13) fun v=>k v H1) H1 fun v14 H2=>gd v12 true (fun k=>opt (aB v14 2) fun v=>k v H2) H2 fun v15 H3=>gd v12 true (fun k=>opt (aC v15 H3) fun v=>k v H3) H3 fun v16 H4=>gd v12 true (fun k=>k t7 H4) H4 fun v17 H5=>gd v12 true (fun k=>opt (aM 5 v16 v17) fun v=>k v H5) H5 fun v18 H6=>gd v12 true (fun k=>opt (aB v18 2) fun v=>k v H6) H6 fun v19 H7=>gd v12 true (fun k=>opt (aL 2 v19 H7) fun v=>k v H7) H7 fun v20 H8=>gd v12 true (fun k=>opt (aL 2 t3 H8) fun v=>k v H8) H8 fun v21 H9=>gd v12 true (fun k=>opt (dZ [0,0] .eql v20 v21) fun v=>k v H9) H9 fun v22 H10=>opt (pick v12 v22 (.bool false)) fun v23=>ifB v23 (
 opt (aA .add t7 (.int .i64 1)) fun v24=>X1 [t0,t3,t4,t5,t7,v24] H10) (
 opt (aA .add t7 (.int .i64 1)) fun v25=>X1 [t0,t3,t4,t5,t6,v25] H10)) (
 opt (aA .lss t6 (.int .i64 0)) fun v26=>ifB v26 (
 opt (aL 2 t3 H) fun v27=>opt (storeN 2 t4 v27 H) fun H11=>opt (aL 2 t4 H11) fun v28=>Q v28 H11) (
 opt (aG t0) fun v29=>opt (aB v29 2) fun v30=>opt (aC v30 H) fun v31=>opt (aM 5 v31 t6) fun v32=>opt (aB v32 0) fun v33=>opt (aC v33 H) fun v34=>opt (aG t0) fun v35=>opt (aB v35 2) fun v36=>opt (aC v36 H) fun v37=>opt (aM 5 v37 t6) fun v38=>opt (aB v38 1) fun v39=>opt (aC v39 H) fun v40=>opt (bN [(0,1),(1,1)] #[(.int .i64 0),(.int .i64 0)] [(0,v34),(1,v40)]) fun v41=>opt (storeN 2 t3 v41 H) fun H12=>opt (aA .add t5 (.int .i64 1)) fun v42=>X0 [t0,t3,t4,v42] H12))
def F.f68_l1 (E:Sy) (Q:VK) (t0 t3 t4 t5:Value) (H:AH) (X0:LK):Prop :=
 opt (aA .lss t5 (.int .i64 20)) fun v1=>ifB v1 (
 aT (fun l H X1=>F.f68_l2 E Q X0 (nth l 0) (nth l 1) (nth l 2) (nth l 3) (nth l 4) (nth l 5) H X1) [t0,t3,t4,t5,(.int .i64 (-1)),(.int .i64 0)] H) (
 opt (aL 2 t3 H) fun v2=>opt (storeN 2 t4 v2 H) fun H1=>opt (aL 2 t4 H1) fun v3=>Q v3 H1)
def F.f68 (E:Sy) (x0 x1:Value) (H:AH) (Q:VK):Prop :=
 mk (gD x1) H fun v1 H1=>dC [(.int .i64 0),(.int .i64 0)] H1 fun v2 H2=>aT (fun l H X0=>F.f68_l1 E Q (nth l 0) (nth l 1) (nth l 2) (nth l 3) H X0) [x0,v1,v2,(.int .i64 0)] H2

def F.f4 (E:Sy) (x0:Value) (H:AH) (Q:VK):Prop :=
 aHg H fun v1 H1=>opt (iY max2 [x0,(.int .i64 1)]) fun v2=>opt (iY min2 [v2,(.int .i64 256)]) fun v3=>opt (bN [(0,1),(1,1),(2,1)] #[(.map none),(.int .i64 0),(.int .i64 0)] [(0,v1),(1,v3)]) fun v4=>mk (gD v4) H1 fun v5 H2=>opt (aG v5) fun v6=>opt (aB v6 0) fun v7=>opt (aC v7 H2) fun v8=>aHg H2 fun v9 H3=>opt (bN [(0,1),(1,1),(2,1),(3,1),(4,1),(5,1),(6,1),(7,1)] #[(.int .u16 0),(.int .u8 0),(.slice none 0 0),(.map none),(.int .u16 0),(.string ⟨#[]⟩),(.int .i64 0),(.int .i64 0)] [(0,(.int .u16 1)),(1,(.int .u8 2)),(3,v9),(4,(.int .u16 1)),(6,(.int .i64 1))]) fun v10=>mk (gD v10) H3 fun v11 H4=>opt (setMap 0 v8 (.int .u16 1) v11 H4) fun H5=>Q v5 H5

def F.f33 (E:Sy) (H:AH) (Q:VK):Prop :=
 opt (bN [(0,1),(1,2),(3,1),(4,1)] #[(.int .i64 0),(.int .i64 0),(.int .u16 0),(.int .u16 0),(.int .i64 0)] [(2,(.int .u16 1))]) fun v1=>mk (buildS 1 5 #[(.int .i64 0),(.int .i64 0),(.int .u16 0),(.int .u16 0),(.int .i64 0)] [(0,v1)]) H fun v2 H1=>opt (bN [(0,1),(1,1)] #[(.slice none 0 0),(.int .i64 0)] [(0,v2),(1,(.int .i64 1))]) fun v3=>mk (gD v3) H1 fun v4 H2=>Q v4 H2

def F.f19 (E:Sy) (x0 x1 x2:Value) (H:AH) (Q:VK):Prop :=
 E.call (E.fid i.f17) [x0,x1] H fun v1 H1=>opt (ext v1 0) fun v2=>opt (ext v1 1) fun v3=>opt (aA .neq v3 (.int .i64 0)) fun v4=>ifB v4 (
 Q (.tuple #[(.pointer none),v3]) H1) (
 E.call (E.fid i.f2) [x2] H1 fun v5 H2=>opt (un .not v5) fun v6=>ifB v6 (
 Q (.tuple #[(.pointer none),(.int .i64 22)]) H2) (
 opt (aG v2) fun v7=>opt (aB v7 3) fun v8=>opt (aC v8 H2) fun v9=>opt (look 1 (.int .u16 0) true v9 x2 H2) fun v10=>opt (ext v10 0) fun v11=>opt (ext v10 1) fun v12=>ifB v12 (
 Q (.tuple #[(.pointer none),(.int .i64 17)]) H2) (
 opt (aG v2) fun v13=>opt (aB v13 6) fun v14=>opt (aC v14 H2) fun v15=>opt (aA .eql v15 (.int .i64 0)) fun v16=>ifB v16 (
 Q (.tuple #[(.pointer none),(.int .i64 2)]) H2) (
 opt (aG v2) fun v17=>opt (aB v17 3) fun v18=>opt (aC v18 H2) fun v19=>opt (iS v19 H2) fun v20=>opt (aA .geq v20 (.int .i64 32)) fun v21=>ifB v21 (
 Q (.tuple #[(.pointer none),(.int .i64 28)]) H2) (
 Q (.tuple #[v2,(.int .i64 0)]) H2)))))

def F.f16_l1 (E:Sy) (Q:VK) (t0 t1 t5:Value) (H:AH) (X0:LK):Prop :=
 opt (aA .neq t1 (.int .u16 1)) fun v1=>gd v1 true (fun k=>k t5 H) H fun v2 H1=>gd v1 true (fun k=>opt (aA .leq v2 (.int .i64 16)) fun v=>k v H1) H1 fun v3 H2=>opt (pick v1 v3 (.bool false)) fun v4=>ifB v4 (
 opt (aG t0) fun v5=>opt (aB v5 0) fun v6=>opt (aC v6 H2) fun v7=>opt (look 0 (.pointer none) false v7 t1 H2) fun v8=>opt (aG v8) fun v9=>opt (aB v9 4) fun v10=>opt (aC v10 H2) fun v11=>opt (aA .add t5 (.int .i64 1)) fun v12=>X0 [t0,v11,v12] H2) (
 Q t5 H2)
def F.f16 (E:Sy) (x0 x1:Value) (H:AH) (Q:VK):Prop :=
 aT (fun l H X0=>F.f16_l1 E Q (nth l 0) (nth l 1) (nth l 2) H X0) [x0,x1,(.int .i64 0)] H

def F.f108 (E:Sy) (x0 x1:Value) (H:AH) (Q:VK):Prop :=
 opt (aG x0) fun v1=>opt (aB v1 0) fun v2=>E.call (E.fid i.f107) [v2,x1] H fun v3 H1=>Q v3 H1

def F.f117_j1 (E:Sy) (Q:VK) (t2 t6 t8:Value) (H:AH):Prop :=
 E.call (E.fid i.f119) [t2] H fun v1 H1=>opt (aB t8 3) fun v2=>opt (aR v2 v1 H1) fun H2=>opt (aL 5 t8 H2) fun v3=>opt (storeN 5 t6 v3 H2) fun H3=>opt (aL 5 t6 H3) fun v4=>Q (.tuple #[v4,(.int .i64 0)]) H3
def F.f117 (E:Sy) (x0 x1 x2:Value) (H:AH) (Q:VK):Prop :=
 mk (gD x1) H fun v1 H1=>dC [(.pointer none),(.int .i64 0),(.int .u16 0),(.slice none 0 0),(.int .i64 0)] H1 fun v2 H2=>opt (aL 2 v1 H2) fun v3=>opt (bN [(0,1),(1,2),(3,1),(4,1)] #[(.pointer none),(.int .i64 0),(.int .u16 0),(.slice none 0 0),(.int .i64 0)] [(0,x0),(1,v3)]) fun v4=>dC [(.pointer none),(.int .i64 0),(.int .u16 0),(.slice none 0 0),(.int .i64 0)] H2 fun v5 H3=>opt (storeN 5 v5 v4 H3) fun H4=>E.call (E.fid i.f118) [x0] H4 fun v6 H5=>opt (un .not v6) fun v7=>ifB v7 (
 opt (aL 5 v5 H5) fun v8=>opt (storeN 5 v2 v8 H5) fun H6=>opt (aL 5 v2 H6) fun v9=>Q (.tuple #[v9,(.int .i64 201)]) H6) (
 opt (cK .eql x2 (.string ⟨#[]⟩)) fun v10=>ifB v10 (
 opt (aL 5 v5 H5) fun v11=>opt (storeN 5 v2 v11 H5) fun H7=>opt (aL 5 v2 H7) fun v12=>Q (.tuple #[v12,(.int .i64 2)]) H7) (
 opt (dS x2) fun v13=>opt (aA .gtr v13 (.int .i64 120)) fun v14=>ifB v14 (
 opt (aL 5 v5 H5) fun v15=>opt (storeN 5 v2 v15 H5) fun H8=>opt (aL 5 v2 H8) fun v16=>Q (.tuple #[v16,(.int .i64 36)]) H8) (
 opt (fU x2 (.int .i64 0)) fun v17=>opt (aA .eql v17 (.int .u8 47)) fun v18=>ifB v18 (
 opt (aG x0) fun v19=>opt (aB v19 1) fun v20=>opt (aC v20 H5) fun v21=>E.call (E.fid i.f41) [] H5 fun v22 H9=>aC v20 H9=aC v20 H5 /\
 E.call (E.fid i.f37) [v21,v22] H9 fun v23 H10=>opt (aB v5 1) fun v24=>opt (storeN 2 v24 v23 H10) fun H11=>F.f117_j1 E Q x2 v2 v5 H11) (
 F.f117_j1 E Q x2 v2 v5 H5))))

def F.f99 (E:Sy) (x0 x1:Value) (H:AH) (Q:VK):Prop :=
 E.call (E.fid i.f27) [x0,x1] H fun v1 H1=>Q v1 H1

def F.f121 (E:Sy) (x0 x1:Value) (H:AH) (Q:VK):Prop :=
 opt (aG x0) fun v1=>opt (aB v1 3) fun v2=>opt (aC v2 H) fun v3=>opt (aM 1 v3 (.int .i64 0)) fun v4=>opt (aC v4 H) fun v5=>opt (aG x0) fun v6=>opt (aB v6 3) fun v7=>opt (aC v7 H) fun v8=>opt (eJ 1 v8 (some (.int .i64 1)) none none H) fun v9=>opt (aG x0) fun v10=>opt (aB v10 3) fun v11=>opt (aR v11 v9 H) fun H1=>opt (aG x0) fun v12=>opt (aB v12 0) fun v13=>opt (aC v13 H1) fun v14=>opt (aG x0) fun v15=>opt (aB v15 1) fun v16=>opt (aL 2 v16 H1) fun v17=>E.call (E.fid i.f112) [v14,v17] H1 fun v18 H2=>opt (un .not v18) fun v19=>ifB v19 (
 Q (.int .i64 20) H2) (
 opt (cK .eql v5 (.string ⟨#[46,46]⟩)) fun v20=>ifB v20 (
 opt (aG x0) fun v21=>opt (aB v21 0) fun v22=>opt (aC v22 H2) fun v23=>opt (aG x0) fun v24=>opt (aB v24 1) fun v25=>opt (aL 2 v25 H2) fun v26=>E.call (E.fid i.f115) [v23,v26] H2 fun v27 H3=>opt (aG x0) fun v28=>opt (aB v28 1) fun v29=>opt (storeN 2 v29 v27 H3) fun H4=>opt (aG x0) fun v30=>opt (aB v30 0) fun v31=>opt (aC v31 H4) fun v32=>opt (aG v32) fun v33=>opt (aB v33 0) fun v34=>opt (aC v34 H4) fun v35=>opt (aG x0) fun v36=>opt (aB v36 1) fun v37=>opt (aB v37 1) fun v38=>opt (aC v38 H4) fun v39=>E.call (E.fid i.f9) [v35,v39] H4 fun v40 H5=>opt (cQ eI .neq v40 (.pointer none)) fun v41=>gd v41 true (fun k=>k x0 H5) H5 fun v42 H6=>gd v41 true (fun k=>opt (aG v42) fun v=>k v H6) H6 fun v43 H7=>gd v41 true (fun k=>opt (aB v43 0) fun v=>k v H7) H7 fun v44 H8=>gd v41 true (fun k=>opt (aC v44 H8) fun v=>k v H8) H8 fun v45 H9=>gd v41 true (fun k=>k x0 H9) H9 fun v46 H10=>gd v41 true (fun k=>opt (aG v46) fun v=>k v H10) H10 fun v47 H11=>gd v41 true (fun k=>opt (aB v47 1) fun v=>k v H11) H11 fun v48 H12=>gd v41 true (fun k=>opt (aL 2 v48 H12) fun v=>k v H12) H12 fun v49 H13=>gd v41 true (fun k=>E.call (E.fid i.f112) [v45,v49] H13 fun v h=>k v h) H13 fun v50 H14=>gd v41 true (fun k=>opt (un .not v50) fun v=>k v H14) H14 fun v51 H15=>opt (pick v41 v51 (.bool false)) fun v52=>ifB v52 (
 Q (.int .i64 2) H15) (
 Q (.int .i64 0) H15)) (
 opt (dS v5) fun v53=>opt (aA .gtr v53 (.int .i64 14)) fun v54=>ifB v54 (
 Q (.int .i64 36) H2) (
 opt (aG x0) fun v55=>opt (aB v55 0) fun v56=>opt (aC v56 H2) fun v57=>opt (aG v57) fun v58=>opt (aB v58 0) fun v59=>opt (aC v59 H2) fun v60=>opt (aG x0) fun v61=>opt (aB v61 1) fun v62=>opt (aB v62 1) fun v63=>opt (aC v63 H2) fun v64=>E.call (E.fid i.f11) [v60,v64,v5] H2 fun v65 H16=>opt (ext v65 0) fun v66=>opt (ext v65 1) fun v67=>opt (aA .neq v67 (.int .i64 0)) fun v68=>ifB v68 (
 Q v67 H16) (
 opt (aG x0) fun v69=>opt (aB v69 0) fun v70=>opt (aC v70 H16) fun v71=>opt (aG v71) fun v72=>opt (aB v72 0) fun v73=>opt (aC v73 H16) fun v74=>E.call (E.fid i.f9) [v74,v66] H16 fun v75 H17=>opt (aG v75) fun v76=>opt (aB v76 1) fun v77=>opt (aC v77 H17) fun v78=>opt (aA .eql v78 (.int .u8 3)) fun v79=>gd v79 true (fun k=>k x1 H17) H17 fun v80 H18=>gd v79 true (fun k=>k v80 H18) H18 fun v81 H19=>gd v81 false (fun k=>k x0 H19) H19 fun v82 H20=>gd v81 false (fun k=>opt (aG v82) fun v=>k v H20) H20 fun v83 H21=>gd v81 false (fun k=>opt (aB v83 3) fun v=>k v H21) H21 fun v84 H22=>gd v81 false (fun k=>opt (aC v84 H22) fun v=>k v H22) H22 fun v85 H23=>gd v81 false (fun k=>opt (lenSlc v85) fun v=>k v H23) H23 fun v86 H24=>gd v81 false (fun k=>opt (aA .gtr v86 (.int .i64 0)) fun v=>k v H24) H24 fun v87 H25=>gd v79 true (fun k=>opt (pick v81 (.bool true) v87) fun v=>k v H25) H25 fun v88 H26=>opt (pick v79 v88 (.bool false)) fun v89=>ifB v89 (
 opt (aG v75) fun v90=>opt (aB v90 5) fun v91=>opt (aC v91 H26) fun v92=>E.call (E.fid i.f120) [x0,v92] H26 fun v93 H27=>Q v93 H27) (
 opt (aG x0) fun v94=>opt (aB v94 1) fun v95=>opt (aB v95 0) fun v96=>opt (aC v96 H26) fun v97=>opt (bN [(0,1),(1,1)] #[(.int .i64 0),(.int .u16 0)] [(0,v97),(1,v66)]) fun v98=>opt (aG x0) fun v99=>opt (aB v99 1) fun v100=>opt (storeN 2 v100 v98 H26) fun H28=>opt (aG v75) fun v101=>opt (aB v101 1) fun v102=>opt (aC v102 H28) fun v103=>opt (aA .eql v103 (.int .u8 2)) fun v104=>ifB v104 (
 opt (aG x0) fun v105=>opt (aB v105 0) fun v106=>opt (aC v106 H28) fun v107=>opt (aG v107) fun v108=>opt (aB v108 1) fun v109=>opt (aC v109 H28) fun v110=>opt (aG x0) fun v111=>opt (aB v111 1) fun v112=>opt (aL 2 v112 H28) fun v113=>E.call (E.fid i.f37) [v110,v113] H28 fun v114 H29=>opt (aG x0) fun v115=>opt (aB v115 1) fun v116=>opt (storeN 2 v116 v114 H29) fun H30=>Q (.int .i64 0) H30) (
 Q (.int .i64 0) H28))))))

def F.f50 (E:Sy) (H:AH) (Q:VK):Prop :=
 mk (buildS 12 1 #[(.string ⟨#[]⟩)] [(0,(.string ⟨#[97]⟩)),(1,(.string ⟨#[47,97]⟩)),(2,(.string ⟨#[46,46,47,98]⟩)),(3,(.string ⟨#[98,47,99]⟩)),(4,(.string ⟨#[47]⟩)),(5,(.string ⟨#[46]⟩)),(6,(.string ⟨#[46,46]⟩)),(7,(.string ⟨#[47,98,47,46,46,47,97]⟩)),(8,(.string ⟨#[102]⟩)),(9,(.string ⟨#[97,47]⟩)),(10,(.string ⟨#[110,111,116,104,105,110,103]⟩)),(11,(.string ⟨#[47,97,47,98,47,99]⟩))]) H fun v1 H1=>Q v1 H1

def F.f42_j1 (E:Sy) (Q:VK) (t0 t1 t5 t7 t8 t9 t10:Value) (H:AH):Prop :=
 opt (bQ .u16 t7) fun v1=>opt (bQ .u16 t8) fun v2=>opt (aB t5 0) fun v3=>opt (aC v3 H) fun v4=>opt (aA .rem v4 (.int .u8 15)) fun v5=>opt (aA .lss v5 (.int .u8 5)) fun v6=>ifB v6 (
 opt (aB t5 4) fun v7=>opt (aC v7 H) fun v8=>mk (buildS 5 1 #[(.int .u8 0)] [(0,(.int .u8 1)),(1,(.int .u8 2)),(2,(.int .u8 2)),(3,(.int .u8 3)),(4,v8)]) H fun v9 H1=>opt (aM 1 v9 v5) fun v10=>opt (aC v10 H1) fun v11=>opt (aB t5 5) fun v12=>opt (aC v12 H1) fun v13=>E.call (E.fid i.f12) [t0,v1,t9,v11,v13] H1 fun v14 H2=>opt (ext v14 0) fun v15=>opt (ext v14 1) fun v16=>opt (bQ .i64 v11) fun v17=>opt (aB t5 5) fun v18=>opt (aC v18 H2) fun v19=>E.call (E.fid i.f64) [t1,t7,t9,v17,v19] H2 fun v20 H3=>opt (ext v20 0) fun v21=>opt (ext v20 1) fun v22=>opt (bQ .i64 v15) fun v23=>opt (aA .eql v23 v21) fun v24=>gd v24 true (fun k=>k v16 H3) H3 fun v25 H4=>gd v24 true (fun k=>k v22 H4) H4 fun v26 H5=>gd v24 true (fun k=>opt (aA .eql v25 v26) fun v=>k v H5) H5 fun v27 H6=>opt (pick v24 v27 (.bool false)) fun v28=>Q v28 H6) (
 opt (aA .eql v5 (.int .u8 5)) fun v29=>ifB v29 (
 E.call (E.fid i.f5) [t0,v1,t9,v2] H fun v30 H7=>E.call (E.fid i.f55) [t1,t7,t9,t8] H7 fun v31 H8=>opt (aA .eql v30 v31) fun v32=>Q v32 H8) (
 opt (aA .lss v5 (.int .u8 8)) fun v33=>ifB v33 (
 opt (aB t5 8) fun v34=>opt (aC v34 H) fun v35=>opt (aB t5 8) fun v36=>opt (aC v36 H) fun v37=>E.call (E.fid i.f7) [t0,v1,t9,v35] H fun v38 H9=>aC v36 H9=aC v36 H /\
 E.call (E.fid i.f60) [t1,t7,t9,v37] H9 fun v39 H10=>opt (aA .eql v38 v39) fun v40=>Q v40 H10) (
 opt (aA .lss v5 (.int .u8 11)) fun v41=>ifB v41 (
 E.call (E.fid i.f13) [t0,v1,t9,v2,t10] H fun v42 H11=>E.call (E.fid i.f65) [t1,t7,t9,t8,t10] H11 fun v43 H12=>opt (aA .eql v42 v43) fun v44=>Q v44 H12) (
 opt (aA .eql v5 (.int .u8 11)) fun v45=>ifB v45 (
 opt (aB t5 8) fun v46=>opt (aC v46 H) fun v47=>opt (aB t5 8) fun v48=>opt (aC v48 H) fun v49=>E.call (E.fid i.f10) [t0,v1,v47] H fun v50 H13=>aC v48 H13=aC v48 H /\
 E.call (E.fid i.f61) [t1,t7,v49] H13 fun v51 H14=>opt (aA .eql v50 v51) fun v52=>Q v52 H14) (
 opt (aA .eql v5 (.int .u8 12)) fun v53=>ifB v53 (
 opt (aB t5 6) fun v54=>opt (aC v54 H) fun v55=>opt (aB t5 7) fun v56=>opt (aC v56 H) fun v57=>opt (aB t5 6) fun v58=>opt (aC v58 H) fun v59=>opt (aB t5 7) fun v60=>opt (aC v60 H) fun v61=>E.call (E.fid i.f15) [t0,v1,v55,v57] H fun v62 H15=>aC v60 H15=aC v60 H /\
 aC v58 H15=aC v58 H /\
 E.call (E.fid i.f71) [t1,t7,v59,v61] H15 fun v63 H16=>opt (aA .eql v62 v63) fun v64=>Q v64 H16) (
 opt (aA .eql v5 (.int .u8 13)) fun v65=>ifB v65 (
 opt (aB t5 6) fun v66=>opt (aC v66 H) fun v67=>opt (aB t5 6) fun v68=>opt (aC v68 H) fun v69=>E.call (E.fid i.f6) [t0,v1,v67] H fun v70 H17=>aC v68 H17=aC v68 H /\
 E.call (E.fid i.f57) [t1,t7,v69] H17 fun v71 H18=>opt (aA .eql v70 v71) fun v72=>Q v72 H18) (
 E.call (E.fid i.f11) [t0,v1,t9] H fun v73 H19=>opt (ext v73 0) fun v74=>opt (ext v73 1) fun v75=>E.call (E.fid i.f63) [t1,t7,t9] H19 fun v76 H20=>opt (ext v76 0) fun v77=>opt (ext v76 1) fun v78=>opt (bQ .i64 v74) fun v79=>opt (aA .eql v79 v77) fun v80=>gd v80 true (fun k=>k v75 H20) H20 fun v81 H21=>gd v80 true (fun k=>k v78 H21) H21 fun v82 H22=>gd v80 true (fun k=>opt (aA .eql v81 v82) fun v=>k v H22) H22 fun v83 H23=>opt (pick v80 v83 (.bool false)) fun v84=>Q v84 H23)))))))
def F.f42 (E:Sy) (x0 x1 x2:Value) (H:AH) (Q:VK):Prop :=
 mk (gD x2) H fun v1 H1=>opt (aB v1 1) fun v2=>opt (aC v2 H1) fun v3=>opt (aA .rem v3 (.int .u8 8)) fun v4=>opt (bQ .i64 v4) fun v5=>opt (aB v1 2) fun v6=>opt (aC v6 H1) fun v7=>opt (aA .rem v7 (.int .u8 8)) fun v8=>opt (bQ .i64 v8) fun v9=>opt (aB v1 3) fun v10=>opt (aC v10 H1) fun v11=>opt (bQ .i64 v11) fun v12=>opt (aB v1 4) fun v13=>opt (aC v13 H1) fun v14=>opt (bQ .i64 v14) fun v15=>E.call (E.fid i.f43) [] H1 fun v16 H2=>aC v13 H2=aC v13 H1 /\
 aC v10 H2=aC v10 H1 /\
 E.call (E.fid i.f43) [] H2 fun v17 H3=>aC v13 H3=aC v13 H1 /\
 aC v10 H3=aC v10 H1 /\
 opt (lenSlc v17) fun v18=>opt (aA .rem v12 v18) fun v19=>opt (aM 1 v16 v19) fun v20=>opt (aC v20 H3) fun v21=>E.call (E.fid i.f43) [] H3 fun v22 H4=>aC v20 H4=aC v20 H3 /\
 aC v13 H4=aC v13 H1 /\
 aC v10 H4=aC v10 H1 /\
 E.call (E.fid i.f43) [] H4 fun v23 H5=>aC v20 H5=aC v20 H3 /\
 aC v13 H5=aC v13 H1 /\
 aC v10 H5=aC v10 H1 /\
 opt (lenSlc v23) fun v24=>opt (aA .rem v15 v24) fun v25=>opt (aM 1 v22 v25) fun v26=>opt (aC v26 H5) fun v27=>opt (aB v1 9) fun v28=>opt (aC v28 H5) fun v29=>ifB v29 (
 opt (aB v1 5) fun v30=>opt (aC v30 H5) fun v31=>opt (aB v1 6) fun v32=>opt (aC v32 H5) fun v33=>opt (aA .and v33 (.int .i64 65535)) fun v34=>F.f42_j1 E Q x0 x1 v1 v34 v9 v31 v27 H5) (
 F.f42_j1 E Q x0 x1 v1 v5 v9 v21 v27 H5)

def F.f34 (E:Sy) (x0 x1 x2:Value) (H:AH) (Q:VK):Prop :=
 mk (gD x2) H fun v1 H1=>opt (cQ eI .eql x0 (.pointer none)) fun v2=>ifB v2 (
 Q (.tuple #[(.int .i64 0),(.int .i64 201)]) H1) (
 opt (aB v1 0) fun v3=>opt (aC v3 H1) fun v4=>E.call (E.fid i.f39) [x0,v4] H1 fun v5 H2=>opt (aA .lss v5 (.int .i64 0)) fun v6=>ifB v6 (
 Q (.tuple #[(.int .i64 0),(.int .i64 22)]) H2) (
 opt (aL 2 v1 H2) fun v7=>opt (aL 2 v1 H2) fun v8=>E.call (E.fid i.f37) [x0,v7] H2 fun v9 H3=>aL 2 v1 H3=aL 2 v1 H2 /\
 opt (dZ [0,0] .neq v9 v8) fun v10=>ifB v10 (
 Q (.tuple #[(.int .i64 0),(.int .i64 16)]) H3) (
 opt (aG x0) fun v11=>opt (aB v11 0) fun v12=>opt (aC v12 H3) fun v13=>opt (lenSlc v13) fun v14=>opt (aA .geq v14 (.int .i64 16)) fun v15=>ifB v15 (
 Q (.tuple #[(.int .i64 0),(.int .i64 28)]) H3) (
 opt (aG x0) fun v16=>opt (aB v16 1) fun v17=>opt (aC v17 H3) fun v18=>opt (aG x0) fun v19=>opt (aB v19 1) fun v20=>opt (aC v20 H3) fun v21=>opt (aA .add v21 (.int .i64 1)) fun v22=>opt (aG x0) fun v23=>opt (aB v23 1) fun v24=>opt (aR v24 v22 H3) fun H4=>opt (aG x0) fun v25=>opt (aB v25 0) fun v26=>opt (aC v26 H4) fun v27=>opt (aL 2 v1 H4) fun v28=>opt (bN [(0,1),(1,2),(3,1),(4,1)] #[(.int .i64 0),(.int .i64 0),(.int .u16 0),(.int .u16 0),(.int .i64 0)] [(0,v18),(1,v28),(2,x1)]) fun v29=>mk (buildS 1 5 #[(.int .i64 0),(.int .i64 0),(.int .u16 0),(.int .u16 0),(.int .i64 0)] [(0,v29)]) H4 fun v30 H5=>gG (app 5 40 v27 v30 H5) fun v31 H6=>opt (aG x0) fun v32=>opt (aB v32 0) fun v33=>opt (aR v33 v31 H6) fun H7=>Q (.tuple #[v18,(.int .i64 0)]) H7))))

def F.f56 (E:Sy) (x0 x1 x2:Value) (H:AH) (Q:VK):Prop :=
 mk (gD x2) H fun v1 H1=>opt (aB v1 0) fun v2=>opt (aC v2 H1) fun v3=>E.call (E.fid i.f74) [x0,v3] H1 fun v4 H2=>opt (aA .lss v4 (.int .i64 0)) fun v5=>ifB v5 (
 Q (.tuple #[(.int .i64 0),(.int .i64 22)]) H2) (
 opt (aL 2 v1 H2) fun v6=>opt (aL 2 v1 H2) fun v7=>E.call (E.fid i.f68) [x0,v6] H2 fun v8 H3=>aL 2 v1 H3=aL 2 v1 H2 /\
 opt (dZ [0,0] .neq v8 v7) fun v9=>ifB v9 (
 Q (.tuple #[(.int .i64 0),(.int .i64 16)]) H3) (
 opt (aG x0) fun v10=>opt (aB v10 2) fun v11=>opt (aC v11 H3) fun v12=>opt (lenSlc v12) fun v13=>opt (aA .geq v13 (.int .i64 16)) fun v14=>ifB v14 (
 Q (.tuple #[(.int .i64 0),(.int .i64 28)]) H3) (
 opt (aG x0) fun v15=>opt (aB v15 3) fun v16=>opt (aC v16 H3) fun v17=>opt (aG x0) fun v18=>opt (aB v18 3) fun v19=>opt (aC v19 H3) fun v20=>opt (aA .add v20 (.int .i64 1)) fun v21=>opt (aG x0) fun v22=>opt (aB v22 3) fun v23=>opt (aR v23 v21 H3) fun H4=>opt (aG x0) fun v24=>opt (aB v24 2) fun v25=>opt (aC v25 H4) fun v26=>opt (aL 2 v1 H4) fun v27=>opt (bN [(0,1),(1,1),(2,2),(4,1)] #[(.int .i64 0),(.int .i64 0),(.int .i64 0),(.int .i64 0),(.int .i64 0)] [(0,v17),(1,x1),(2,v27)]) fun v28=>mk (buildS 1 5 #[(.int .i64 0),(.int .i64 0),(.int .i64 0),(.int .i64 0),(.int .i64 0)] [(0,v28)]) H4 fun v29 H5=>gG (app 5 40 v26 v29 H5) fun v30 H6=>opt (aG x0) fun v31=>opt (aB v31 2) fun v32=>opt (aR v32 v30 H6) fun H7=>Q (.tuple #[v17,(.int .i64 0)]) H7)))

def F.f10 (E:Sy) (x0 x1 x2:Value) (H:AH) (Q:VK):Prop :=
 E.call (E.fid i.f9) [x0,x1] H fun v1 H1=>opt (cQ eI .eql v1 (.pointer none)) fun v2=>ifB v2 (
 Q (.int .i64 2) H1) (
 opt (un .not x2) fun v3=>gd v3 true (fun k=>k v1 H1) H1 fun v4 H2=>gd v3 true (fun k=>opt (aG v4) fun v=>k v H2) H2 fun v5 H3=>gd v3 true (fun k=>opt (aB v5 7) fun v=>k v H3) H3 fun v6 H4=>gd v3 true (fun k=>opt (aC v6 H4) fun v=>k v H4) H4 fun v7 H5=>gd v3 true (fun k=>opt (aA .eql v7 (.int .i64 0)) fun v=>k v H5) H5 fun v8 H6=>opt (pick v3 v8 (.bool false)) fun v9=>ifB v9 (
 Q (.int .i64 22) H6) (
 ifB x2 (
 opt (aG v1) fun v10=>opt (aB v10 7) fun v11=>opt (aC v11 H6) fun v12=>opt (aA .add v12 (.int .i64 1)) fun v13=>opt (aG v1) fun v14=>opt (aB v14 7) fun v15=>opt (aR v15 v13 H6) fun H7=>Q (.int .i64 0) H7) (
 opt (aG v1) fun v16=>opt (aB v16 7) fun v17=>opt (aC v17 H6) fun v18=>opt (aA .sub v18 (.int .i64 1)) fun v19=>opt (aG v1) fun v20=>opt (aB v20 7) fun v21=>opt (aR v21 v19 H6) fun H8=>E.call (E.fid i.f21) [x0,x1] H8 fun v22 H9=>Q (.int .i64 0) H9)))

def F.f61 (E:Sy) (x0 x1 x2:Value) (H:AH) (Q:VK):Prop :=
 E.call (E.fid i.f66) [x0,x1] H fun v1 H1=>opt (aG v1) fun v2=>opt (aB v2 0) fun v3=>opt (aC v3 H1) fun v4=>opt (aA .eql v4 (.int .i64 0)) fun v5=>ifB v5 (
 Q (.int .i64 2) H1) (
 ifB x2 (
 opt (aG v1) fun v6=>opt (aB v6 6) fun v7=>opt (aC v7 H1) fun v8=>opt (aA .add v8 (.int .i64 1)) fun v9=>opt (aG v1) fun v10=>opt (aB v10 6) fun v11=>opt (aR v11 v9 H1) fun H2=>Q (.int .i64 0) H2) (
 opt (aG v1) fun v12=>opt (aB v12 6) fun v13=>opt (aC v13 H1) fun v14=>opt (aA .eql v14 (.int .i64 0)) fun v15=>ifB v15 (
 Q (.int .i64 22) H1) (
 opt (aG v1) fun v16=>opt (aB v16 6) fun v17=>opt (aC v17 H1) fun v18=>opt (aA .sub v18 (.int .i64 1)) fun v19=>opt (aG v1) fun v20=>opt (aB v20 6) fun v21=>opt (aR v21 v19 H1) fun H3=>E.call (E.fid i.f77) [x0,x1] H3 fun v22 H4=>Q (.int .i64 0) H4)))

def F.f8_l1 (E:Sy) (Q:VK) (t8 t23:Value) (H:AH) (X0:LK):Prop :=
 qD t23 H fun v1 H1=>opt (ext v1 0) fun v2=>ifB v2 (
 opt (oX t23 H1) fun v3=>opt (ext v3 0) fun v4=>mk (buildS 1 1 #[(.string ⟨#[]⟩)] [(0,v4)]) H1 fun v5 H2=>gG (app 1 16 t8 v5 H2) fun v6 H3=>X0 [v6,t23] H3) (
 E.call (E.fid i.f82) [t8] H1 fun v7 H4=>Q (.tuple #[t8,(.int .i64 0)]) H4)
def F.f8 (E:Sy) (x0 x1:Value) (H:AH) (Q:VK):Prop :=
 E.call (E.fid i.f17) [x0,x1] H fun v1 H1=>opt (ext v1 0) fun v2=>opt (ext v1 1) fun v3=>opt (aA .neq v3 (.int .i64 0)) fun v4=>ifB v4 (
 Q (.tuple #[(.slice none 0 0),v3]) H1) (
 opt (aG v2) fun v5=>opt (aB v5 3) fun v6=>opt (aC v6 H1) fun v7=>mk (qV v7 H1) H1 fun v8 H2=>aT (fun l H X0=>F.f8_l1 E Q (nth l 0) (nth l 1) H X0) [(.slice none 0 0),v8] H2)

def F.f11 (E:Sy) (x0 x1 x2:Value) (H:AH) (Q:VK):Prop :=
 E.call (E.fid i.f17) [x0,x1] H fun v1 H1=>opt (ext v1 0) fun v2=>opt (ext v1 1) fun v3=>opt (aA .neq v3 (.int .i64 0)) fun v4=>ifB v4 (
 Q (.tuple #[(.int .u16 0),v3]) H1) (
 opt (aG v2) fun v5=>opt (aB v5 3) fun v6=>opt (aC v6 H1) fun v7=>opt (look 1 (.int .u16 0) true v7 x2 H1) fun v8=>opt (ext v8 0) fun v9=>opt (ext v8 1) fun v10=>opt (un .not v10) fun v11=>ifB v11 (
 Q (.tuple #[(.int .u16 0),(.int .i64 2)]) H1) (
 Q (.tuple #[v9,(.int .i64 0)]) H1))

def F.f39 (E:Sy) (x0 x1:Value) (H:AH) (Q:VK):Prop :=
 mk (gD x1) H fun v1 H1=>opt (cQ eI .eql x0 (.pointer none)) fun v2=>ifB v2 (
 Q (.int .i64 (-1)) H1) (
 opt (aG x0) fun v3=>opt (aB v3 0) fun v4=>opt (aC v4 H1) fun v5=>opt (some (.func (.func (E.fid i.f40)) #[] #[v1])) fun v6=>E.call (E.fid i.f81) [v5,v6] H1 fun v7 H2=>Q v7 H2)

def F.f38 (E:Sy) (x0 x1:Value) (H:AH) (Q:VK):Prop :=
 mk (gD x0) H fun v1 H1=>opt (aB v1 0) fun v2=>opt (aC v2 H1) fun v3=>opt (aA .neq v3 (.int .i64 0)) fun v4=>gd v4 true (fun k=>opt (aB v1 1) fun v=>k v H1) H1 fun v5 H2=>gd v4 true (fun k=>opt (aL 2 v5 H2) fun v=>k v H2) H2 fun v6 H3=>gd v4 true (fun k=>opt (aL 2 x1 H3) fun v=>k v H3) H3 fun v7 H4=>gd v4 true (fun k=>opt (dZ [0,0] .eql v6 v7) fun v=>k v H4) H4 fun v8 H5=>opt (pick v4 v8 (.bool false)) fun v9=>Q v9 H5

def F.f81_l1 (E:Sy) (Q:VK) (t0 t1 t7 t8:Value) (H:AH) (X0:LK):Prop :=
 opt (aA .lss t8 t7) fun v1=>ifB v1 (
 opt (aM 5 t0 t8) fun v2=>opt (aL 5 v2 H) fun v3=>oA E.call t1 [v3] H fun v4 H1=>ifB v4 (
 Q t8 H1) (
 opt (aA .add t8 (.int .i64 1)) fun v5=>X0 [t0,t1,t7,v5] H1)) (
 Q (.int .i64 (-1)) H)
def F.f81 (E:Sy) (x0 x1:Value) (H:AH) (Q:VK):Prop :=
 opt (lenSlc x0) fun v1=>aT (fun l H X0=>F.f81_l1 E Q (nth l 0) (nth l 1) (nth l 2) (nth l 3) H X0) [x0,x1,v1,(.int .i64 0)] H

def F.f17 (E:Sy) (x0 x1:Value) (H:AH) (Q:VK):Prop :=
 E.call (E.fid i.f9) [x0,x1] H fun v1 H1=>opt (cQ eI .eql v1 (.pointer none)) fun v2=>ifB v2 (
 Q (.tuple #[(.pointer none),(.int .i64 2)]) H1) (
 opt (aG v1) fun v3=>opt (aB v3 1) fun v4=>opt (aC v4 H1) fun v5=>opt (aA .neq v5 (.int .u8 2)) fun v6=>ifB v6 (
 Q (.tuple #[(.pointer none),(.int .i64 20)]) H1) (
 Q (.tuple #[v1,(.int .i64 0)]) H1))

def F.f2 (E:Sy) (x0:Value) (H:AH) (Q:VK):Prop :=
 opt (dS x0) fun v1=>opt (aA .lss v1 (.int .i64 1)) fun v2=>gd v2 false (fun k=>k x0 H) H fun v3 H1=>gd v2 false (fun k=>opt (dS v3) fun v=>k v H1) H1 fun v4 H2=>gd v2 false (fun k=>opt (aA .gtr v4 (.int .i64 14)) fun v=>k v H2) H2 fun v5 H3=>opt (pick v2 (.bool true) v5) fun v6=>gd v6 false (fun k=>k x0 H3) H3 fun v7 H4=>gd v6 false (fun k=>opt (cK .eql v7 (.string ⟨#[46]⟩)) fun v=>k v H4) H4 fun v8 H5=>opt (pick v6 (.bool true) v8) fun v9=>gd v9 false (fun k=>k x0 H5) H5 fun v10 H6=>gd v9 false (fun k=>opt (cK .eql v10 (.string ⟨#[46,46]⟩)) fun v=>k v H6) H6 fun v11 H7=>opt (pick v9 (.bool true) v11) fun v12=>ifB v12 (
 Q (.bool false) H7) (
 E.call (E.fid i.f101) [x0,(.func (.func (E.fid i.f3)) #[] #[])] H7 fun v13 H8=>opt (aA .lss v13 (.int .i64 0)) fun v14=>Q v14 H8)

def F.f119_l1 (E:Sy) (Q:VK) (t3 t7 t8 t9:Value) (H:AH) (X0:LK):Prop :=
 opt (aA .lss t9 t8) fun v1=>ifB v1 (
 opt (aM 1 t7 t9) fun v2=>opt (aC v2 H) fun v3=>opt (cK .neq v3 (.string ⟨#[]⟩)) fun v4=>gd v4 true (fun k=>k v3 H) H fun v5 H1=>gd v4 true (fun k=>opt (cK .neq v5 (.string ⟨#[46]⟩)) fun v=>k v H1) H1 fun v6 H2=>opt (pick v4 v6 (.bool false)) fun v7=>ifB v7 (
 mk (buildS 1 1 #[(.string ⟨#[]⟩)] [(0,v3)]) H2 fun v8 H3=>gG (app 1 16 t3 v8 H3) fun v9 H4=>opt (aA .add t9 (.int .i64 1)) fun v10=>X0 [v9,t7,t8,v10] H4) (
 opt (aA .add t9 (.int .i64 1)) fun v11=>X0 [t3,t7,t8,v11] H2)) (
 Q t3 H)
def F.f119 (E:Sy) (x0:Value) (H:AH) (Q:VK):Prop :=
 E.call (E.fid i.f103) [x0,(.string ⟨#[47]⟩)] H fun v1 H1=>opt (lenSlc v1) fun v2=>aT (fun l H X0=>F.f119_l1 E Q (nth l 0) (nth l 1) (nth l 2) (nth l 3) H X0) [(.slice none 0 0),v1,v2,(.int .i64 0)] H1

def F.f27 (E:Sy) (x0 x1:Value) (H:AH) (Q:VK):Prop :=
 opt (dS x0) fun v1=>opt (dS x1) fun v2=>opt (aA .geq v1 v2) fun v3=>gd v3 true (fun k=>k x0 H) H fun v4 H1=>gd v3 true (fun k=>k x0 H1) H1 fun v5 H2=>gd v3 true (fun k=>opt (dS v5) fun v=>k v H2) H2 fun v6 H3=>gd v3 true (fun k=>k x1 H3) H3 fun v7 H4=>gd v3 true (fun k=>opt (dS v7) fun v=>k v H4) H4 fun v8 H5=>gd v3 true (fun k=>opt (aA .sub v6 v8) fun v=>k v H5) H5 fun v9 H6=>gd v3 true (fun k=>opt (jO v4 (some v9) none) fun v=>k v H6) H6 fun v10 H7=>gd v3 true (fun k=>k x1 H7) H7 fun v11 H8=>gd v3 true (fun k=>opt (cK .eql v10 v11) fun v=>k v H8) H8 fun v12 H9=>opt (pick v3 v12 (.bool false)) fun v13=>Q v13 H9

def F.f120_j1 (E:Sy) (Q:VK) (t0 t1:Value) (H:AH):Prop :=
 opt (aG t0) fun v1=>opt (aB v1 3) fun v2=>opt (aC v2 H) fun v3=>E.call (E.fid i.f119) [t1] H fun v4 H1=>aC v2 H1=aC v2 H /\
 gG (app 1 16 v4 v3 H1) fun v5 H2=>opt (aG t0) fun v6=>opt (aB v6 3) fun v7=>opt (aR v7 v5 H2) fun H3=>Q (.int .i64 0) H3
def F.f120 (E:Sy) (x0 x1:Value) (H:AH) (Q:VK):Prop :=
 opt (aG x0) fun v1=>opt (aB v1 4) fun v2=>opt (aC v2 H) fun v3=>opt (aA .add v3 (.int .i64 1)) fun v4=>opt (aG x0) fun v5=>opt (aB v5 4) fun v6=>opt (aR v6 v4 H) fun H1=>opt (aG x0) fun v7=>opt (aB v7 4) fun v8=>opt (aC v8 H1) fun v9=>opt (aA .gtr v9 (.int .i64 8)) fun v10=>ifB v10 (
 Q (.int .i64 40) H1) (
 opt (fU x1 (.int .i64 0)) fun v11=>opt (aA .eql v11 (.int .u8 47)) fun v12=>ifB v12 (
 opt (aG x0) fun v13=>opt (aB v13 0) fun v14=>opt (aC v14 H1) fun v15=>opt (aG v15) fun v16=>opt (aB v16 1) fun v17=>opt (aC v17 H1) fun v18=>E.call (E.fid i.f41) [] H1 fun v19 H2=>aC v17 H2=aC v17 H1 /\
 aC v14 H2=aC v14 H1 /\
 E.call (E.fid i.f37) [v18,v19] H2 fun v20 H3=>opt (aG x0) fun v21=>opt (aB v21 1) fun v22=>opt (storeN 2 v22 v20 H3) fun H4=>F.f120_j1 E Q x0 x1 H4) (
 F.f120_j1 E Q x0 x1 H1))

def F.f43 (E:Sy) (H:AH) (Q:VK):Prop :=
 mk (buildS 9 1 #[(.string ⟨#[]⟩)] [(0,(.string ⟨#[97]⟩)),(1,(.string ⟨#[98]⟩)),(2,(.string ⟨#[99]⟩)),(3,(.string ⟨#[100,46,101]⟩)),(4,(.string ⟨#[102]⟩)),(5,(.string ⟨#[103]⟩)),(6,(.string ⟨#[]⟩)),(7,(.string ⟨#[46,46]⟩)),(8,(.string ⟨#[97,47,98]⟩))]) H fun v1 H1=>Q v1 H1

def F.f64_j3 (E:Sy) (Q:VK) (t0 t1 t2 t13 t14:Value) (H:AH):Prop :=
 opt (aG t0) fun v1=>opt (aB v1 0) fun v2=>opt (aC v2 H) fun v3=>opt (aL 7 t14 H) fun v4=>opt (aM 7 v3 t13) fun v5=>opt (storeN 7 v5 v4 H) fun H1=>opt (aG t0) fun v6=>opt (aB v6 0) fun v7=>opt (aC v7 H1) fun v8=>opt (aG t0) fun v9=>opt (aB v9 0) fun v10=>opt (aC v10 H1) fun v11=>opt (aM 7 v11 t1) fun v12=>opt (aB v12 2) fun v13=>opt (aC v13 H1) fun v14=>opt (bN [(0,1),(1,1)] #[(.string ⟨#[]⟩),(.int .i64 0)] [(0,t2),(1,t13)]) fun v15=>E.call (E.fid i.f79) [v14,v15] H1 fun v16 H2=>aC v7 H2=aC v7 H1 /\
 opt (aM 7 v8 t1) fun v17=>opt (aB v17 2) fun v18=>opt (aR v18 v16 H2) fun H3=>opt (aG t0) fun v19=>opt (aB v19 4) fun v20=>opt (aC v20 H3) fun v21=>opt (aA .add v21 (.int .i64 1)) fun v22=>opt (aG t0) fun v23=>opt (aB v23 4) fun v24=>opt (aR v24 v22 H3) fun H4=>Q (.tuple #[t13,(.int .i64 0)]) H4
def F.f64_j2 (E:Sy) (Q:VK) (t0 t1 t2 t3 t4 t13 t14:Value) (H:AH):Prop :=
 opt (aA .eql t3 (.int .i64 3)) fun v1=>ifB v1 (
 opt (aB t14 4) fun v2=>opt (aR v2 t4 H) fun H1=>F.f64_j3 E Q t0 t1 t2 t13 t14 H1) (
 F.f64_j3 E Q t0 t1 t2 t13 t14 H)
def F.f64_j1 (E:Sy) (Q:VK) (t0 t1 t2 t3 t4 t13:Value) (H:AH):Prop :=
 opt (bN [(0,1),(1,1),(2,1),(3,1),(4,1),(5,1),(6,1)] #[(.int .i64 0),(.slice none 0 0),(.slice none 0 0),(.int .i64 0),(.string ⟨#[]⟩),(.int .i64 0),(.int .i64 0)] [(0,t3),(5,(.int .i64 1))]) fun v1=>dC [(.int .i64 0),(.slice none 0 0),(.slice none 0 0),(.int .i64 0),(.string ⟨#[]⟩),(.int .i64 0),(.int .i64 0)] H fun v2 H1=>opt (storeN 7 v2 v1 H1) fun H2=>opt (aA .eql t3 (.int .i64 2)) fun v3=>ifB v3 (
 opt (aB v2 3) fun v4=>opt (aR v4 t1 H2) fun H3=>F.f64_j2 E Q t0 t1 t2 t3 t4 t13 v2 H3) (
 F.f64_j2 E Q t0 t1 t2 t3 t4 t13 v2 H2)
def F.f64_l1 (E:Sy) (Q:VK) (t0 t1 t2 t3 t4 t13:Value) (H:AH) (X0:LK):Prop :=
 opt (aG t0) fun v1=>opt (aB v1 0) fun v2=>opt (aC v2 H) fun v3=>opt (lenSlc v3) fun v4=>opt (aA .lss t13 v4) fun v5=>gd v5 true (fun k=>k t0 H) H fun v6 H1=>gd v5 true (fun k=>opt (aG v6) fun v=>k v H1) H1 fun v7 H2=>gd v5 true (fun k=>opt (aB v7 0) fun v=>k v H2) H2 fun v8 H3=>gd v5 true (fun k=>opt (aC v8 H3) fun v=>k v H3) H3 fun v9 H4=>gd v5 true (fun k=>k t13 H4) H4 fun v10 H5=>gd v5 true (fun k=>opt (aM 7 v9 v10) fun v=>k v H5) H5 fun v11 H6=>gd v5 true (fun k=>opt (aB v11 0) fun v=>k v H6) H6 fun v12 H7=>gd v5 true (fun k=>opt (aC v12 H7) fun v=>k v H7) H7 fun v13 H8=>gd v5 true (fun k=>opt (aA .gtr v13 (.int .i64 0)) fun v=>k v H8) H8 fun v14 H9=>opt (pick v5 v14 (.bool false)) fun v15=>ifB v15 (
 opt (aA .add t13 (.int .i64 1)) fun v16=>X0 [t0,t1,t2,t3,t4,v16] H9) (
 opt (aG t0) fun v17=>opt (aB v17 0) fun v18=>opt (aC v18 H9) fun v19=>opt (lenSlc v19) fun v20=>opt (aA .eql t13 v20) fun v21=>ifB v21 (
 opt (aG t0) fun v22=>opt (aB v22 0) fun v23=>opt (aC v23 H9) fun v24=>opt (bN [(0,1),(1,1),(2,1),(3,1),(4,1),(5,1),(6,1)] #[(.int .i64 0),(.slice none 0 0),(.slice none 0 0),(.int .i64 0),(.string ⟨#[]⟩),(.int .i64 0),(.int .i64 0)] []) fun v25=>mk (buildS 1 7 #[(.int .i64 0),(.slice none 0 0),(.slice none 0 0),(.int .i64 0),(.string ⟨#[]⟩),(.int .i64 0),(.int .i64 0)] [(0,v25)]) H9 fun v26 H10=>gG (app 7 96 v24 v26 H10) fun v27 H11=>opt (aG t0) fun v28=>opt (aB v28 0) fun v29=>opt (aR v29 v27 H11) fun H12=>F.f64_j1 E Q t0 t1 t2 t3 t4 t13 H12) (
 F.f64_j1 E Q t0 t1 t2 t3 t4 t13 H9))
def F.f64 (E:Sy) (x0 x1 x2 x3 x4:Value) (H:AH) (Q:VK):Prop :=
 E.call (E.fid i.f75) [x0,x1,x2] H fun v1 H1=>opt (aA .neq v1 (.int .i64 0)) fun v2=>ifB v2 (
 Q (.tuple #[(.int .i64 0),v1]) H1) (
 opt (aA .lss x3 (.int .i64 1)) fun v3=>gd v3 false (fun k=>k x3 H1) H1 fun v4 H2=>gd v3 false (fun k=>opt (aA .gtr v4 (.int .i64 3)) fun v=>k v H2) H2 fun v5 H3=>opt (pick v3 (.bool true) v5) fun v6=>gd v6 false (fun k=>k x3 H3) H3 fun v7 H4=>gd v6 false (fun k=>opt (aA .eql v7 (.int .i64 3)) fun v=>k v H4) H4 fun v8 H5=>gd v6 false (fun k=>k v8 H5) H5 fun v9 H6=>gd v9 true (fun k=>k x4 H6) H6 fun v10 H7=>gd v9 true (fun k=>opt (dS v10) fun v=>k v H7) H7 fun v11 H8=>gd v9 true (fun k=>opt (aA .lss v11 (.int .i64 1)) fun v=>k v H8) H8 fun v12 H9=>gd v9 true (fun k=>k v12 H9) H9 fun v13 H10=>gd v13 false (fun k=>k x4 H10) H10 fun v14 H11=>gd v13 false (fun k=>opt (dS v14) fun v=>k v H11) H11 fun v15 H12=>gd v13 false (fun k=>opt (aA .gtr v15 (.int .i64 120)) fun v=>k v H12) H12 fun v16 H13=>gd v9 true (fun k=>opt (pick v13 (.bool true) v16) fun v=>k v H13) H13 fun v17 H14=>gd v6 false (fun k=>opt (pick v9 v17 (.bool false)) fun v=>k v H14) H14 fun v18 H15=>opt (pick v6 (.bool true) v18) fun v19=>ifB v19 (
 Q (.tuple #[(.int .i64 0),(.int .i64 22)]) H15) (
 opt (aG x0) fun v20=>opt (aB v20 1) fun v21=>opt (aC v21 H15) fun v22=>E.call (E.fid i.f62) [x0] H15 fun v23 H16=>aC v21 H16=aC v21 H15 /\
 opt (aA .geq v23 v22) fun v24=>gd v24 false (fun k=>k x3 H16) H16 fun v25 H17=>gd v24 false (fun k=>opt (aA .eql v25 (.int .i64 2)) fun v=>k v H17) H17 fun v26 H18=>gd v24 false (fun k=>k v26 H18) H18 fun v27 H19=>gd v27 true (fun k=>k x0 H19) H19 fun v28 H20=>gd v27 true (fun k=>k x1 H20) H20 fun v29 H21=>gd v27 true (fun k=>E.call (E.fid i.f72) [v28,v29] H21 fun v h=>k v h) H21 fun v30 H22=>gd v27 true (fun k=>opt (aA .geq v30 (.int .i64 16)) fun v=>k v H22) H22 fun v31 H23=>gd v24 false (fun k=>opt (pick v27 v31 (.bool false)) fun v=>k v H23) H23 fun v32 H24=>opt (pick v24 (.bool true) v32) fun v33=>ifB v33 (
 Q (.tuple #[(.int .i64 0),(.int .i64 28)]) H24) (
 aT (fun l H X0=>F.f64_l1 E Q (nth l 0) (nth l 1) (nth l 2) (nth l 3) (nth l 4) (nth l 5) H X0) [x0,x1,x2,x3,x4,(.int .i64 1)] H24)))

def F.f5 (E:Sy) (x0 x1 x2 x3:Value) (H:AH) (Q:VK):Prop :=
 E.call (E.fid i.f9) [x0,x3] H fun v1 H1=>E.call (E.fid i.f19) [x0,x1,x2] H1 fun v2 H2=>opt (ext v2 0) fun v3=>opt (ext v2 1) fun v4=>opt (cQ eI .eql v1 (.pointer none)) fun v5=>ifB v5 (
 Q (.int .i64 2) H2) (
 opt (aG v1) fun v6=>opt (aB v6 1) fun v7=>opt (aC v7 H2) fun v8=>opt (aA .eql v8 (.int .u8 2)) fun v9=>ifB v9 (
 Q (.int .i64 1) H2) (
 opt (aA .neq v4 (.int .i64 0)) fun v10=>ifB v10 (
 Q v4 H2) (
 opt (aG v1) fun v11=>opt (aB v11 6) fun v12=>opt (aC v12 H2) fun v13=>opt (aA .eql v13 (.int .i64 0)) fun v14=>ifB v14 (
 Q (.int .i64 2) H2) (
 opt (aG v1) fun v15=>opt (aB v15 6) fun v16=>opt (aC v16 H2) fun v17=>opt (aA .geq v17 (.int .i64 256)) fun v18=>ifB v18 (
 Q (.int .i64 31) H2) (
 opt (aG v3) fun v19=>opt (aB v19 3) fun v20=>opt (aC v20 H2) fun v21=>opt (setMap 1 v21 x2 x3 H2) fun H3=>opt (aG v1) fun v22=>opt (aB v22 6) fun v23=>opt (aC v23 H3) fun v24=>opt (aA .add v24 (.int .i64 1)) fun v25=>opt (aG v1) fun v26=>opt (aB v26 6) fun v27=>opt (aR v27 v25 H3) fun H4=>opt (aG x0) fun v28=>opt (aB v28 2) fun v29=>E.call (E.fid i.f108) [v29,(.int .i64 1)] H4 fun v30 H5=>Q (.int .i64 0) H5)))))

def F.f55 (E:Sy) (x0 x1 x2 x3:Value) (H:AH) (Q:VK):Prop :=
 E.call (E.fid i.f66) [x0,x3] H fun v1 H1=>opt (aG v1) fun v2=>opt (aB v2 0) fun v3=>opt (aC v3 H1) fun v4=>opt (aA .eql v4 (.int .i64 0)) fun v5=>ifB v5 (
 Q (.int .i64 2) H1) (
 opt (aG v1) fun v6=>opt (aB v6 0) fun v7=>opt (aC v7 H1) fun v8=>opt (aA .eql v8 (.int .i64 2)) fun v9=>ifB v9 (
 Q (.int .i64 1) H1) (
 E.call (E.fid i.f75) [x0,x1,x2] H1 fun v10 H2=>opt (aA .neq v10 (.int .i64 0)) fun v11=>ifB v11 (
 Q v10 H2) (
 opt (aG v1) fun v12=>opt (aB v12 5) fun v13=>opt (aC v13 H2) fun v14=>opt (aA .eql v14 (.int .i64 0)) fun v15=>ifB v15 (
 Q (.int .i64 2) H2) (
 opt (aG v1) fun v16=>opt (aB v16 5) fun v17=>opt (aC v17 H2) fun v18=>opt (aA .geq v18 (.int .i64 256)) fun v19=>ifB v19 (
 Q (.int .i64 31) H2) (
 opt (aG x0) fun v20=>opt (aB v20 0) fun v21=>opt (aC v21 H2) fun v22=>opt (aG x0) fun v23=>opt (aB v23 0) fun v24=>opt (aC v24 H2) fun v25=>opt (aM 7 v25 x1) fun v26=>opt (aB v26 2) fun v27=>opt (aC v27 H2) fun v28=>opt (bN [(0,1),(1,1)] #[(.string ⟨#[]⟩),(.int .i64 0)] [(0,x2),(1,x3)]) fun v29=>E.call (E.fid i.f79) [v28,v29] H2 fun v30 H3=>aC v21 H3=aC v21 H2 /\
 opt (aM 7 v22 x1) fun v31=>opt (aB v31 2) fun v32=>opt (aR v32 v30 H3) fun H4=>opt (aG v1) fun v33=>opt (aB v33 5) fun v34=>opt (aC v34 H4) fun v35=>opt (aA .add v35 (.int .i64 1)) fun v36=>opt (aG v1) fun v37=>opt (aB v37 5) fun v38=>opt (aR v38 v36 H4) fun H5=>opt (aG x0) fun v39=>opt (aB v39 4) fun v40=>opt (aC v40 H5) fun v41=>opt (aA .add v41 (.int .i64 1)) fun v42=>opt (aG x0) fun v43=>opt (aB v43 4) fun v44=>opt (aR v44 v42 H5) fun H6=>Q (.int .i64 0) H6)))))

def F.f7 (E:Sy) (x0 x1 x2 x3:Value) (H:AH) (Q:VK):Prop :=
 E.call (E.fid i.f11) [x0,x1,x2] H fun v1 H1=>opt (ext v1 0) fun v2=>opt (ext v1 1) fun v3=>opt (aA .neq v3 (.int .i64 0)) fun v4=>ifB v4 (
 Q v3 H1) (
 opt (aG x0) fun v5=>opt (aB v5 0) fun v6=>opt (aC v6 H1) fun v7=>opt (look 0 (.pointer none) false v7 v2 H1) fun v8=>gd x3 true (fun k=>k v8 H1) H1 fun v9 H2=>gd x3 true (fun k=>opt (aG v9) fun v=>k v H2) H2 fun v10 H3=>gd x3 true (fun k=>opt (aB v10 1) fun v=>k v H3) H3 fun v11 H4=>gd x3 true (fun k=>opt (aC v11 H4) fun v=>k v H4) H4 fun v12 H5=>gd x3 true (fun k=>opt (aA .neq v12 (.int .u8 2)) fun v=>k v H5) H5 fun v13 H6=>opt (pick x3 v13 (.bool false)) fun v14=>ifB v14 (
 Q (.int .i64 20) H6) (
 opt (un .not x3) fun v15=>gd v15 true (fun k=>k v8 H6) H6 fun v16 H7=>gd v15 true (fun k=>opt (aG v16) fun v=>k v H7) H7 fun v17 H8=>gd v15 true (fun k=>opt (aB v17 1) fun v=>k v H8) H8 fun v18 H9=>gd v15 true (fun k=>opt (aC v18 H9) fun v=>k v H9) H9 fun v19 H10=>gd v15 true (fun k=>opt (aA .eql v19 (.int .u8 2)) fun v=>k v H10) H10 fun v20 H11=>opt (pick v15 v20 (.bool false)) fun v21=>ifB v21 (
 Q (.int .i64 21) H11) (
 gd x3 true (fun k=>k v8 H11) H11 fun v22 H12=>gd x3 true (fun k=>opt (aG v22) fun v=>k v H12) H12 fun v23 H13=>gd x3 true (fun k=>opt (aB v23 3) fun v=>k v H13) H13 fun v24 H14=>gd x3 true (fun k=>opt (aC v24 H14) fun v=>k v H14) H14 fun v25 H15=>gd x3 true (fun k=>opt (iS v25 H15) fun v=>k v H15) H15 fun v26 H16=>gd x3 true (fun k=>opt (aA .gtr v26 (.int .i64 0)) fun v=>k v H16) H16 fun v27 H17=>opt (pick x3 v27 (.bool false)) fun v28=>ifB v28 (
 Q (.int .i64 39) H17) (
 opt (aG x0) fun v29=>opt (aB v29 0) fun v30=>opt (aC v30 H17) fun v31=>opt (look 0 (.pointer none) false v31 x1 H17) fun v32=>opt (aG v32) fun v33=>opt (aB v33 3) fun v34=>opt (aC v34 H17) fun v35=>opt (jJ 1 v35 x2 H17) fun H18=>opt (aG v8) fun v36=>opt (aB v36 6) fun v37=>opt (aC v37 H18) fun v38=>opt (aA .sub v38 (.int .i64 1)) fun v39=>opt (aG v8) fun v40=>opt (aB v40 6) fun v41=>opt (aR v41 v39 H18) fun H19=>opt (aG x0) fun v42=>opt (aB v42 2) fun v43=>E.call (E.fid i.f108) [v43,(.int .i64 1)] H19 fun v44 H20=>E.call (E.fid i.f21) [x0,v2] H20 fun v45 H21=>Q (.int .i64 0) H21))))

def F.f60 (E:Sy) (x0 x1 x2 x3:Value) (H:AH) (Q:VK):Prop :=
 E.call (E.fid i.f63) [x0,x1,x2] H fun v1 H1=>opt (ext v1 0) fun v2=>opt (ext v1 1) fun v3=>opt (aA .neq v3 (.int .i64 0)) fun v4=>ifB v4 (
 Q v3 H1) (
 E.call (E.fid i.f66) [x0,v2] H1 fun v5 H2=>gd x3 true (fun k=>k v5 H2) H2 fun v6 H3=>gd x3 true (fun k=>opt (aG v6) fun v=>k v H3) H3 fun v7 H4=>gd x3 true (fun k=>opt (aB v7 0) fun v=>k v H4) H4 fun v8 H5=>gd x3 true (fun k=>opt (aC v8 H5) fun v=>k v H5) H5 fun v9 H6=>gd x3 true (fun k=>opt (aA .neq v9 (.int .i64 2)) fun v=>k v H6) H6 fun v10 H7=>opt (pick x3 v10 (.bool false)) fun v11=>ifB v11 (
 Q (.int .i64 20) H7) (
 opt (un .not x3) fun v12=>gd v12 true (fun k=>k v5 H7) H7 fun v13 H8=>gd v12 true (fun k=>opt (aG v13) fun v=>k v H8) H8 fun v14 H9=>gd v12 true (fun k=>opt (aB v14 0) fun v=>k v H9) H9 fun v15 H10=>gd v12 true (fun k=>opt (aC v15 H10) fun v=>k v H10) H10 fun v16 H11=>gd v12 true (fun k=>opt (aA .eql v16 (.int .i64 2)) fun v=>k v H11) H11 fun v17 H12=>opt (pick v12 v17 (.bool false)) fun v18=>ifB v18 (
 Q (.int .i64 21) H12) (
 gd x3 true (fun k=>k v5 H12) H12 fun v19 H13=>gd x3 true (fun k=>opt (aG v19) fun v=>k v H13) H13 fun v20 H14=>gd x3 true (fun k=>opt (aB v20 2) fun v=>k v H14) H14 fun v21 H15=>gd x3 true (fun k=>opt (aC v21 H15) fun v=>k v H15) H15 fun v22 H16=>gd x3 true (fun k=>opt (lenSlc v22) fun v=>k v H16) H16 fun v23 H17=>gd x3 true (fun k=>opt (aA .gtr v23 (.int .i64 0)) fun v=>k v H17) H17 fun v24 H18=>opt (pick x3 v24 (.bool false)) fun v25=>ifB v25 (
 Q (.int .i64 39) H18) (
 opt (aG x0) fun v26=>opt (aB v26 0) fun v27=>opt (aC v27 H18) fun v28=>opt (aG x0) fun v29=>opt (aB v29 0) fun v30=>opt (aC v30 H18) fun v31=>opt (aM 7 v31 x1) fun v32=>opt (aB v32 2) fun v33=>opt (aC v33 H18) fun v34=>E.call (E.fid i.f66) [x0,x1] H18 fun v35 H19=>aC v33 H19=aC v33 H18 /\
 aC v30 H19=aC v30 H18 /\
 aC v27 H19=aC v27 H18 /\
 E.call (E.fid i.f78) [v35,x2] H19 fun v36 H20=>aC v33 H20=aC v33 H18 /\
 aC v30 H20=aC v30 H18 /\
 aC v27 H20=aC v27 H18 /\
 E.call (E.fid i.f80) [v34,v36] H20 fun v37 H21=>aC v27 H21=aC v27 H18 /\
 opt (aM 7 v28 x1) fun v38=>opt (aB v38 2) fun v39=>opt (aR v39 v37 H21) fun H22=>opt (aG v5) fun v40=>opt (aB v40 5) fun v41=>opt (aC v41 H22) fun v42=>opt (aA .sub v42 (.int .i64 1)) fun v43=>opt (aG v5) fun v44=>opt (aB v44 5) fun v45=>opt (aR v45 v43 H22) fun H23=>opt (aG x0) fun v46=>opt (aB v46 4) fun v47=>opt (aC v47 H23) fun v48=>opt (aA .add v48 (.int .i64 1)) fun v49=>opt (aG x0) fun v50=>opt (aB v50 4) fun v51=>opt (aR v51 v49 H23) fun H24=>E.call (E.fid i.f77) [x0,v2] H24 fun v52 H25=>Q (.int .i64 0) H25))))

def F.f13_j2 (E:Sy) (Q:VK) (t0:Value) (H:AH):Prop :=
 opt (aG t0) fun v1=>opt (aB v1 2) fun v2=>E.call (E.fid i.f108) [v2,(.int .i64 1)] H fun v3 H1=>Q (.int .i64 0) H1
def F.f13_j1 (E:Sy) (Q:VK) (t0 t1 t2 t3 t4 t11 t13 t14:Value) (H:AH):Prop :=
 opt (aG t0) fun v1=>opt (aB v1 0) fun v2=>opt (aC v2 H) fun v3=>opt (look 0 (.pointer none) false v3 t1 H) fun v4=>opt (aG v4) fun v5=>opt (aB v5 3) fun v6=>opt (aC v6 H) fun v7=>opt (jJ 1 v7 t2 H) fun H1=>opt (aG t13) fun v8=>opt (aB v8 3) fun v9=>opt (aC v9 H1) fun v10=>opt (setMap 1 v10 t4 t11 H1) fun H2=>opt (aG t14) fun v11=>opt (aB v11 1) fun v12=>opt (aC v12 H2) fun v13=>opt (aA .eql v13 (.int .u8 2)) fun v14=>ifB v14 (
 opt (aG t14) fun v15=>opt (aB v15 4) fun v16=>opt (aR v16 t3 H2) fun H3=>F.f13_j2 E Q t0 H3) (
 F.f13_j2 E Q t0 H2)
def F.f13 (E:Sy) (x0 x1 x2 x3 x4:Value) (H:AH) (Q:VK):Prop :=
 E.call (E.fid i.f11) [x0,x1,x2] H fun v1 H1=>opt (ext v1 0) fun v2=>opt (ext v1 1) fun v3=>opt (aA .neq v3 (.int .i64 0)) fun v4=>ifB v4 (
 Q v3 H1) (
 E.call (E.fid i.f17) [x0,x3] H1 fun v5 H2=>opt (ext v5 0) fun v6=>opt (ext v5 1) fun v7=>opt (aA .neq v7 (.int .i64 0)) fun v8=>ifB v8 (
 Q v7 H2) (
 opt (aG x0) fun v9=>opt (aB v9 0) fun v10=>opt (aC v10 H2) fun v11=>opt (look 0 (.pointer none) false v11 v2 H2) fun v12=>opt (aG v6) fun v13=>opt (aB v13 3) fun v14=>opt (aC v14 H2) fun v15=>opt (look 1 (.int .u16 0) true v15 x4 H2) fun v16=>opt (ext v16 0) fun v17=>opt (ext v16 1) fun v18=>gd v18 true (fun k=>k v17 H2) H2 fun v19 H3=>gd v18 true (fun k=>k v2 H3) H3 fun v20 H4=>gd v18 true (fun k=>opt (aA .eql v19 v20) fun v=>k v H4) H4 fun v21 H5=>opt (pick v18 v21 (.bool false)) fun v22=>ifB v22 (
 Q (.int .i64 0) H5) (
 opt (un .not v18) fun v23=>gd v23 true (fun k=>k x1 H5) H5 fun v24 H6=>gd v23 true (fun k=>k x3 H6) H6 fun v25 H7=>gd v23 true (fun k=>opt (aA .neq v24 v25) fun v=>k v H7) H7 fun v26 H8=>opt (pick v23 v26 (.bool false)) fun v27=>gd v27 true (fun k=>k v6 H8) H8 fun v28 H9=>gd v27 true (fun k=>opt (aG v28) fun v=>k v H9) H9 fun v29 H10=>gd v27 true (fun k=>opt (aB v29 3) fun v=>k v H10) H10 fun v30 H11=>gd v27 true (fun k=>opt (aC v30 H11) fun v=>k v H11) H11 fun v31 H12=>gd v27 true (fun k=>opt (iS v31 H12) fun v=>k v H12) H12 fun v32 H13=>gd v27 true (fun k=>opt (aA .geq v32 (.int .i64 32)) fun v=>k v H13) H13 fun v33 H14=>opt (pick v27 v33 (.bool false)) fun v34=>ifB v34 (
 Q (.int .i64 28) H14) (
 E.call (E.fid i.f18) [x0,v12,v6,x4,v18,v17] H14 fun v35 H15=>opt (aA .neq v35 (.int .i64 0)) fun v36=>ifB v36 (
 Q v35 H15) (
 ifB v18 (
 opt (aG v12) fun v37=>opt (aB v37 1) fun v38=>opt (aC v38 H15) fun v39=>opt (aA .eql v39 (.int .u8 2)) fun v40=>E.call (E.fid i.f7) [x0,x3,x4,v40] H15 fun v41 H16=>opt (aA .neq v41 (.int .i64 0)) fun v42=>ifB v42 (
 Q v41 H16) (
 F.f13_j1 E Q x0 x1 x2 x3 x4 v2 v6 v12 H16)) (
 F.f13_j1 E Q x0 x1 x2 x3 x4 v2 v6 v12 H15))))))

def F.f65_j2 (E:Sy) (Q:VK) (t0:Value) (H:AH):Prop :=
 opt (aG t0) fun v1=>opt (aB v1 4) fun v2=>opt (aC v2 H) fun v3=>opt (aA .add v3 (.int .i64 1)) fun v4=>opt (aG t0) fun v5=>opt (aB v5 4) fun v6=>opt (aR v6 v4 H) fun H1=>Q (.int .i64 0) H1
def F.f65_j1 (E:Sy) (Q:VK) (t0 t1 t2 t3 t4 t11 t15:Value) (H:AH):Prop :=
 opt (aG t0) fun v1=>opt (aB v1 0) fun v2=>opt (aC v2 H) fun v3=>opt (aG t0) fun v4=>opt (aB v4 0) fun v5=>opt (aC v5 H) fun v6=>opt (aM 7 v6 t1) fun v7=>opt (aB v7 2) fun v8=>opt (aC v8 H) fun v9=>E.call (E.fid i.f66) [t0,t1] H fun v10 H1=>aC v8 H1=aC v8 H /\
 aC v5 H1=aC v5 H /\
 aC v2 H1=aC v2 H /\
 E.call (E.fid i.f78) [v10,t2] H1 fun v11 H2=>aC v8 H2=aC v8 H /\
 aC v5 H2=aC v5 H /\
 aC v2 H2=aC v2 H /\
 E.call (E.fid i.f80) [v9,v11] H2 fun v12 H3=>aC v2 H3=aC v2 H /\
 opt (aM 7 v3 t1) fun v13=>opt (aB v13 2) fun v14=>opt (aR v14 v12 H3) fun H4=>opt (aG t0) fun v15=>opt (aB v15 0) fun v16=>opt (aC v16 H4) fun v17=>opt (aG t0) fun v18=>opt (aB v18 0) fun v19=>opt (aC v19 H4) fun v20=>opt (aM 7 v20 t3) fun v21=>opt (aB v21 2) fun v22=>opt (aC v22 H4) fun v23=>opt (bN [(0,1),(1,1)] #[(.string ⟨#[]⟩),(.int .i64 0)] [(0,t4),(1,t11)]) fun v24=>E.call (E.fid i.f79) [v23,v24] H4 fun v25 H5=>aC v16 H5=aC v16 H4 /\
 opt (aM 7 v17 t3) fun v26=>opt (aB v26 2) fun v27=>opt (aR v27 v25 H5) fun H6=>ifB t15 (
 opt (aG t0) fun v28=>opt (aB v28 0) fun v29=>opt (aC v29 H6) fun v30=>opt (aM 7 v30 t11) fun v31=>opt (aB v31 3) fun v32=>opt (aR v32 t3 H6) fun H7=>F.f65_j2 E Q t0 H7) (
 F.f65_j2 E Q t0 H6)
def F.f65 (E:Sy) (x0 x1 x2 x3 x4:Value) (H:AH) (Q:VK):Prop :=
 E.call (E.fid i.f63) [x0,x1,x2] H fun v1 H1=>opt (ext v1 0) fun v2=>opt (ext v1 1) fun v3=>opt (aA .neq v3 (.int .i64 0)) fun v4=>ifB v4 (
 Q v3 H1) (
 E.call (E.fid i.f73) [x0,x3] H1 fun v5 H2=>opt (aA .neq v5 (.int .i64 0)) fun v6=>ifB v6 (
 Q v5 H2) (
 E.call (E.fid i.f66) [x0,x3] H2 fun v7 H3=>E.call (E.fid i.f78) [v7,x4] H3 fun v8 H4=>opt (aA .geq v8 (.int .i64 0)) fun v9=>gd v9 true (fun k=>k x0 H4) H4 fun v10 H5=>gd v9 true (fun k=>k x3 H5) H5 fun v11 H6=>gd v9 true (fun k=>E.call (E.fid i.f66) [v10,v11] H6 fun v h=>k v h) H6 fun v12 H7=>gd v9 true (fun k=>opt (aG v12) fun v=>k v H7) H7 fun v13 H8=>gd v9 true (fun k=>opt (aB v13 2) fun v=>k v H8) H8 fun v14 H9=>gd v9 true (fun k=>opt (aC v14 H9) fun v=>k v H9) H9 fun v15 H10=>gd v9 true (fun k=>k v8 H10) H10 fun v16 H11=>gd v9 true (fun k=>opt (aM 2 v15 v16) fun v=>k v H11) H11 fun v17 H12=>gd v9 true (fun k=>opt (aB v17 1) fun v=>k v H12) H12 fun v18 H13=>gd v9 true (fun k=>opt (aC v18 H13) fun v=>k v H13) H13 fun v19 H14=>gd v9 true (fun k=>k v2 H14) H14 fun v20 H15=>gd v9 true (fun k=>opt (aA .eql v19 v20) fun v=>k v H15) H15 fun v21 H16=>opt (pick v9 v21 (.bool false)) fun v22=>ifB v22 (
 Q (.int .i64 0) H16) (
 opt (aA .lss v8 (.int .i64 0)) fun v23=>gd v23 true (fun k=>k x1 H16) H16 fun v24 H17=>gd v23 true (fun k=>k x3 H17) H17 fun v25 H18=>gd v23 true (fun k=>opt (aA .neq v24 v25) fun v=>k v H18) H18 fun v26 H19=>opt (pick v23 v26 (.bool false)) fun v27=>gd v27 true (fun k=>k x0 H19) H19 fun v28 H20=>gd v27 true (fun k=>k x3 H20) H20 fun v29 H21=>gd v27 true (fun k=>E.call (E.fid i.f66) [v28,v29] H21 fun v h=>k v h) H21 fun v30 H22=>gd v27 true (fun k=>opt (aG v30) fun v=>k v H22) H22 fun v31 H23=>gd v27 true (fun k=>opt (aB v31 2) fun v=>k v H23) H23 fun v32 H24=>gd v27 true (fun k=>opt (aC v32 H24) fun v=>k v H24) H24 fun v33 H25=>gd v27 true (fun k=>opt (lenSlc v33) fun v=>k v H25) H25 fun v34 H26=>gd v27 true (fun k=>opt (aA .geq v34 (.int .i64 32)) fun v=>k v H26) H26 fun v35 H27=>opt (pick v27 v35 (.bool false)) fun v36=>ifB v36 (
 Q (.int .i64 28) H27) (
 E.call (E.fid i.f51) [x4] H27 fun v37 H28=>opt (un .not v37) fun v38=>ifB v38 (
 Q (.int .i64 22) H28) (
 E.call (E.fid i.f66) [x0,x3] H28 fun v39 H29=>opt (aG v39) fun v40=>opt (aB v40 5) fun v41=>opt (aC v41 H29) fun v42=>opt (aA .eql v42 (.int .i64 0)) fun v43=>ifB v43 (
 Q (.int .i64 2) H29) (
 E.call (E.fid i.f66) [x0,v2] H29 fun v44 H30=>opt (aG v44) fun v45=>opt (aB v45 0) fun v46=>opt (aC v46 H30) fun v47=>opt (aA .eql v47 (.int .i64 2)) fun v48=>gd v48 true (fun k=>k x0 H30) H30 fun v49 H31=>gd v48 true (fun k=>k x3 H31) H31 fun v50 H32=>gd v48 true (fun k=>k v2 H32) H32 fun v51 H33=>gd v48 true (fun k=>E.call (E.fid i.f70) [v49,v50,v51] H33 fun v h=>k v h) H33 fun v52 H34=>opt (pick v48 v52 (.bool false)) fun v53=>ifB v53 (
 Q (.int .i64 22) H34) (
 gd v48 true (fun k=>k x0 H34) H34 fun v54 H35=>gd v48 true (fun k=>k x3 H35) H35 fun v55 H36=>gd v48 true (fun k=>E.call (E.fid i.f72) [v54,v55] H36 fun v h=>k v h) H36 fun v56 H37=>gd v48 true (fun k=>k x0 H37) H37 fun v57 H38=>gd v48 true (fun k=>k v2 H38) H38 fun v58 H39=>gd v48 true (fun k=>E.call (E.fid i.f76) [v57,v58] H39 fun v h=>k v h) H39 fun v59 H40=>gd v48 true (fun k=>opt (aA .add v56 v59) fun v=>k v H40) H40 fun v60 H41=>gd v48 true (fun k=>opt (aA .gtr v60 (.int .i64 16)) fun v=>k v H41) H41 fun v61 H42=>opt (pick v48 v61 (.bool false)) fun v62=>ifB v62 (
 Q (.int .i64 28) H42) (
 opt (aA .geq v8 (.int .i64 0)) fun v63=>ifB v63 (
 E.call (E.fid i.f66) [x0,x3] H42 fun v64 H43=>opt (aG v64) fun v65=>opt (aB v65 2) fun v66=>opt (aC v66 H43) fun v67=>opt (aM 2 v67 v8) fun v68=>opt (aB v68 1) fun v69=>opt (aC v69 H43) fun v70=>E.call (E.fid i.f66) [x0,v70] H43 fun v71 H44=>gd v48 true (fun k=>k v71 H44) H44 fun v72 H45=>gd v48 true (fun k=>opt (aG v72) fun v=>k v H45) H45 fun v73 H46=>gd v48 true (fun k=>opt (aB v73 0) fun v=>k v H46) H46 fun v74 H47=>gd v48 true (fun k=>opt (aC v74 H47) fun v=>k v H47) H47 fun v75 H48=>gd v48 true (fun k=>opt (aA .neq v75 (.int .i64 2)) fun v=>k v H48) H48 fun v76 H49=>opt (pick v48 v76 (.bool false)) fun v77=>ifB v77 (
 Q (.int .i64 20) H49) (
 opt (un .not v48) fun v78=>gd v78 true (fun k=>k v71 H49) H49 fun v79 H50=>gd v78 true (fun k=>opt (aG v79) fun v=>k v H50) H50 fun v80 H51=>gd v78 true (fun k=>opt (aB v80 0) fun v=>k v H51) H51 fun v81 H52=>gd v78 true (fun k=>opt (aC v81 H52) fun v=>k v H52) H52 fun v82 H53=>gd v78 true (fun k=>opt (aA .eql v82 (.int .i64 2)) fun v=>k v H53) H53 fun v83 H54=>opt (pick v78 v83 (.bool false)) fun v84=>ifB v84 (
 Q (.int .i64 21) H54) (
 gd v48 true (fun k=>k v71 H54) H54 fun v85 H55=>gd v48 true (fun k=>opt (aG v85) fun v=>k v H55) H55 fun v86 H56=>gd v48 true (fun k=>opt (aB v86 2) fun v=>k v H56) H56 fun v87 H57=>gd v48 true (fun k=>opt (aC v87 H57) fun v=>k v H57) H57 fun v88 H58=>gd v48 true (fun k=>opt (lenSlc v88) fun v=>k v H58) H58 fun v89 H59=>gd v48 true (fun k=>opt (aA .gtr v89 (.int .i64 0)) fun v=>k v H59) H59 fun v90 H60=>opt (pick v48 v90 (.bool false)) fun v91=>ifB v91 (
 Q (.int .i64 39) H60) (
 E.call (E.fid i.f60) [x0,x3,x4,v48] H60 fun v92 H61=>F.f65_j1 E Q x0 x1 x2 x3 x4 v2 v48 H61)))) (
 F.f65_j1 E Q x0 x1 x2 x3 x4 v2 v48 H42)))))))))

def F.f15 (E:Sy) (x0 x1 x2 x3:Value) (H:AH) (Q:VK):Prop :=
 E.call (E.fid i.f9) [x0,x1] H fun v1 H1=>opt (cQ eI .eql v1 (.pointer none)) fun v2=>ifB v2 (
 Q (.int .i64 2) H1) (
 opt (aG v1) fun v3=>opt (aB v3 1) fun v4=>opt (aC v4 H1) fun v5=>opt (aA .eql v5 (.int .u8 2)) fun v6=>ifB v6 (
 Q (.int .i64 21) H1) (
 opt (aG v1) fun v7=>opt (aB v7 1) fun v8=>opt (aC v8 H1) fun v9=>opt (aA .neq v9 (.int .u8 1)) fun v10=>gd v10 false (fun k=>k x2 H1) H1 fun v11 H2=>gd v10 false (fun k=>opt (aA .lss v11 (.int .i64 0)) fun v=>k v H2) H2 fun v12 H3=>opt (pick v10 (.bool true) v12) fun v13=>ifB v13 (
 Q (.int .i64 22) H3) (
 opt (aA .gtr x2 (.int .i64 1024)) fun v14=>gd v14 false (fun k=>k x3 H3) H3 fun v15 H4=>gd v14 false (fun k=>opt (lenSlc v15) fun v=>k v H4) H4 fun v16 H5=>gd v14 false (fun k=>k x2 H5) H5 fun v17 H6=>gd v14 false (fun k=>opt (aA .sub (.int .i64 1024) v17) fun v=>k v H6) H6 fun v18 H7=>gd v14 false (fun k=>opt (aA .gtr v16 v18) fun v=>k v H7) H7 fun v19 H8=>opt (pick v14 (.bool true) v19) fun v20=>ifB v20 (
 Q (.int .i64 27) H8) (
 opt (aG v1) fun v21=>opt (aB v21 2) fun v22=>opt (aC v22 H8) fun v23=>opt (lenSlc v23) fun v24=>opt (lenSlc x3) fun v25=>opt (aA .add x2 v25) fun v26=>opt (iY max2 [v24,v26]) fun v27=>mk (vR 1 1 #[(.int .u8 0)] v27 v27) H8 fun v28 H9=>opt (aG v1) fun v29=>opt (aB v29 2) fun v30=>opt (aC v30 H9) fun v31=>gG (uF 1 v28 v31 H9) fun v32 H10=>opt (eJ 1 v28 (some x2) none none H10) fun v33=>gG (uF 1 v33 x3 H10) fun v34 H11=>opt (aG v1) fun v35=>opt (aB v35 2) fun v36=>opt (aR v36 v28 H11) fun H12=>opt (aG x0) fun v37=>opt (aB v37 2) fun v38=>E.call (E.fid i.f108) [v38,(.int .i64 1)] H12 fun v39 H13=>Q (.int .i64 0) H13))))

def F.f71_l2 (E:Sy) (Q:VK) (t0 t2 t3 t9 t10 t11:Value) (H:AH) (X0:LK):Prop :=
 opt (lenSlc t3) fun v1=>opt (aA .lss t11 v1) fun v2=>ifB v2 (
 opt (aA .add t2 t11) fun v3=>opt (aM 1 t3 t11) fun v4=>opt (aC v4 H) fun v5=>opt (aM 1 t10 v3) fun v6=>opt (aR v6 v5 H) fun H1=>opt (aA .add t11 (.int .i64 1)) fun v7=>X0 [t0,t2,t3,t9,t10,v7] H1) (
 opt (aG t9) fun v8=>opt (aB v8 1) fun v9=>opt (aR v9 t10 H) fun H2=>opt (aG t0) fun v10=>opt (aB v10 4) fun v11=>opt (aC v11 H2) fun v12=>opt (aA .add v12 (.int .i64 1)) fun v13=>opt (aG t0) fun v14=>opt (aB v14 4) fun v15=>opt (aR v15 v13 H2) fun H3=>Q (.int .i64 0) H3)
def F.f71_l1 (E:Sy) (Q:VK) (t0 t2 t3 t9 t10:Value) (H:AH) (X0:LK):Prop :=
 opt (lenSlc t10) fun v1=>opt (lenSlc t3) fun v2=>opt (aA .add t2 v2) fun v3=>opt (aA .lss v1 v3) fun v4=>ifB v4 (
 mk (buildS 1 1 #[(.int .u8 0)] [(0,(.int .u8 0))]) H fun v5 H1=>gG (app 1 1 t10 v5 H1) fun v6 H2=>X0 [t0,t2,t3,t9,v6] H2) (
 aT (fun l H X0=>F.f71_l2 E Q (nth l 0) (nth l 1) (nth l 2) (nth l 3) (nth l 4) (nth l 5) H X0) [t0,t2,t3,t9,t10,(.int .i64 0)] H)
def F.f71 (E:Sy) (x0 x1 x2 x3:Value) (H:AH) (Q:VK):Prop :=
 E.call (E.fid i.f66) [x0,x1] H fun v1 H1=>opt (aG v1) fun v2=>opt (aB v2 0) fun v3=>opt (aC v3 H1) fun v4=>opt (aA .eql v4 (.int .i64 0)) fun v5=>ifB v5 (
 Q (.int .i64 2) H1) (
 opt (aG v1) fun v6=>opt (aB v6 0) fun v7=>opt (aC v7 H1) fun v8=>opt (aA .eql v8 (.int .i64 2)) fun v9=>ifB v9 (
 Q (.int .i64 21) H1) (
 opt (aG v1) fun v10=>opt (aB v10 0) fun v11=>opt (aC v11 H1) fun v12=>opt (aA .neq v12 (.int .i64 1)) fun v13=>gd v13 false (fun k=>k x2 H1) H1 fun v14 H2=>gd v13 false (fun k=>opt (aA .lss v14 (.int .i64 0)) fun v=>k v H2) H2 fun v15 H3=>opt (pick v13 (.bool true) v15) fun v16=>ifB v16 (
 Q (.int .i64 22) H3) (
 opt (aA .gtr x2 (.int .i64 1024)) fun v17=>gd v17 false (fun k=>k x2 H3) H3 fun v18 H4=>gd v17 false (fun k=>k x3 H4) H4 fun v19 H5=>gd v17 false (fun k=>opt (lenSlc v19) fun v=>k v H5) H5 fun v20 H6=>gd v17 false (fun k=>opt (aA .add v18 v20) fun v=>k v H6) H6 fun v21 H7=>gd v17 false (fun k=>opt (aA .gtr v21 (.int .i64 1024)) fun v=>k v H7) H7 fun v22 H8=>opt (pick v17 (.bool true) v22) fun v23=>ifB v23 (
 Q (.int .i64 27) H8) (
 mk (buildS 0 1 #[(.int .u8 0)] []) H8 fun v24 H9=>opt (aG v1) fun v25=>opt (aB v25 1) fun v26=>opt (aC v26 H9) fun v27=>gG (app 1 1 v24 v27 H9) fun v28 H10=>aT (fun l H X0=>F.f71_l1 E Q (nth l 0) (nth l 1) (nth l 2) (nth l 3) (nth l 4) H X0) [x0,x2,x3,v1,v28] H10))))

def F.f6 (E:Sy) (x0 x1 x2:Value) (H:AH) (Q:VK):Prop :=
 E.call (E.fid i.f9) [x0,x1] H fun v1 H1=>opt (cQ eI .eql v1 (.pointer none)) fun v2=>ifB v2 (
 Q (.int .i64 2) H1) (
 opt (aG v1) fun v3=>opt (aB v3 1) fun v4=>opt (aC v4 H1) fun v5=>opt (aA .eql v5 (.int .u8 2)) fun v6=>ifB v6 (
 Q (.int .i64 21) H1) (
 opt (aG v1) fun v7=>opt (aB v7 1) fun v8=>opt (aC v8 H1) fun v9=>opt (aA .neq v9 (.int .u8 1)) fun v10=>gd v10 false (fun k=>k x2 H1) H1 fun v11 H2=>gd v10 false (fun k=>opt (aA .lss v11 (.int .i64 0)) fun v=>k v H2) H2 fun v12 H3=>opt (pick v10 (.bool true) v12) fun v13=>ifB v13 (
 Q (.int .i64 22) H3) (
 opt (aA .gtr x2 (.int .i64 1024)) fun v14=>ifB v14 (
 Q (.int .i64 27) H3) (
 mk (vR 1 1 #[(.int .u8 0)] x2 x2) H3 fun v15 H4=>opt (aG v1) fun v16=>opt (aB v16 2) fun v17=>opt (aC v17 H4) fun v18=>gG (uF 1 v15 v18 H4) fun v19 H5=>opt (aG v1) fun v20=>opt (aB v20 2) fun v21=>opt (aR v21 v15 H5) fun H6=>opt (aG x0) fun v22=>opt (aB v22 2) fun v23=>E.call (E.fid i.f108) [v23,(.int .i64 1)] H6 fun v24 H7=>Q (.int .i64 0) H7))))

def F.f57_l1 (E:Sy) (Q:VK) (t0 t2 t7 t8:Value) (H:AH) (X0:LK):Prop :=
 opt (lenSlc t8) fun v1=>opt (aA .lss v1 t2) fun v2=>ifB v2 (
 mk (buildS 1 1 #[(.int .u8 0)] [(0,(.int .u8 0))]) H fun v3 H1=>gG (app 1 1 t8 v3 H1) fun v4 H2=>X0 [t0,t2,t7,v4] H2) (
 opt (eJ 1 t8 none (some t2) none H) fun v5=>opt (aG t7) fun v6=>opt (aB v6 1) fun v7=>opt (aR v7 v5 H) fun H3=>opt (aG t0) fun v8=>opt (aB v8 4) fun v9=>opt (aC v9 H3) fun v10=>opt (aA .add v10 (.int .i64 1)) fun v11=>opt (aG t0) fun v12=>opt (aB v12 4) fun v13=>opt (aR v13 v11 H3) fun H4=>Q (.int .i64 0) H4)
def F.f57 (E:Sy) (x0 x1 x2:Value) (H:AH) (Q:VK):Prop :=
 E.call (E.fid i.f66) [x0,x1] H fun v1 H1=>opt (aG v1) fun v2=>opt (aB v2 0) fun v3=>opt (aC v3 H1) fun v4=>opt (aA .eql v4 (.int .i64 0)) fun v5=>ifB v5 (
 Q (.int .i64 2) H1) (
 opt (aG v1) fun v6=>opt (aB v6 0) fun v7=>opt (aC v7 H1) fun v8=>opt (aA .eql v8 (.int .i64 2)) fun v9=>ifB v9 (
 Q (.int .i64 21) H1) (
 opt (aG v1) fun v10=>opt (aB v10 0) fun v11=>opt (aC v11 H1) fun v12=>opt (aA .neq v12 (.int .i64 1)) fun v13=>gd v13 false (fun k=>k x2 H1) H1 fun v14 H2=>gd v13 false (fun k=>opt (aA .lss v14 (.int .i64 0)) fun v=>k v H2) H2 fun v15 H3=>opt (pick v13 (.bool true) v15) fun v16=>ifB v16 (
 Q (.int .i64 22) H3) (
 opt (aA .gtr x2 (.int .i64 1024)) fun v17=>ifB v17 (
 Q (.int .i64 27) H3) (
 mk (buildS 0 1 #[(.int .u8 0)] []) H3 fun v18 H4=>opt (aG v1) fun v19=>opt (aB v19 1) fun v20=>opt (aC v20 H4) fun v21=>gG (app 1 1 v18 v21 H4) fun v22 H5=>aT (fun l H X0=>F.f57_l1 E Q (nth l 0) (nth l 1) (nth l 2) (nth l 3) H X0) [x0,x2,v1,v22] H5))))

def F.f63 (E:Sy) (x0 x1 x2:Value) (H:AH) (Q:VK):Prop :=
 E.call (E.fid i.f73) [x0,x1] H fun v1 H1=>opt (aA .neq v1 (.int .i64 0)) fun v2=>ifB v2 (
 Q (.tuple #[(.int .i64 0),v1]) H1) (
 E.call (E.fid i.f66) [x0,x1] H1 fun v3 H2=>E.call (E.fid i.f78) [v3,x2] H2 fun v4 H3=>opt (aA .lss v4 (.int .i64 0)) fun v5=>ifB v5 (
 Q (.tuple #[(.int .i64 0),(.int .i64 2)]) H3) (
 opt (aG v3) fun v6=>opt (aB v6 2) fun v7=>opt (aC v7 H3) fun v8=>opt (aM 2 v8 v4) fun v9=>opt (aB v9 1) fun v10=>opt (aC v10 H3) fun v11=>Q (.tuple #[v11,(.int .i64 0)]) H3))

def F.f21 (E:Sy) (x0 x1:Value) (H:AH) (Q:VK):Prop :=
 opt (aG x0) fun v1=>opt (aB v1 0) fun v2=>opt (aC v2 H) fun v3=>opt (look 0 (.pointer none) false v3 x1 H) fun v4=>opt (cQ eI .neq v4 (.pointer none)) fun v5=>gd v5 true (fun k=>k v4 H) H fun v6 H1=>gd v5 true (fun k=>opt (aG v6) fun v=>k v H1) H1 fun v7 H2=>gd v5 true (fun k=>opt (aB v7 6) fun v=>k v H2) H2 fun v8 H3=>gd v5 true (fun k=>opt (aC v8 H3) fun v=>k v H3) H3 fun v9 H4=>gd v5 true (fun k=>opt (aA .eql v9 (.int .i64 0)) fun v=>k v H4) H4 fun v10 H5=>opt (pick v5 v10 (.bool false)) fun v11=>gd v11 true (fun k=>k v4 H5) H5 fun v12 H6=>gd v11 true (fun k=>opt (aG v12) fun v=>k v H6) H6 fun v13 H7=>gd v11 true (fun k=>opt (aB v13 7) fun v=>k v H7) H7 fun v14 H8=>gd v11 true (fun k=>opt (aC v14 H8) fun v=>k v H8) H8 fun v15 H9=>gd v11 true (fun k=>opt (aA .eql v15 (.int .i64 0)) fun v=>k v H9) H9 fun v16 H10=>opt (pick v11 v16 (.bool false)) fun v17=>ifB v17 (
 opt (aG x0) fun v18=>opt (aB v18 0) fun v19=>opt (aC v19 H10) fun v20=>opt (jJ 0 v20 x1 H10) fun H11=>Q (.tuple #[]) H11) (
 Q (.tuple #[]) H10)

def F.f77 (E:Sy) (x0 x1:Value) (H:AH) (Q:VK):Prop :=
 opt (aG x0) fun v1=>opt (aB v1 0) fun v2=>opt (aC v2 H) fun v3=>opt (aM 7 v3 x1) fun v4=>opt (aB v4 5) fun v5=>opt (aC v5 H) fun v6=>opt (aA .eql v6 (.int .i64 0)) fun v7=>gd v7 true (fun k=>k x0 H) H fun v8 H1=>gd v7 true (fun k=>opt (aG v8) fun v=>k v H1) H1 fun v9 H2=>gd v7 true (fun k=>opt (aB v9 0) fun v=>k v H2) H2 fun v10 H3=>gd v7 true (fun k=>opt (aC v10 H3) fun v=>k v H3) H3 fun v11 H4=>gd v7 true (fun k=>k x1 H4) H4 fun v12 H5=>gd v7 true (fun k=>opt (aM 7 v11 v12) fun v=>k v H5) H5 fun v13 H6=>gd v7 true (fun k=>opt (aB v13 6) fun v=>k v H6) H6 fun v14 H7=>gd v7 true (fun k=>opt (aC v14 H7) fun v=>k v H7) H7 fun v15 H8=>gd v7 true (fun k=>opt (aA .eql v15 (.int .i64 0)) fun v=>k v H8) H8 fun v16 H9=>opt (pick v7 v16 (.bool false)) fun v17=>ifB v17 (
 opt (aG x0) fun v18=>opt (aB v18 0) fun v19=>opt (aC v19 H9) fun v20=>opt (bN [(0,1),(1,1),(2,1),(3,1),(4,1),(5,1),(6,1)] #[(.int .i64 0),(.slice none 0 0),(.slice none 0 0),(.int .i64 0),(.string ⟨#[]⟩),(.int .i64 0),(.int .i64 0)] []) fun v21=>opt (aM 7 v20 x1) fun v22=>opt (storeN 7 v22 v21 H9) fun H10=>Q (.tuple #[]) H10) (
 Q (.tuple #[]) H9)

def F.f82 (E:Sy) (x0:Value) (H:AH) (Q:VK):Prop :=
 opt (lenSlc x0) fun v1=>opt (bQ .u64 v1) fun v2=>E.call (E.fid i.f30) [v2] H fun v3 H1=>E.call (E.fid i.f94) [x0,(.int .i64 0),v1,v3] H1 fun v4 H2=>Q (.tuple #[]) H2

def F.f40 (E:Sy) (x0 x1:Value) (H:AH) (Q:VK):Prop :=
 mk (gD x0) H fun v1 H1=>opt (aB v1 0) fun v2=>opt (aC v2 H1) fun v3=>opt (aC x1 H1) fun v4=>opt (aA .eql v3 v4) fun v5=>Q v5 H1

def F.f101 (E:Sy) (x0 x1:Value) (H:AH) (Q:VK):Prop :=
 E.call (E.fid i.f106) [x0,x1,(.bool true)] H fun v1 H1=>Q v1 H1

def F.f3 (E:Sy) (x0:Value) (H:AH) (Q:VK):Prop :=
 opt (aA .lss x0 (.int .i32 33)) fun v1=>gd v1 false (fun k=>k x0 H) H fun v2 H1=>gd v1 false (fun k=>opt (aA .gtr v2 (.int .i32 126)) fun v=>k v H1) H1 fun v3 H2=>opt (pick v1 (.bool true) v3) fun v4=>gd v4 false (fun k=>k x0 H2) H2 fun v5 H3=>gd v4 false (fun k=>opt (aA .eql v5 (.int .i32 47)) fun v=>k v H3) H3 fun v6 H4=>opt (pick v4 (.bool true) v6) fun v7=>gd v7 false (fun k=>k x0 H4) H4 fun v8 H5=>gd v7 false (fun k=>opt (aA .eql v8 (.int .i32 35)) fun v=>k v H5) H5 fun v9 H6=>opt (pick v7 (.bool true) v9) fun v10=>Q v10 H6

def F.f103 (E:Sy) (x0 x1:Value) (H:AH) (Q:VK):Prop :=
 E.call (E.fid i.f105) [x0,x1,(.int .i64 0),(.int .i64 (-1))] H fun v1 H1=>Q v1 H1

def F.f75 (E:Sy) (x0 x1 x2:Value) (H:AH) (Q:VK):Prop :=
 E.call (E.fid i.f73) [x0,x1] H fun v1 H1=>opt (aA .neq v1 (.int .i64 0)) fun v2=>ifB v2 (
 Q v1 H1) (
 E.call (E.fid i.f66) [x0,x1] H1 fun v3 H2=>E.call (E.fid i.f51) [x2] H2 fun v4 H3=>opt (un .not v4) fun v5=>ifB v5 (
 Q (.int .i64 22) H3) (
 E.call (E.fid i.f78) [v3,x2] H3 fun v6 H4=>opt (aA .geq v6 (.int .i64 0)) fun v7=>ifB v7 (
 Q (.int .i64 17) H4) (
 opt (aG v3) fun v8=>opt (aB v8 5) fun v9=>opt (aC v9 H4) fun v10=>opt (aA .eql v10 (.int .i64 0)) fun v11=>ifB v11 (
 Q (.int .i64 2) H4) (
 opt (aG v3) fun v12=>opt (aB v12 2) fun v13=>opt (aC v13 H4) fun v14=>opt (lenSlc v14) fun v15=>opt (aA .geq v15 (.int .i64 32)) fun v16=>ifB v16 (
 Q (.int .i64 28) H4) (
 Q (.int .i64 0) H4)))))

def F.f62_l1 (E:Sy) (Q:VK) (t0 t3 t4:Value) (H:AH) (X0:LK):Prop :=
 opt (aG t0) fun v1=>opt (aB v1 0) fun v2=>opt (aC v2 H) fun v3=>opt (lenSlc v3) fun v4=>opt (aA .lss t4 v4) fun v5=>ifB v5 (
 opt (aG t0) fun v6=>opt (aB v6 0) fun v7=>opt (aC v7 H) fun v8=>opt (aM 7 v8 t4) fun v9=>opt (aB v9 0) fun v10=>opt (aC v10 H) fun v11=>opt (aA .gtr v11 (.int .i64 0)) fun v12=>ifB v12 (
 opt (aA .add t3 (.int .i64 1)) fun v13=>opt (aA .add t4 (.int .i64 1)) fun v14=>X0 [t0,v13,v14] H) (
 opt (aA .add t4 (.int .i64 1)) fun v15=>X0 [t0,t3,v15] H)) (
 Q t3 H)
def F.f62 (E:Sy) (x0:Value) (H:AH) (Q:VK):Prop :=
 aT (fun l H X0=>F.f62_l1 E Q (nth l 0) (nth l 1) (nth l 2) H X0) [x0,(.int .i64 0),(.int .i64 0)] H

def F.f72_l1 (E:Sy) (Q:VK) (t0 t1 t5:Value) (H:AH) (X0:LK):Prop :=
 opt (aA .neq t1 (.int .i64 1)) fun v1=>gd v1 true (fun k=>k t5 H) H fun v2 H1=>gd v1 true (fun k=>opt (aA .lss v2 (.int .i64 20)) fun v=>k v H1) H1 fun v3 H2=>opt (pick v1 v3 (.bool false)) fun v4=>ifB v4 (
 E.call (E.fid i.f66) [t0,t1] H2 fun v5 H3=>opt (aG v5) fun v6=>opt (aB v6 3) fun v7=>opt (aC v7 H3) fun v8=>opt (aA .add t5 (.int .i64 1)) fun v9=>X0 [t0,v8,v9] H3) (
 Q t5 H2)
def F.f72 (E:Sy) (x0 x1:Value) (H:AH) (Q:VK):Prop :=
 aT (fun l H X0=>F.f72_l1 E Q (nth l 0) (nth l 1) (nth l 2) H X0) [x0,x1,(.int .i64 0)] H

def F.f79_l1 (E:Sy) (Q:VK) (t0 t3 t5:Value) (H:AH) (X0:LK):Prop :=
 opt (lenSlc t0) fun v1=>opt (aA .lss t5 v1) fun v2=>gd v2 true (fun k=>k t0 H) H fun v3 H1=>gd v2 true (fun k=>k t5 H1) H1 fun v4 H2=>gd v2 true (fun k=>opt (aM 2 v3 v4) fun v=>k v H2) H2 fun v5 H3=>gd v2 true (fun k=>opt (aB v5 0) fun v=>k v H3) H3 fun v6 H4=>gd v2 true (fun k=>opt (aC v6 H4) fun v=>k v H4) H4 fun v7 H5=>gd v2 true (fun k=>opt (aB t3 0) fun v=>k v H5) H5 fun v8 H6=>gd v2 true (fun k=>opt (aC v8 H6) fun v=>k v H6) H6 fun v9 H7=>gd v2 true (fun k=>opt (cK .lss v7 v9) fun v=>k v H7) H7 fun v10 H8=>opt (pick v2 v10 (.bool false)) fun v11=>ifB v11 (
 opt (aA .add t5 (.int .i64 1)) fun v12=>X0 [t0,t3,v12] H8) (
 mk (buildS 0 2 #[(.string ⟨#[]⟩),(.int .i64 0)] []) H8 fun v13 H9=>opt (eJ 2 t0 none (some t5) none H9) fun v14=>opt (aL 2 t3 H9) fun v15=>mk (buildS 1 2 #[(.string ⟨#[]⟩),(.int .i64 0)] [(0,v15)]) H9 fun v16 H10=>opt (eJ 2 t0 (some t5) none none H10) fun v17=>gG (app 2 24 v13 v14 H10) fun v18 H11=>eJ 2 t0 (some t5) none none H11=eJ 2 t0 (some t5) none none H10 /\
 H11.get H9.next=H10.get H9.next /\
 aL 2 t3 H11=aL 2 t3 H9 /\
 gG (app 2 24 v18 v16 H11) fun v19 H12=>eJ 2 t0 (some t5) none none H12=eJ 2 t0 (some t5) none none H10 /\
 gG (app 2 24 v19 v17 H12) fun v20 H13=>Q v20 H13)
def F.f79 (E:Sy) (x0 x1:Value) (H:AH) (Q:VK):Prop :=
 mk (gD x1) H fun v1 H1=>aT (fun l H X0=>F.f79_l1 E Q (nth l 0) (nth l 1) (nth l 2) H X0) [x0,v1,(.int .i64 0)] H1

def F.f78_l1 (E:Sy) (Q:VK) (t0 t1 t5:Value) (H:AH) (X0:LK):Prop :=
 opt (aG t0) fun v1=>opt (aB v1 2) fun v2=>opt (aC v2 H) fun v3=>opt (lenSlc v3) fun v4=>opt (aA .lss t5 v4) fun v5=>ifB v5 (
 opt (aG t0) fun v6=>opt (aB v6 2) fun v7=>opt (aC v7 H) fun v8=>opt (aM 2 v8 t5) fun v9=>opt (aB v9 0) fun v10=>opt (aC v10 H) fun v11=>opt (cK .eql v11 t1) fun v12=>ifB v12 (
 Q t5 H) (
 opt (aA .add t5 (.int .i64 1)) fun v13=>X0 [t0,t1,v13] H)) (
 Q (.int .i64 (-1)) H)
def F.f78 (E:Sy) (x0 x1:Value) (H:AH) (Q:VK):Prop :=
 aT (fun l H X0=>F.f78_l1 E Q (nth l 0) (nth l 1) (nth l 2) H X0) [x0,x1,(.int .i64 0)] H

def F.f80 (E:Sy) (x0 x1:Value) (H:AH) (Q:VK):Prop :=
 mk (buildS 0 2 #[(.string ⟨#[]⟩),(.int .i64 0)] []) H fun v1 H1=>opt (eJ 2 x0 none (some x1) none H1) fun v2=>opt (aA .add x1 (.int .i64 1)) fun v3=>opt (eJ 2 x0 (some v3) none none H1) fun v4=>gG (app 2 24 v1 v2 H1) fun v5 H2=>eJ 2 x0 (some v3) none none H2=eJ 2 x0 (some v3) none none H1 /\
 gG (app 2 24 v5 v4 H2) fun v6 H3=>Q v6 H3

def F.f18 (E:Sy) (x0 x1 x2 x3 x4 x5:Value) (H:AH) (Q:VK):Prop :=
 E.call (E.fid i.f2) [x3] H fun v1 H1=>opt (un .not v1) fun v2=>ifB v2 (
 Q (.int .i64 22) H1) (
 opt (aG x2) fun v3=>opt (aB v3 6) fun v4=>opt (aC v4 H1) fun v5=>opt (aA .eql v5 (.int .i64 0)) fun v6=>ifB v6 (
 Q (.int .i64 2) H1) (
 opt (aG x1) fun v7=>opt (aB v7 1) fun v8=>opt (aC v8 H1) fun v9=>opt (aA .eql v9 (.int .u8 2)) fun v10=>gd v10 true (fun k=>k x0 H1) H1 fun v11 H2=>gd v10 true (fun k=>k x2 H2) H2 fun v12 H3=>gd v10 true (fun k=>opt (aG v12) fun v=>k v H3) H3 fun v13 H4=>gd v10 true (fun k=>opt (aB v13 0) fun v=>k v H4) H4 fun v14 H5=>gd v10 true (fun k=>opt (aC v14 H5) fun v=>k v H5) H5 fun v15 H6=>gd v10 true (fun k=>k x1 H6) H6 fun v16 H7=>gd v10 true (fun k=>opt (aG v16) fun v=>k v H7) H7 fun v17 H8=>gd v10 true (fun k=>opt (aB v17 0) fun v=>k v H8) H8 fun v18 H9=>gd v10 true (fun k=>opt (aC v18 H9) fun v=>k v H9) H9 fun v19 H10=>gd v10 true (fun k=>E.call (E.fid i.f14) [v11,v15,v19] H10 fun v h=>k v h) H10 fun v20 H11=>opt (pick v10 v20 (.bool false)) fun v21=>ifB v21 (
 Q (.int .i64 22) H11) (
 opt (aG x1) fun v22=>opt (aB v22 1) fun v23=>opt (aC v23 H11) fun v24=>opt (aA .eql v24 (.int .u8 2)) fun v25=>gd v25 true (fun k=>k x0 H11) H11 fun v26 H12=>gd v25 true (fun k=>k x2 H12) H12 fun v27 H13=>gd v25 true (fun k=>opt (aG v27) fun v=>k v H13) H13 fun v28 H14=>gd v25 true (fun k=>opt (aB v28 0) fun v=>k v H14) H14 fun v29 H15=>gd v25 true (fun k=>opt (aC v29 H15) fun v=>k v H15) H15 fun v30 H16=>gd v25 true (fun k=>k x0 H16) H16 fun v31 H17=>gd v25 true (fun k=>k x1 H17) H17 fun v32 H18=>gd v25 true (fun k=>opt (aG v32) fun v=>k v H18) H18 fun v33 H19=>gd v25 true (fun k=>opt (aB v33 0) fun v=>k v H19) H19 fun v34 H20=>gd v25 true (fun k=>opt (aC v34 H20) fun v=>k v H20) H20 fun v35 H21=>gd v25 true (fun k=>E.call (E.fid i.f16) [v26,v30] H21 fun v h=>k v h) H21 fun v36 H22=>gdC v25 true (aC v34 H22=aC v34 H20) /\
 gd v25 true (fun k=>E.call (E.fid i.f20) [v31,v35] H22 fun v h=>k v h) H22 fun v37 H23=>gd v25 true (fun k=>opt (aA .add v36 v37) fun v=>k v H23) H23 fun v38 H24=>gd v25 true (fun k=>opt (aA .gtr v38 (.int .i64 16)) fun v=>k v H24) H24 fun v39 H25=>opt (pick v25 v39 (.bool false)) fun v40=>ifB v40 (
 Q (.int .i64 28) H25) (
 opt (un .not x4) fun v41=>ifB v41 (
 Q (.int .i64 0) H25) (
 opt (aG x0) fun v42=>opt (aB v42 0) fun v43=>opt (aC v43 H25) fun v44=>opt (look 0 (.pointer none) false v44 x5 H25) fun v45=>opt (aG x1) fun v46=>opt (aB v46 1) fun v47=>opt (aC v47 H25) fun v48=>opt (aA .eql v48 (.int .u8 2)) fun v49=>gd v49 true (fun k=>k v45 H25) H25 fun v50 H26=>gd v49 true (fun k=>opt (aG v50) fun v=>k v H26) H26 fun v51 H27=>gd v49 true (fun k=>opt (aB v51 1) fun v=>k v H27) H27 fun v52 H28=>gd v49 true (fun k=>opt (aC v52 H28) fun v=>k v H28) H28 fun v53 H29=>gd v49 true (fun k=>opt (aA .neq v53 (.int .u8 2)) fun v=>k v H29) H29 fun v54 H30=>opt (pick v49 v54 (.bool false)) fun v55=>ifB v55 (
 Q (.int .i64 20) H30) (
 opt (aG x1) fun v56=>opt (aB v56 1) fun v57=>opt (aC v57 H30) fun v58=>opt (aA .neq v58 (.int .u8 2)) fun v59=>gd v59 true (fun k=>k v45 H30) H30 fun v60 H31=>gd v59 true (fun k=>opt (aG v60) fun v=>k v H31) H31 fun v61 H32=>gd v59 true (fun k=>opt (aB v61 1) fun v=>k v H32) H32 fun v62 H33=>gd v59 true (fun k=>opt (aC v62 H33) fun v=>k v H33) H33 fun v63 H34=>gd v59 true (fun k=>opt (aA .eql v63 (.int .u8 2)) fun v=>k v H34) H34 fun v64 H35=>opt (pick v59 v64 (.bool false)) fun v65=>ifB v65 (
 Q (.int .i64 21) H35) (
 opt (aG v45) fun v66=>opt (aB v66 1) fun v67=>opt (aC v67 H35) fun v68=>opt (aA .eql v68 (.int .u8 2)) fun v69=>gd v69 true (fun k=>k v45 H35) H35 fun v70 H36=>gd v69 true (fun k=>opt (aG v70) fun v=>k v H36) H36 fun v71 H37=>gd v69 true (fun k=>opt (aB v71 3) fun v=>k v H37) H37 fun v72 H38=>gd v69 true (fun k=>opt (aC v72 H38) fun v=>k v H38) H38 fun v73 H39=>gd v69 true (fun k=>opt (iS v73 H39) fun v=>k v H39) H39 fun v74 H40=>gd v69 true (fun k=>opt (aA .gtr v74 (.int .i64 0)) fun v=>k v H40) H40 fun v75 H41=>opt (pick v69 v75 (.bool false)) fun v76=>ifB v76 (
 Q (.int .i64 39) H41) (
 Q (.int .i64 0) H41))))))))

def F.f73 (E:Sy) (x0 x1:Value) (H:AH) (Q:VK):Prop :=
 E.call (E.fid i.f66) [x0,x1] H fun v1 H1=>opt (aG v1) fun v2=>opt (aB v2 0) fun v3=>opt (aC v3 H1) fun v4=>opt (aA .eql v4 (.int .i64 0)) fun v5=>ifB v5 (
 Q (.int .i64 2) H1) (
 opt (aA .eql v4 (.int .i64 2)) fun v6=>ifB v6 (
 Q (.int .i64 0) H1) (
 Q (.int .i64 20) H1))

def F.f51_l1 (E:Sy) (Q:VK) (t0 t3:Value) (H:AH) (X0:LK):Prop :=
 opt (dS t0) fun v1=>opt (aA .lss t3 v1) fun v2=>ifB v2 (
 opt (fU t0 t3) fun v3=>opt (aA .lss v3 (.int .u8 33)) fun v4=>gd v4 false (fun k=>k t0 H) H fun v5 H1=>gd v4 false (fun k=>k t3 H1) H1 fun v6 H2=>gd v4 false (fun k=>opt (fU v5 v6) fun v=>k v H2) H2 fun v7 H3=>gd v4 false (fun k=>opt (aA .gtr v7 (.int .u8 126)) fun v=>k v H3) H3 fun v8 H4=>opt (pick v4 (.bool true) v8) fun v9=>gd v9 false (fun k=>k t0 H4) H4 fun v10 H5=>gd v9 false (fun k=>k t3 H5) H5 fun v11 H6=>gd v9 false (fun k=>opt (fU v10 v11) fun v=>k v H6) H6 fun v12 H7=>gd v9 false (fun k=>opt (aA .eql v12 (.int .u8 47)) fun v=>k v H7) H7 fun v13 H8=>opt (pick v9 (.bool true) v13) fun v14=>gd v14 false (fun k=>k t0 H8) H8 fun v15 H9=>gd v14 false (fun k=>k t3 H9) H9 fun v16 H10=>gd v14 false (fun k=>opt (fU v15 v16) fun v=>k v H10) H10 fun v17 H11=>gd v14 false (fun k=>opt (aA .eql v17 (.int .u8 35)) fun v=>k v H11) H11 fun v18 H12=>opt (pick v14 (.bool true) v18) fun v19=>ifB v19 (
 Q (.bool false) H12) (
 opt (aA .add t3 (.int .i64 1)) fun v20=>X0 [t0,v20] H12)) (
 opt (dS t0) fun v21=>opt (aA .geq v21 (.int .i64 1)) fun v22=>gd v22 true (fun k=>k t0 H) H fun v23 H13=>gd v22 true (fun k=>opt (dS v23) fun v=>k v H13) H13 fun v24 H14=>gd v22 true (fun k=>opt (aA .leq v24 (.int .i64 14)) fun v=>k v H14) H14 fun v25 H15=>opt (pick v22 v25 (.bool false)) fun v26=>gd v26 true (fun k=>k t0 H15) H15 fun v27 H16=>gd v26 true (fun k=>opt (cK .neq v27 (.string ⟨#[46]⟩)) fun v=>k v H16) H16 fun v28 H17=>opt (pick v26 v28 (.bool false)) fun v29=>gd v29 true (fun k=>k t0 H17) H17 fun v30 H18=>gd v29 true (fun k=>opt (cK .neq v30 (.string ⟨#[46,46]⟩)) fun v=>k v H18) H18 fun v31 H19=>opt (pick v29 v31 (.bool false)) fun v32=>Q v32 H19)
def F.f51 (E:Sy) (x0:Value) (H:AH) (Q:VK):Prop :=
 aT (fun l H X0=>F.f51_l1 E Q (nth l 0) (nth l 1) H X0) [x0,(.int .i64 0)] H

def F.f70_l1 (E:Sy) (Q:VK) (t0 t1 t2 t7:Value) (H:AH) (X0:LK):Prop :=
 opt (aA .lss t7 (.int .i64 20)) fun v1=>ifB v1 (
 E.call (E.fid i.f66) [t0,t1] H fun v2 H1=>opt (aG v2) fun v3=>opt (aB v3 0) fun v4=>opt (aC v4 H1) fun v5=>opt (aA .neq v5 (.int .i64 2)) fun v6=>ifB v6 (
 Q (.bool false) H1) (
 opt (aA .eql t1 t2) fun v7=>ifB v7 (
 Q (.bool true) H1) (
 E.call (E.fid i.f66) [t0,t1] H1 fun v8 H2=>opt (aG v8) fun v9=>opt (aB v9 3) fun v10=>opt (aC v10 H2) fun v11=>opt (aA .eql t1 v11) fun v12=>ifB v12 (
 Q (.bool false) H2) (
 E.call (E.fid i.f66) [t0,t1] H2 fun v13 H3=>opt (aG v13) fun v14=>opt (aB v14 3) fun v15=>opt (aC v15 H3) fun v16=>opt (aA .add t7 (.int .i64 1)) fun v17=>X0 [t0,v16,t2,v17] H3)))) (
 Q (.bool false) H)
def F.f70 (E:Sy) (x0 x1 x2:Value) (H:AH) (Q:VK):Prop :=
 aT (fun l H X0=>F.f70_l1 E Q (nth l 0) (nth l 1) (nth l 2) (nth l 3) H X0) [x0,x1,x2,(.int .i64 0)] H

def F.f76_l1 (E:Sy) (Q:VK) (t0 t5 t6 t7:Value) (H:AH) (X0:LK):Prop :=
 opt (aG t6) fun v1=>opt (aB v1 2) fun v2=>opt (aC v2 H) fun v3=>opt (lenSlc v3) fun v4=>opt (aA .lss t7 v4) fun v5=>ifB v5 (
 opt (aG t6) fun v6=>opt (aB v6 2) fun v7=>opt (aC v7 H) fun v8=>opt (aM 2 v8 t7) fun v9=>opt (aB v9 1) fun v10=>opt (aC v10 H) fun v11=>E.call (E.fid i.f66) [t0,v11] H fun v12 H1=>opt (aG v12) fun v13=>opt (aB v13 0) fun v14=>opt (aC v14 H1) fun v15=>opt (aA .eql v15 (.int .i64 2)) fun v16=>ifB v16 (
 E.call (E.fid i.f76) [t0,v11] H1 fun v17 H2=>opt (iY max2 [t5,v17]) fun v18=>opt (aA .add t7 (.int .i64 1)) fun v19=>X0 [t0,v18,t6,v19] H2) (
 opt (aA .add t7 (.int .i64 1)) fun v20=>X0 [t0,t5,t6,v20] H1)) (
 opt (aA .add t5 (.int .i64 1)) fun v21=>Q v21 H)
def F.f76 (E:Sy) (x0 x1:Value) (H:AH) (Q:VK):Prop :=
 E.call (E.fid i.f66) [x0,x1] H fun v1 H1=>aT (fun l H X0=>F.f76_l1 E Q (nth l 0) (nth l 1) (nth l 2) (nth l 3) H X0) [x0,(.int .i64 0),v1,(.int .i64 0)] H1

def F.f30 (E:Sy) (x0:Value) (H:AH) (Q:VK):Prop :=
 ifB (.bool false) (
 opt (bQ .u32 x0) fun v1=>E.call (E.fid i.f31) [v1] H fun v2 H1=>Q v2 H1) (
 E.call (E.fid i.f32) [x0] H fun v3 H2=>Q v3 H2)

def F.f94_j3 (E:Sy) (Q:VK) (X0:LK) (t0 t1 t2 t3 t8 t9 t10 t11:Value) (H:AH):Prop :=
 opt (aA .gtr t1 (.int .i64 0)) fun v1=>gd v1 true (fun k=>k t0 H) H fun v2 H1=>gd v1 true (fun k=>k t1 H1) H1 fun v3 H2=>gd v1 true (fun k=>opt (aA .sub v3 (.int .i64 1)) fun v=>k v H2) H2 fun v4 H3=>gd v1 true (fun k=>opt (aM 1 v2 v4) fun v=>k v H3) H3 fun v5 H4=>gd v1 true (fun k=>opt (aC v5 H4) fun v=>k v H4) H4 fun v6 H5=>gd v1 true (fun k=>k t0 H5) H5 fun v7 H6=>gd v1 true (fun k=>k t11 H6) H6 fun v8 H7=>gd v1 true (fun k=>opt (aM 1 v7 v8) fun v=>k v H7) H7 fun v9 H8=>gd v1 true (fun k=>opt (aC v9 H8) fun v=>k v H8) H8 fun v10 H9=>gd v1 true (fun k=>E.call (E.fid i.f0) [v6,v10] H9 fun v h=>k v h) H9 fun v11 H10=>gd v1 true (fun k=>opt (un .not v11) fun v=>k v H10) H10 fun v12 H11=>opt (pick v1 v12 (.bool false)) fun v13=>ifB v13 (
 E.call (E.fid i.f92) [t0,t1,t2,t11] H11 fun v14 H12=>X0 [t0,v14,t2,t3,t8,t9] H12) (
 E.call (E.fid i.f93) [t0,t1,t2,t11] H11 fun v15 H13=>opt (ext v15 0) fun v16=>opt (ext v15 1) fun v17=>opt (aA .sub v16 t1) fun v18=>opt (aA .sub t2 v16) fun v19=>opt (aA .quo t10 (.int .i64 8)) fun v20=>opt (aA .lss v18 v19) fun v21=>ifB v21 (
 opt (aA .geq v18 v20) fun v22=>E.call (E.fid i.f94) [t0,t1,v16,t3] H13 fun v23 H14=>opt (aA .add v16 (.int .i64 1)) fun v24=>X0 [t0,v24,t2,t3,v22,v17] H14) (
 opt (aA .geq v19 v20) fun v25=>opt (aA .add v16 (.int .i64 1)) fun v26=>E.call (E.fid i.f94) [t0,v26,t2,t3] H13 fun v27 H15=>X0 [t0,t1,v16,t3,v25,v17] H15))
def F.f94_j2 (E:Sy) (Q:VK) (X0:LK) (t0 t1 t2 t3 t8 t9 t10 t11 t12:Value) (H:AH):Prop :=
 gd t8 true (fun k=>k t9 H) H fun v1 H1=>opt (pick t8 v1 (.bool false)) fun v2=>gd v2 true (fun k=>k t12 H1) H1 fun v3 H2=>gd v2 true (fun k=>opt (aA .eql v3 (.int .i64 1)) fun v=>k v H2) H2 fun v4 H3=>opt (pick v2 v4 (.bool false)) fun v5=>ifB v5 (
 E.call (E.fid i.f91) [t0,t1,t2] H3 fun v6 H4=>ifB v6 (
 Q (.tuple #[]) H4) (
 F.f94_j3 E Q X0 t0 t1 t2 t3 t8 t9 t10 t11 H4)) (
 F.f94_j3 E Q X0 t0 t1 t2 t3 t8 t9 t10 t11 H3)
def F.f94_j1 (E:Sy) (Q:VK) (X0:LK) (t0 t1 t2 t3 t8 t9 t10:Value) (H:AH):Prop :=
 E.call (E.fid i.f84) [t0,t1,t2] H fun v1 H1=>opt (ext v1 0) fun v2=>opt (ext v1 1) fun v3=>opt (aA .eql v3 (.int .i64 2)) fun v4=>ifB v4 (
 E.call (E.fid i.f95) [t0,t1,t2] H1 fun v5 H2=>opt (aA .sub t2 (.int .i64 1)) fun v6=>opt (aA .sub v2 t1) fun v7=>opt (aA .sub v6 v7) fun v8=>F.f94_j2 E Q X0 t0 t1 t2 t3 t8 t9 t10 v8 (.int .i64 1) H2) (
 F.f94_j2 E Q X0 t0 t1 t2 t3 t8 t9 t10 v2 v3 H1)
def F.f94_l1 (E:Sy) (Q:VK) (t0 t1 t2 t3 t8 t9:Value) (H:AH) (X0:LK):Prop :=
 opt (aA .sub t2 t1) fun v1=>opt (aA .leq v1 (.int .i64 12)) fun v2=>ifB v2 (
 E.call (E.fid i.f86) [t0,t1,t2] H fun v3 H1=>Q (.tuple #[]) H1) (
 opt (aA .eql t3 (.int .i64 0)) fun v4=>ifB v4 (
 E.call (E.fid i.f85) [t0,t1,t2] H fun v5 H2=>Q (.tuple #[]) H2) (
 opt (un .not t8) fun v6=>ifB v6 (
 E.call (E.fid i.f83) [t0,t1,t2] H fun v7 H3=>opt (aA .sub t3 (.int .i64 1)) fun v8=>F.f94_j1 E Q X0 t0 t1 t2 v8 t8 t9 v1 H3) (
 F.f94_j1 E Q X0 t0 t1 t2 t3 t8 t9 v1 H)))
def F.f94 (E:Sy) (x0 x1 x2 x3:Value) (H:AH) (Q:VK):Prop :=
 aT (fun l H X0=>F.f94_l1 E Q (nth l 0) (nth l 1) (nth l 2) (nth l 3) (nth l 4) (nth l 5) H X0) [x0,x1,x2,x3,(.bool true),(.bool true)] H

def F.f106_l1 (E:Sy) (Q:VK) (t1 t2 t10:Value) (H:AH) (X0:LK):Prop :=
 gG (aBM t10 H) fun v1 H1=>opt (ext v1 0) fun v2=>ifB v2 (
 opt (ext v1 1) fun v3=>opt (ext v1 2) fun v4=>oA E.call t1 [v4] H1 fun v5 H2=>opt (kS .eql v5 t2) fun v6=>ifB v6 (
 Q v3 H2) (
 X0 [t1,t2,t10] H2)) (
 Q (.int .i64 (-1)) H1)
def F.f106 (E:Sy) (x0 x1 x2:Value) (H:AH) (Q:VK):Prop :=
 mk (vW x0) H fun v1 H1=>aT (fun l H X0=>F.f106_l1 E Q (nth l 0) (nth l 1) (nth l 2) H X0) [x1,x2,v1] H1

def F.f105_j2 (E:Sy) (Q:VK) (t0 t9 t10:Value) (H:AH):Prop :=
 opt (aM 1 t9 t10) fun v1=>opt (aR v1 t0 H) fun H1=>opt (aA .add t10 (.int .i64 1)) fun v2=>opt (eJ 1 t9 none (some v2) none H1) fun v3=>Q v3 H1
def F.f105_l1 (E:Sy) (Q:VK) (t0 t1 t2 t3 t9 t10:Value) (H:AH) (X0:LK):Prop :=
 opt (aA .lss t10 t3) fun v1=>ifB v1 (
 E.call (E.fid i.f100) [t0,t1] H fun v2 H1=>opt (aA .lss v2 (.int .i64 0)) fun v3=>ifB v3 (
 F.f105_j2 E Q t0 t9 t10 H1) (
 opt (aA .add v2 t2) fun v4=>opt (jO t0 none (some v4)) fun v5=>opt (aM 1 t9 t10) fun v6=>opt (aR v6 v5 H1) fun H2=>opt (dS t1) fun v7=>opt (aA .add v2 v7) fun v8=>opt (jO t0 (some v8) none) fun v9=>opt (aA .add t10 (.int .i64 1)) fun v10=>X0 [v9,t1,t2,t3,t9,v10] H2)) (
 F.f105_j2 E Q t0 t9 t10 H)
def F.f105_j1 (E:Sy) (Q:VK) (t0 t1 t2 t3:Value) (H:AH):Prop :=
 opt (dS t0) fun v1=>opt (aA .add v1 (.int .i64 1)) fun v2=>opt (iY min2 [t3,v2]) fun v3=>mk (vR 1 16 #[(.string ⟨#[]⟩)] v3 v3) H fun v4 H1=>opt (aA .sub v3 (.int .i64 1)) fun v5=>aT (fun l H X0=>F.f105_l1 E Q (nth l 0) (nth l 1) (nth l 2) (nth l 3) (nth l 4) (nth l 5) H X0) [t0,t1,t2,v5,v4,(.int .i64 0)] H1
def F.f105 (E:Sy) (x0 x1 x2 x3:Value) (H:AH) (Q:VK):Prop :=
 opt (aA .eql x3 (.int .i64 0)) fun v1=>ifB v1 (
 Q (.slice none 0 0) H) (
 opt (cK .eql x1 (.string ⟨#[]⟩)) fun v2=>ifB v2 (
 E.call (E.fid i.f104) [x0,x3] H fun v3 H1=>Q v3 H1) (
 opt (aA .lss x3 (.int .i64 0)) fun v4=>ifB v4 (
 E.call (E.fid i.f98) [x0,x1] H fun v5 H2=>opt (aA .add v5 (.int .i64 1)) fun v6=>F.f105_j1 E Q x0 x1 x2 v6 H2) (
 F.f105_j1 E Q x0 x1 x2 x3 H)))

def F.f14_l1 (E:Sy) (Q:VK) (t0 t2 t7 t11:Value) (H:AH) (X0:LK):Prop :=
 opt (aA .lss t11 (.int .i64 18)) fun v1=>ifB v1 (
 opt (cQ eI .eql t7 (.pointer none)) fun v2=>gd v2 false (fun k=>k t7 H) H fun v3 H1=>gd v2 false (fun k=>opt (aG v3) fun v=>k v H1) H1 fun v4 H2=>gd v2 false (fun k=>opt (aB v4 1) fun v=>k v H2) H2 fun v5 H3=>gd v2 false (fun k=>opt (aC v5 H3) fun v=>k v H3) H3 fun v6 H4=>gd v2 false (fun k=>opt (aA .neq v6 (.int .u8 2)) fun v=>k v H4) H4 fun v7 H5=>opt (pick v2 (.bool true) v7) fun v8=>ifB v8 (
 Q (.bool false) H5) (
 opt (aG t7) fun v9=>opt (aB v9 0) fun v10=>opt (aC v10 H5) fun v11=>opt (aA .eql v11 t2) fun v12=>ifB v12 (
 Q (.bool true) H5) (
 opt (aG t7) fun v13=>opt (aB v13 4) fun v14=>opt (aC v14 H5) fun v15=>opt (aG t7) fun v16=>opt (aB v16 0) fun v17=>opt (aC v17 H5) fun v18=>opt (aA .eql v15 v18) fun v19=>ifB v19 (
 Q (.bool false) H5) (
 opt (aG t0) fun v20=>opt (aB v20 0) fun v21=>opt (aC v21 H5) fun v22=>opt (aG t7) fun v23=>opt (aB v23 4) fun v24=>opt (aC v24 H5) fun v25=>opt (look 0 (.pointer none) false v22 v25 H5) fun v26=>opt (aA .add t11 (.int .i64 1)) fun v27=>X0 [t0,t2,v26,v27] H5)))) (
 Q (.bool false) H)
def F.f14 (E:Sy) (x0 x1 x2:Value) (H:AH) (Q:VK):Prop :=
 E.call (E.fid i.f9) [x0,x1] H fun v1 H1=>aT (fun l H X0=>F.f14_l1 E Q (nth l 0) (nth l 1) (nth l 2) (nth l 3) H X0) [x0,x2,v1,(.int .i64 0)] H1

def F.f20_l1 (E:Sy) (Q:VK) (t0 t5 t17:Value) (H:AH) (X0:LK):Prop :=
 qD t17 H fun v1 H1=>opt (ext v1 0) fun v2=>ifB v2 (
 opt (oX t17 H1) fun v3=>opt (ext v3 1) fun v4=>opt (aG t0) fun v5=>opt (aB v5 0) fun v6=>opt (aC v6 H1) fun v7=>opt (look 0 (.pointer none) false v7 v4 H1) fun v8=>opt (aG v8) fun v9=>opt (aB v9 1) fun v10=>opt (aC v10 H1) fun v11=>opt (aA .eql v11 (.int .u8 2)) fun v12=>ifB v12 (
 E.call (E.fid i.f20) [t0,v4] H1 fun v13 H2=>opt (iY max2 [t5,v13]) fun v14=>X0 [t0,v14,t17] H2) (
 X0 [t0,t5,t17] H1)) (
 opt (aA .add t5 (.int .i64 1)) fun v15=>Q v15 H1)
def F.f20 (E:Sy) (x0 x1:Value) (H:AH) (Q:VK):Prop :=
 opt (aG x0) fun v1=>opt (aB v1 0) fun v2=>opt (aC v2 H) fun v3=>opt (look 0 (.pointer none) false v3 x1 H) fun v4=>opt (aG v4) fun v5=>opt (aB v5 3) fun v6=>opt (aC v6 H) fun v7=>mk (qV v7 H) H fun v8 H1=>aT (fun l H X0=>F.f20_l1 E Q (nth l 0) (nth l 1) (nth l 2) H X0) [x0,(.int .i64 0),v8] H1

def F.f32_j3 (E:Sy) (Q:VK) (t0 t2:Value) (H:AH):Prop :=
 opt (bQ .u8 t0) fun v1=>opt (fU (.string ⟨#[0,1,2,2,3,3,3,3,4,4,4,4,4,4,4,4,5,5,5,5,5,5,5,5,5,5,5,5,5,5,5,5,6,6,6,6,6,6,6,6,6,6,6,6,6,6,6,6,6,6,6,6,6,6,6,6,6,6,6,6,6,6,6,6,7,7,7,7,7,7,7,7,7,7,7,7,7,7,7,7,7,7,7,7,7,7,7,7,7,7,7,7,7,7,7,7,7,7,7,7,7,7,7,7,7,7,7,7,7,7,7,7,7,7,7,7,7,7,7,7,7,7,7,7,7,7,7,7,8,8,8,8,8,8,8,8,8,8,8,8,8,8,8,8,8,8,8,8,8,8,8,8,8,8,8,8,8,8,8,8,8,8,8,8,8,8,8,8,8,8,8,8,8,8,8,8,8,8,8,8,8,8,8,8,8,8,8,8,8,8,8,8,8,8,8,8,8,8,8,8,8,8,8,8,8,8,8,8,8,8,8,8,8,8,8,8,8,8,8,8,8,8,8,8,8,8,8,8,8,8,8,8,8,8,8,8,8,8,8,8,8,8,8,8,8,8,8,8,8,8,8,8,8,8,8,8]⟩) v1) fun v2=>opt (bQ .i64 v2) fun v3=>opt (aA .add t2 v3) fun v4=>Q v4 H
def F.f32_j2 (E:Sy) (Q:VK) (t0 t2:Value) (H:AH):Prop :=
 opt (aA .geq t0 (.int .u64 256)) fun v1=>ifB v1 (
 opt (aA .shr t0 (.int .u64 8)) fun v2=>opt (aA .add t2 (.int .i64 8)) fun v3=>F.f32_j3 E Q v2 v3 H) (
 F.f32_j3 E Q t0 t2 H)
def F.f32_j1 (E:Sy) (Q:VK) (t0 t2:Value) (H:AH):Prop :=
 opt (aA .geq t0 (.int .u64 65536)) fun v1=>ifB v1 (
 opt (aA .shr t0 (.int .u64 16)) fun v2=>opt (aA .add t2 (.int .i64 16)) fun v3=>F.f32_j2 E Q v2 v3 H) (
 F.f32_j2 E Q t0 t2 H)
def F.f32 (E:Sy) (x0:Value) (H:AH) (Q:VK):Prop :=
 opt (aA .geq x0 (.int .u64 4294967296)) fun v1=>ifB v1 (
 opt (aA .shr x0 (.int .u64 32)) fun v2=>F.f32_j1 E Q v2 (.int .i64 32) H) (
 F.f32_j1 E Q x0 (.int .i64 0) H)

def F.f86_l2 (E:Sy) (Q:VK) (X0:LK) (t0 t1 t2 t6 t7:Value) (H:AH) (X1:LK):Prop :=
 opt (aA .gtr t7 t1) fun v1=>gd v1 true (fun k=>k t0 H) H fun v2 H1=>gd v1 true (fun k=>k t7 H1) H1 fun v3 H2=>gd v1 true (fun k=>opt (aM 1 v2 v3) fun v=>k v H2) H2 fun v4 H3=>gd v1 true (fun k=>opt (aC v4 H3) fun v=>k v H3) H3 fun v5 H4=>gd v1 true (fun k=>k t0 H4) H4 fun v6 H5=>gd v1 true (fun k=>k t7 H5) H5 fun v7 H6=>gd v1 true (fun k=>opt (aA .sub v7 (.int .i64 1)) fun v=>k v H6) H6 fun v8 H7=>gd v1 true (fun k=>opt (aM 1 v6 v8) fun v=>k v H7) H7 fun v9 H8=>gd v1 true (fun k=>opt (aC v9 H8) fun v=>k v H8) H8 fun v10 H9=>gd v1 true (fun k=>E.call (E.fid i.f0) [v5,v10] H9 fun v h=>k v h) H9 fun v11 H10=>opt (pick v1 v11 (.bool false)) fun v12=>ifB v12 (
 opt (aA .sub t7 (.int .i64 1)) fun v13=>opt (aA .sub t7 (.int .i64 1)) fun v14=>opt (aM 1 t0 v14) fun v15=>opt (aC v15 H10) fun v16=>opt (aM 1 t0 t7) fun v17=>opt (aC v17 H10) fun v18=>opt (aM 1 t0 t7) fun v19=>opt (aR v19 v16 H10) fun H11=>opt (aM 1 t0 v13) fun v20=>opt (aR v20 v18 H11) fun H12=>opt (aA .sub t7 (.int .i64 1)) fun v21=>X1 [t0,t1,t2,t6,v21] H12) (
 opt (aA .add t6 (.int .i64 1)) fun v22=>X0 [t0,t1,t2,v22] H10)
def F.f86_l1 (E:Sy) (Q:VK) (t0 t1 t2 t6:Value) (H:AH) (X0:LK):Prop :=
 opt (aA .lss t6 t2) fun v1=>ifB v1 (
 aT (fun l H X1=>F.f86_l2 E Q X0 (nth l 0) (nth l 1) (nth l 2) (nth l 3) (nth l 4) H X1) [t0,t1,t2,t6,t6] H) (
 Q (.tuple #[]) H)
def F.f86 (E:Sy) (x0 x1 x2:Value) (H:AH) (Q:VK):Prop :=
 opt (aA .add x1 (.int .i64 1)) fun v1=>aT (fun l H X0=>F.f86_l1 E Q (nth l 0) (nth l 1) (nth l 2) (nth l 3) H X0) [x0,x1,x2,v1] H

def F.f85_l2 (E:Sy) (Q:VK) (t0 t6 t7 t10:Value) (H:AH) (X0:LK):Prop :=
 opt (aA .geq t10 (.int .i64 0)) fun v1=>ifB v1 (
 opt (aA .add t6 t10) fun v2=>opt (aA .add t6 t10) fun v3=>opt (aM 1 t0 v3) fun v4=>opt (aC v4 H) fun v5=>opt (aM 1 t0 t6) fun v6=>opt (aC v6 H) fun v7=>opt (aM 1 t0 t6) fun v8=>opt (aR v8 v5 H) fun H1=>opt (aM 1 t0 v2) fun v9=>opt (aR v9 v7 H1) fun H2=>E.call (E.fid i.f96) [t0,t7,t10,t6] H2 fun v10 H3=>opt (aA .sub t10 (.int .i64 1)) fun v11=>X0 [t0,t6,t7,v11] H3) (
 Q (.tuple #[]) H)
def F.f85_l1 (E:Sy) (Q:VK) (t0 t6 t7 t8 t9:Value) (H:AH) (X0:LK):Prop :=
 opt (aA .geq t9 (.int .i64 0)) fun v1=>ifB v1 (
 E.call (E.fid i.f96) [t0,t9,t8,t6] H fun v2 H1=>opt (aA .sub t9 (.int .i64 1)) fun v3=>X0 [t0,t6,t7,t8,v3] H1) (
 opt (aA .sub t8 (.int .i64 1)) fun v4=>aT (fun l H X0=>F.f85_l2 E Q (nth l 0) (nth l 1) (nth l 2) (nth l 3) H X0) [t0,t6,t7,v4] H)
def F.f85 (E:Sy) (x0 x1 x2:Value) (H:AH) (Q:VK):Prop :=
 opt (aA .sub x2 x1) fun v1=>opt (aA .sub v1 (.int .i64 1)) fun v2=>opt (aA .quo v2 (.int .i64 2)) fun v3=>aT (fun l H X0=>F.f85_l1 E Q (nth l 0) (nth l 1) (nth l 2) (nth l 3) (nth l 4) H X0) [x0,x1,(.int .i64 0),v1,v3] H

def F.f83_j1 (E:Sy) (Q:VK) (X0:LK) (t0 t1 t6 t7 t8 t9 t10:Value) (H:AH):Prop :=
 opt (aA .add t1 t10) fun v1=>opt (aA .add t1 t10) fun v2=>opt (aM 1 t0 v2) fun v3=>opt (aC v3 H) fun v4=>opt (aM 1 t0 t9) fun v5=>opt (aC v5 H) fun v6=>opt (aM 1 t0 t9) fun v7=>opt (aR v7 v4 H) fun H1=>opt (aM 1 t0 v1) fun v8=>opt (aR v8 v6 H1) fun H2=>opt (aA .add t9 (.int .i64 1)) fun v9=>X0 [t0,t1,t6,t7,t8,v9] H2
def F.f83_l1 (E:Sy) (Q:VK) (t0 t1 t6 t7 t8 t9:Value) (H:AH) (X0:LK):Prop :=
 opt (aA .quo t6 (.int .i64 4)) fun v1=>opt (aA .mul v1 (.int .i64 2)) fun v2=>opt (aA .add t1 v2) fun v3=>opt (aA .add v3 (.int .i64 1)) fun v4=>opt (aA .leq t9 v4) fun v5=>ifB v5 (
 E.call (E.fid i.f97) [t7] H fun v6 H1=>opt (aA .sub t8 (.int .u64 1)) fun v7=>opt (aA .and v6 v7) fun v8=>opt (bQ .i64 v8) fun v9=>opt (aA .geq v9 t6) fun v10=>ifB v10 (
 opt (aA .sub v9 t6) fun v11=>F.f83_j1 E Q X0 t0 t1 t6 t7 t8 t9 v11 H1) (
 F.f83_j1 E Q X0 t0 t1 t6 t7 t8 t9 v9 H1)) (
 Q (.tuple #[]) H)
def F.f83 (E:Sy) (x0 x1 x2:Value) (H:AH) (Q:VK):Prop :=
 opt (aA .sub x2 x1) fun v1=>opt (aA .geq v1 (.int .i64 8)) fun v2=>ifB v2 (
 opt (bQ .u64 v1) fun v3=>dC [(.int .u64 0)] H fun v4 H1=>opt (aR v4 v3 H1) fun H2=>E.call (E.fid i.f89) [v1] H2 fun v5 H3=>opt (aA .quo v1 (.int .i64 4)) fun v6=>opt (aA .mul v6 (.int .i64 2)) fun v7=>opt (aA .add x1 v7) fun v8=>opt (aA .sub v8 (.int .i64 1)) fun v9=>aT (fun l H X0=>F.f83_l1 E Q (nth l 0) (nth l 1) (nth l 2) (nth l 3) (nth l 4) (nth l 5) H X0) [x0,x1,v1,v4,v5,v9] H3) (
 Q (.tuple #[]) H)

def F.f84_j1 (E:Sy) (Q:VK) (t9 t11:Value) (H:AH):Prop :=
 opt (aC t9 H) fun v1=>opt (aA .eql v1 (.int .i64 0)) fun v2=>ifB v2 (
 Q (.tuple #[t11,(.int .i64 1)]) H) (
 opt (aA .eql v1 (.int .i64 12)) fun v3=>ifB v3 (
 Q (.tuple #[t11,(.int .i64 2)]) H) (
 Q (.tuple #[t11,(.int .i64 0)]) H))
def F.f84_j2 (E:Sy) (Q:VK) (t0 t9 t10 t11 t12:Value) (H:AH):Prop :=
 E.call (E.fid i.f88) [t0,t10,t11,t12,t9] H fun v1 H1=>F.f84_j1 E Q t9 v1 H1
def F.f84 (E:Sy) (x0 x1 x2:Value) (H:AH) (Q:VK):Prop :=
 opt (aA .sub x2 x1) fun v1=>dC [(.int .i64 0)] H fun v2 H1=>opt (aA .quo v1 (.int .i64 4)) fun v3=>opt (aA .mul v3 (.int .i64 1)) fun v4=>opt (aA .add x1 v4) fun v5=>opt (aA .quo v1 (.int .i64 4)) fun v6=>opt (aA .mul v6 (.int .i64 2)) fun v7=>opt (aA .add x1 v7) fun v8=>opt (aA .quo v1 (.int .i64 4)) fun v9=>opt (aA .mul v9 (.int .i64 3)) fun v10=>opt (aA .add x1 v10) fun v11=>opt (aA .geq v1 (.int .i64 8)) fun v12=>ifB v12 (
 opt (aA .geq v1 (.int .i64 50)) fun v13=>ifB v13 (
 E.call (E.fid i.f87) [x0,v5,v2] H1 fun v14 H2=>E.call (E.fid i.f87) [x0,v8,v2] H2 fun v15 H3=>E.call (E.fid i.f87) [x0,v11,v2] H3 fun v16 H4=>F.f84_j2 E Q x0 v2 v14 v15 v16 H4) (
 F.f84_j2 E Q x0 v2 v5 v8 v11 H1)) (
 F.f84_j1 E Q v2 v8 H1)

def F.f95_l1 (E:Sy) (Q:VK) (t0 t6 t7:Value) (H:AH) (X0:LK):Prop :=
 opt (aA .lss t6 t7) fun v1=>ifB v1 (
 opt (aM 1 t0 t7) fun v2=>opt (aC v2 H) fun v3=>opt (aM 1 t0 t6) fun v4=>opt (aC v4 H) fun v5=>opt (aM 1 t0 t6) fun v6=>opt (aR v6 v3 H) fun H1=>opt (aM 1 t0 t7) fun v7=>opt (aR v7 v5 H1) fun H2=>opt (aA .add t6 (.int .i64 1)) fun v8=>opt (aA .sub t7 (.int .i64 1)) fun v9=>X0 [t0,v8,v9] H2) (
 Q (.tuple #[]) H)
def F.f95 (E:Sy) (x0 x1 x2:Value) (H:AH) (Q:VK):Prop :=
 opt (aA .sub x2 (.int .i64 1)) fun v1=>aT (fun l H X0=>F.f95_l1 E Q (nth l 0) (nth l 1) (nth l 2) H X0) [x0,x1,v1] H

def F.f91_l3 (E:Sy) (Q:VK) (X0:LK) (t0 t1 t2 t7 t8 t10:Value) (H:AH) (X1:LK):Prop :=
 opt (aA .lss t10 t2) fun v1=>ifB v1 (
 opt (aM 1 t0 t10) fun v2=>opt (aC v2 H) fun v3=>opt (aA .sub t10 (.int .i64 1)) fun v4=>opt (aM 1 t0 v4) fun v5=>opt (aC v5 H) fun v6=>E.call (E.fid i.f0) [v3,v6] H fun v7 H1=>opt (un .not v7) fun v8=>ifB v8 (
 opt (aA .add t8 (.int .i64 1)) fun v9=>X0 [t0,t1,t2,t7,v9] H1) (
 opt (aA .sub t10 (.int .i64 1)) fun v10=>opt (aA .sub t10 (.int .i64 1)) fun v11=>opt (aM 1 t0 v11) fun v12=>opt (aC v12 H1) fun v13=>opt (aM 1 t0 t10) fun v14=>opt (aC v14 H1) fun v15=>opt (aM 1 t0 t10) fun v16=>opt (aR v16 v13 H1) fun H2=>opt (aM 1 t0 v10) fun v17=>opt (aR v17 v15 H2) fun H3=>opt (aA .add t10 (.int .i64 1)) fun v18=>X1 [t0,t1,t2,t7,t8,v18] H3)) (
 opt (aA .add t8 (.int .i64 1)) fun v19=>X0 [t0,t1,t2,t7,v19] H)
def F.f91_j1 (E:Sy) (Q:VK) (X0:LK) (t0 t1 t2 t7 t8:Value) (H:AH):Prop :=
 opt (aA .sub t2 t7) fun v1=>opt (aA .geq v1 (.int .i64 2)) fun v2=>ifB v2 (
 opt (aA .add t7 (.int .i64 1)) fun v3=>aT (fun l H X1=>F.f91_l3 E Q X0 (nth l 0) (nth l 1) (nth l 2) (nth l 3) (nth l 4) (nth l 5) H X1) [t0,t1,t2,t7,t8,v3] H) (
 opt (aA .add t8 (.int .i64 1)) fun v4=>X0 [t0,t1,t2,t7,v4] H)
def F.f91_l4 (E:Sy) (Q:VK) (X0:LK) (t0 t1 t2 t7 t8 t9:Value) (H:AH) (X1:LK):Prop :=
 opt (aA .geq t9 (.int .i64 1)) fun v1=>ifB v1 (
 opt (aM 1 t0 t9) fun v2=>opt (aC v2 H) fun v3=>opt (aA .sub t9 (.int .i64 1)) fun v4=>opt (aM 1 t0 v4) fun v5=>opt (aC v5 H) fun v6=>E.call (E.fid i.f0) [v3,v6] H fun v7 H1=>opt (un .not v7) fun v8=>ifB v8 (
 F.f91_j1 E Q X0 t0 t1 t2 t7 t8 H1) (
 opt (aA .sub t9 (.int .i64 1)) fun v9=>opt (aA .sub t9 (.int .i64 1)) fun v10=>opt (aM 1 t0 v10) fun v11=>opt (aC v11 H1) fun v12=>opt (aM 1 t0 t9) fun v13=>opt (aC v13 H1) fun v14=>opt (aM 1 t0 t9) fun v15=>opt (aR v15 v12 H1) fun H2=>opt (aM 1 t0 v9) fun v16=>opt (aR v16 v14 H2) fun H3=>opt (aA .sub t9 (.int .i64 1)) fun v17=>X1 [t0,t1,t2,t7,t8,v17] H3)) (
 F.f91_j1 E Q X0 t0 t1 t2 t7 t8 H)
def F.f91_l2 (E:Sy) (Q:VK) (X0:LK) (t0 t1 t2 t7 t8:Value) (H:AH) (X1:LK):Prop :=
 opt (aA .lss t7 t2) fun v1=>gd v1 true (fun k=>k t0 H) H fun v2 H1=>gd v1 true (fun k=>k t7 H1) H1 fun v3 H2=>gd v1 true (fun k=>opt (aM 1 v2 v3) fun v=>k v H2) H2 fun v4 H3=>gd v1 true (fun k=>opt (aC v4 H3) fun v=>k v H3) H3 fun v5 H4=>gd v1 true (fun k=>k t0 H4) H4 fun v6 H5=>gd v1 true (fun k=>k t7 H5) H5 fun v7 H6=>gd v1 true (fun k=>opt (aA .sub v7 (.int .i64 1)) fun v=>k v H6) H6 fun v8 H7=>gd v1 true (fun k=>opt (aM 1 v6 v8) fun v=>k v H7) H7 fun v9 H8=>gd v1 true (fun k=>opt (aC v9 H8) fun v=>k v H8) H8 fun v10 H9=>gd v1 true (fun k=>E.call (E.fid i.f0) [v5,v10] H9 fun v h=>k v h) H9 fun v11 H10=>gd v1 true (fun k=>opt (un .not v11) fun v=>k v H10) H10 fun v12 H11=>opt (pick v1 v12 (.bool false)) fun v13=>ifB v13 (
 opt (aA .add t7 (.int .i64 1)) fun v14=>X1 [t0,t1,t2,v14,t8] H11) (
 opt (aA .eql t7 t2) fun v15=>ifB v15 (
 Q (.bool true) H11) (
 opt (aA .sub t2 t1) fun v16=>opt (aA .lss v16 (.int .i64 50)) fun v17=>ifB v17 (
 Q (.bool false) H11) (
 opt (aA .sub t7 (.int .i64 1)) fun v18=>opt (aA .sub t7 (.int .i64 1)) fun v19=>opt (aM 1 t0 v19) fun v20=>opt (aC v20 H11) fun v21=>opt (aM 1 t0 t7) fun v22=>opt (aC v22 H11) fun v23=>opt (aM 1 t0 t7) fun v24=>opt (aR v24 v21 H11) fun H12=>opt (aM 1 t0 v18) fun v25=>opt (aR v25 v23 H12) fun H13=>opt (aA .sub t7 t1) fun v26=>opt (aA .geq v26 (.int .i64 2)) fun v27=>ifB v27 (
 opt (aA .sub t7 (.int .i64 1)) fun v28=>aT (fun l H X1=>F.f91_l4 E Q X0 (nth l 0) (nth l 1) (nth l 2) (nth l 3) (nth l 4) (nth l 5) H X1) [t0,t1,t2,t7,t8,v28] H13) (
 F.f91_j1 E Q X0 t0 t1 t2 t7 t8 H13))))
def F.f91_l1 (E:Sy) (Q:VK) (t0 t1 t2 t7 t8:Value) (H:AH) (X0:LK):Prop :=
 opt (aA .lss t8 (.int .i64 5)) fun v1=>ifB v1 (
 aT (fun l H X1=>F.f91_l2 E Q X0 (nth l 0) (nth l 1) (nth l 2) (nth l 3) (nth l 4) H X1) [t0,t1,t2,t7,t8] H) (
 Q (.bool false) H)
def F.f91 (E:Sy) (x0 x1 x2:Value) (H:AH) (Q:VK):Prop :=
 opt (aA .add x1 (.int .i64 1)) fun v1=>aT (fun l H X0=>F.f91_l1 E Q (nth l 0) (nth l 1) (nth l 2) (nth l 3) (nth l 4) H X0) [x0,x1,x2,v1,(.int .i64 0)] H

def F.f0 (E:Sy) (x0 x1:Value) (H:AH) (Q:VK):Prop :=
 E.call (E.fid i.f1) [x0] H fun v1 H1=>gd v1 true (fun k=>k x1 H1) H1 fun v2 H2=>gd v1 true (fun k=>E.call (E.fid i.f1) [v2] H2 fun v h=>k v h) H2 fun v3 H3=>gd v1 true (fun k=>opt (un .not v3) fun v=>k v H3) H3 fun v4 H4=>opt (pick v1 v4 (.bool false)) fun v5=>gd v5 false (fun k=>k x0 H4) H4 fun v6 H5=>gd v5 false (fun k=>k x1 H5) H5 fun v7 H6=>gd v5 false (fun k=>opt (cK .lss v6 v7) fun v=>k v H6) H6 fun v8 H7=>opt (pick v5 (.bool true) v8) fun v9=>Q v9 H7

def F.f92_l3 (E:Sy) (Q:VK) (X0:LK) (t0 t1 t9 t10:Value) (H:AH) (X1:LK):Prop :=
 opt (aA .leq t9 t10) fun v1=>gd v1 true (fun k=>k t0 H) H fun v2 H1=>gd v1 true (fun k=>k t1 H1) H1 fun v3 H2=>gd v1 true (fun k=>opt (aM 1 v2 v3) fun v=>k v H2) H2 fun v4 H3=>gd v1 true (fun k=>opt (aC v4 H3) fun v=>k v H3) H3 fun v5 H4=>gd v1 true (fun k=>k t0 H4) H4 fun v6 H5=>gd v1 true (fun k=>k t10 H5) H5 fun v7 H6=>gd v1 true (fun k=>opt (aM 1 v6 v7) fun v=>k v H6) H6 fun v8 H7=>gd v1 true (fun k=>opt (aC v8 H7) fun v=>k v H7) H7 fun v9 H8=>gd v1 true (fun k=>E.call (E.fid i.f0) [v5,v9] H8 fun v h=>k v h) H8 fun v10 H9=>opt (pick v1 v10 (.bool false)) fun v11=>ifB v11 (
 opt (aA .sub t10 (.int .i64 1)) fun v12=>X1 [t0,t1,t9,v12] H9) (
 opt (aA .gtr t9 t10) fun v13=>ifB v13 (
 Q t9 H9) (
 opt (aM 1 t0 t10) fun v14=>opt (aC v14 H9) fun v15=>opt (aM 1 t0 t9) fun v16=>opt (aC v16 H9) fun v17=>opt (aM 1 t0 t9) fun v18=>opt (aR v18 v15 H9) fun H10=>opt (aM 1 t0 t10) fun v19=>opt (aR v19 v17 H10) fun H11=>opt (aA .add t9 (.int .i64 1)) fun v20=>opt (aA .sub t10 (.int .i64 1)) fun v21=>X0 [t0,t1,v20,v21] H11))
def F.f92_l2 (E:Sy) (Q:VK) (X0:LK) (t0 t1 t9 t10:Value) (H:AH) (X1:LK):Prop :=
 opt (aA .leq t9 t10) fun v1=>gd v1 true (fun k=>k t0 H) H fun v2 H1=>gd v1 true (fun k=>k t1 H1) H1 fun v3 H2=>gd v1 true (fun k=>opt (aM 1 v2 v3) fun v=>k v H2) H2 fun v4 H3=>gd v1 true (fun k=>opt (aC v4 H3) fun v=>k v H3) H3 fun v5 H4=>gd v1 true (fun k=>k t0 H4) H4 fun v6 H5=>gd v1 true (fun k=>k t9 H5) H5 fun v7 H6=>gd v1 true (fun k=>opt (aM 1 v6 v7) fun v=>k v H6) H6 fun v8 H7=>gd v1 true (fun k=>opt (aC v8 H7) fun v=>k v H7) H7 fun v9 H8=>gd v1 true (fun k=>E.call (E.fid i.f0) [v5,v9] H8 fun v h=>k v h) H8 fun v10 H9=>gd v1 true (fun k=>opt (un .not v10) fun v=>k v H9) H9 fun v11 H10=>opt (pick v1 v11 (.bool false)) fun v12=>ifB v12 (
 opt (aA .add t9 (.int .i64 1)) fun v13=>X1 [t0,t1,v13,t10] H10) (
 aT (fun l H X1=>F.f92_l3 E Q X0 (nth l 0) (nth l 1) (nth l 2) (nth l 3) H X1) [t0,t1,t9,t10] H10)
def F.f92_l1 (E:Sy) (Q:VK) (t0 t1 t9 t10:Value) (H:AH) (X0:LK):Prop :=
 aT (fun l H X1=>F.f92_l2 E Q X0 (nth l 0) (nth l 1) (nth l 2) (nth l 3) H X1) [t0,t1,t9,t10] H
def F.f92 (E:Sy) (x0 x1 x2 x3:Value) (H:AH) (Q:VK):Prop :=
 opt (aM 1 x0 x3) fun v1=>opt (aC v1 H) fun v2=>opt (aM 1 x0 x1) fun v3=>opt (aC v3 H) fun v4=>opt (aM 1 x0 x1) fun v5=>opt (aR v5 v2 H) fun H1=>opt (aM 1 x0 x3) fun v6=>opt (aR v6 v4 H1) fun H2=>opt (aA .add x1 (.int .i64 1)) fun v7=>opt (aA .sub x2 (.int .i64 1)) fun v8=>aT (fun l H X0=>F.f92_l1 E Q (nth l 0) (nth l 1) (nth l 2) (nth l 3) H X0) [x0,x1,v7,v8] H2

def F.f93_l5 (E:Sy) (Q:VK) (X0:LK) (t0 t1 t10 t11:Value) (H:AH) (X1:LK):Prop :=
 opt (aA .leq t10 t11) fun v1=>gd v1 true (fun k=>k t0 H) H fun v2 H1=>gd v1 true (fun k=>k t11 H1) H1 fun v3 H2=>gd v1 true (fun k=>opt (aM 1 v2 v3) fun v=>k v H2) H2 fun v4 H3=>gd v1 true (fun k=>opt (aC v4 H3) fun v=>k v H3) H3 fun v5 H4=>gd v1 true (fun k=>k t0 H4) H4 fun v6 H5=>gd v1 true (fun k=>k t1 H5) H5 fun v7 H6=>gd v1 true (fun k=>opt (aM 1 v6 v7) fun v=>k v H6) H6 fun v8 H7=>gd v1 true (fun k=>opt (aC v8 H7) fun v=>k v H7) H7 fun v9 H8=>gd v1 true (fun k=>E.call (E.fid i.f0) [v5,v9] H8 fun v h=>k v h) H8 fun v10 H9=>gd v1 true (fun k=>opt (un .not v10) fun v=>k v H9) H9 fun v11 H10=>opt (pick v1 v11 (.bool false)) fun v12=>ifB v12 (
 opt (aA .sub t11 (.int .i64 1)) fun v13=>X1 [t0,t1,t10,v13] H10) (
 opt (aA .gtr t10 t11) fun v14=>ifB v14 (
 opt (aM 1 t0 t1) fun v15=>opt (aC v15 H10) fun v16=>opt (aM 1 t0 t11) fun v17=>opt (aC v17 H10) fun v18=>opt (aM 1 t0 t11) fun v19=>opt (aR v19 v16 H10) fun H11=>opt (aM 1 t0 t1) fun v20=>opt (aR v20 v18 H11) fun H12=>Q (.tuple #[t11,(.bool false)]) H12) (
 opt (aM 1 t0 t11) fun v21=>opt (aC v21 H10) fun v22=>opt (aM 1 t0 t10) fun v23=>opt (aC v23 H10) fun v24=>opt (aM 1 t0 t10) fun v25=>opt (aR v25 v22 H10) fun H13=>opt (aM 1 t0 t11) fun v26=>opt (aR v26 v24 H13) fun H14=>opt (aA .add t10 (.int .i64 1)) fun v27=>opt (aA .sub t11 (.int .i64 1)) fun v28=>X0 [t0,t1,v27,v28] H14))
def F.f93_l4 (E:Sy) (Q:VK) (X0:LK) (t0 t1 t10 t11:Value) (H:AH) (X1:LK):Prop :=
 opt (aA .leq t10 t11) fun v1=>gd v1 true (fun k=>k t0 H) H fun v2 H1=>gd v1 true (fun k=>k t10 H1) H1 fun v3 H2=>gd v1 true (fun k=>opt (aM 1 v2 v3) fun v=>k v H2) H2 fun v4 H3=>gd v1 true (fun k=>opt (aC v4 H3) fun v=>k v H3) H3 fun v5 H4=>gd v1 true (fun k=>k t0 H4) H4 fun v6 H5=>gd v1 true (fun k=>k t1 H5) H5 fun v7 H6=>gd v1 true (fun k=>opt (aM 1 v6 v7) fun v=>k v H6) H6 fun v8 H7=>gd v1 true (fun k=>opt (aC v8 H7) fun v=>k v H7) H7 fun v9 H8=>gd v1 true (fun k=>E.call (E.fid i.f0) [v5,v9] H8 fun v h=>k v h) H8 fun v10 H9=>opt (pick v1 v10 (.bool false)) fun v11=>ifB v11 (
 opt (aA .add t10 (.int .i64 1)) fun v12=>X1 [t0,t1,v12,t11] H9) (
 aT (fun l H X1=>F.f93_l5 E Q X0 (nth l 0) (nth l 1) (nth l 2) (nth l 3) H X1) [t0,t1,t10,t11] H9)
def F.f93_l3 (E:Sy) (Q:VK) (t0 t1 t10 t11:Value) (H:AH) (X0:LK):Prop :=
 aT (fun l H X1=>F.f93_l4 E Q X0 (nth l 0) (nth l 1) (nth l 2) (nth l 3) H X1) [t0,t1,t10,t11] H
def F.f93_l2 (E:Sy) (Q:VK) (t0 t1 t10 t11:Value) (H:AH) (X0:LK):Prop :=
 opt (aA .leq t10 t11) fun v1=>gd v1 true (fun k=>k t0 H) H fun v2 H1=>gd v1 true (fun k=>k t11 H1) H1 fun v3 H2=>gd v1 true (fun k=>opt (aM 1 v2 v3) fun v=>k v H2) H2 fun v4 H3=>gd v1 true (fun k=>opt (aC v4 H3) fun v=>k v H3) H3 fun v5 H4=>gd v1 true (fun k=>k t0 H4) H4 fun v6 H5=>gd v1 true (fun k=>k t1 H5) H5 fun v7 H6=>gd v1 true (fun k=>opt (aM 1 v6 v7) fun v=>k v H6) H6 fun v8 H7=>gd v1 true (fun k=>opt (aC v8 H7) fun v=>k v H7) H7 fun v9 H8=>gd v1 true (fun k=>E.call (E.fid i.f0) [v5,v9] H8 fun v h=>k v h) H8 fun v10 H9=>gd v1 true (fun k=>opt (un .not v10) fun v=>k v H9) H9 fun v11 H10=>opt (pick v1 v11 (.bool false)) fun v12=>ifB v12 (
 opt (aA .sub t11 (.int .i64 1)) fun v13=>X0 [t0,t1,t10,v13] H10) (
 opt (aA .gtr t10 t11) fun v14=>ifB v14 (
 opt (aM 1 t0 t1) fun v15=>opt (aC v15 H10) fun v16=>opt (aM 1 t0 t11) fun v17=>opt (aC v17 H10) fun v18=>opt (aM 1 t0 t11) fun v19=>opt (aR v19 v16 H10) fun H11=>opt (aM 1 t0 t1) fun v20=>opt (aR v20 v18 H11) fun H12=>Q (.tuple #[t11,(.bool true)]) H12) (
 opt (aM 1 t0 t11) fun v21=>opt (aC v21 H10) fun v22=>opt (aM 1 t0 t10) fun v23=>opt (aC v23 H10) fun v24=>opt (aM 1 t0 t10) fun v25=>opt (aR v25 v22 H10) fun H13=>opt (aM 1 t0 t11) fun v26=>opt (aR v26 v24 H13) fun H14=>opt (aA .add t10 (.int .i64 1)) fun v27=>opt (aA .sub t11 (.int .i64 1)) fun v28=>aT (fun l H X0=>F.f93_l3 E Q (nth l 0) (nth l 1) (nth l 2) (nth l 3) H X0) [t0,t1,v27,v28] H14))
def F.f93_l1 (E:Sy) (Q:VK) (t0 t1 t10 t11:Value) (H:AH) (X0:LK):Prop :=
 opt (aA .leq t10 t11) fun v1=>gd v1 true (fun k=>k t0 H) H fun v2 H1=>gd v1 true (fun k=>k t10 H1) H1 fun v3 H2=>gd v1 true (fun k=>opt (aM 1 v2 v3) fun v=>k v H2) H2 fun v4 H3=>gd v1 true (fun k=>opt (aC v4 H3) fun v=>k v H3) H3 fun v5 H4=>gd v1 true (fun k=>k t0 H4) H4 fun v6 H5=>gd v1 true (fun k=>k t1 H5) H5 fun v7 H6=>gd v1 true (fun k=>opt (aM 1 v6 v7) fun v=>k v H6) H6 fun v8 H7=>gd v1 true (fun k=>opt (aC v8 H7) fun v=>k v H7) H7 fun v9 H8=>gd v1 true (fun k=>E.call (E.fid i.f0) [v5,v9] H8 fun v h=>k v h) H8 fun v10 H9=>opt (pick v1 v10 (.bool false)) fun v11=>ifB v11 (
 opt (aA .add t10 (.int .i64 1)) fun v12=>X0 [t0,t1,v12,t11] H9) (
 aT (fun l H X0=>F.f93_l2 E Q (nth l 0) (nth l 1) (nth l 2) (nth l 3) H X0) [t0,t1,t10,t11] H9)
def F.f93 (E:Sy) (x0 x1 x2 x3:Value) (H:AH) (Q:VK):Prop :=
 opt (aM 1 x0 x3) fun v1=>opt (aC v1 H) fun v2=>opt (aM 1 x0 x1) fun v3=>opt (aC v3 H) fun v4=>opt (aM 1 x0 x1) fun v5=>opt (aR v5 v2 H) fun H1=>opt (aM 1 x0 x3) fun v6=>opt (aR v6 v4 H1) fun H2=>opt (aA .add x1 (.int .i64 1)) fun v7=>opt (aA .sub x2 (.int .i64 1)) fun v8=>aT (fun l H X0=>F.f93_l1 E Q (nth l 0) (nth l 1) (nth l 2) (nth l 3) H X0) [x0,x1,v7,v8] H2

def F.f98_l1 (E:Sy) (Q:VK) (t0 t1 t5:Value) (H:AH) (X0:LK):Prop :=
 E.call (E.fid i.f100) [t0,t1] H fun v1 H1=>opt (aA .eql v1 (.int .i64 (-1))) fun v2=>ifB v2 (
 Q t5 H1) (
 opt (aA .add t5 (.int .i64 1)) fun v3=>opt (dS t1) fun v4=>opt (aA .add v1 v4) fun v5=>opt (jO t0 (some v5) none) fun v6=>X0 [v6,t1,v3] H1)
def F.f98 (E:Sy) (x0 x1:Value) (H:AH) (Q:VK):Prop :=
 opt (dS x1) fun v1=>opt (aA .eql v1 (.int .i64 0)) fun v2=>ifB v2 (
 E.call (E.fid i.f109) [x0] H fun v3 H1=>opt (aA .add v3 (.int .i64 1)) fun v4=>Q v4 H1) (
 opt (dS x1) fun v5=>opt (aA .eql v5 (.int .i64 1)) fun v6=>ifB v6 (
 opt (fU x1 (.int .i64 0)) fun v7=>E.call (E.fid i.f22) [x0,v7] H fun v8 H2=>Q v8 H2) (
 aT (fun l H X0=>F.f98_l1 E Q (nth l 0) (nth l 1) (nth l 2) H X0) [x0,x1,(.int .i64 0)] H))

def F.f100 (E:Sy) (x0 x1:Value) (H:AH) (Q:VK):Prop :=
 E.call (E.fid i.f28) [x0,x1] H fun v1 H1=>Q v1 H1

def F.f96_j1 (E:Sy) (Q:VK) (X0:LK) (t0 t2 t3 t8 t9:Value) (H:AH):Prop :=
 opt (aA .add t3 t8) fun v1=>opt (aM 1 t0 v1) fun v2=>opt (aC v2 H) fun v3=>opt (aA .add t3 t9) fun v4=>opt (aM 1 t0 v4) fun v5=>opt (aC v5 H) fun v6=>E.call (E.fid i.f0) [v3,v6] H fun v7 H1=>opt (un .not v7) fun v8=>ifB v8 (
 Q (.tuple #[]) H1) (
 opt (aA .add t3 t8) fun v9=>opt (aA .add t3 t9) fun v10=>opt (aA .add t3 t9) fun v11=>opt (aM 1 t0 v11) fun v12=>opt (aC v12 H1) fun v13=>opt (aA .add t3 t8) fun v14=>opt (aM 1 t0 v14) fun v15=>opt (aC v15 H1) fun v16=>opt (aM 1 t0 v9) fun v17=>opt (aR v17 v13 H1) fun H2=>opt (aM 1 t0 v10) fun v18=>opt (aR v18 v16 H2) fun H3=>X0 [t0,t2,t3,t9] H3)
def F.f96_l1 (E:Sy) (Q:VK) (t0 t2 t3 t8:Value) (H:AH) (X0:LK):Prop :=
 opt (aA .mul (.int .i64 2) t8) fun v1=>opt (aA .add v1 (.int .i64 1)) fun v2=>opt (aA .geq v2 t2) fun v3=>ifB v3 (
 Q (.tuple #[]) H) (
 opt (aA .add v2 (.int .i64 1)) fun v4=>opt (aA .lss v4 t2) fun v5=>gd v5 true (fun k=>k t0 H) H fun v6 H1=>gd v5 true (fun k=>k t3 H1) H1 fun v7 H2=>gd v5 true (fun k=>k v2 H2) H2 fun v8 H3=>gd v5 true (fun k=>opt (aA .add v7 v8) fun v=>k v H3) H3 fun v9 H4=>gd v5 true (fun k=>opt (aM 1 v6 v9) fun v=>k v H4) H4 fun v10 H5=>gd v5 true (fun k=>opt (aC v10 H5) fun v=>k v H5) H5 fun v11 H6=>gd v5 true (fun k=>k t0 H6) H6 fun v12 H7=>gd v5 true (fun k=>k t3 H7) H7 fun v13 H8=>gd v5 true (fun k=>k v2 H8) H8 fun v14 H9=>gd v5 true (fun k=>opt (aA .add v13 v14) fun v=>k v H9) H9 fun v15 H10=>gd v5 true (fun k=>opt (aA .add v15 (.int .i64 1)) fun v=>k v H10) H10 fun v16 H11=>gd v5 true (fun k=>opt (aM 1 v12 v16) fun v=>k v H11) H11 fun v17 H12=>gd v5 true (fun k=>opt (aC v17 H12) fun v=>k v H12) H12 fun v18 H13=>gd v5 true (fun k=>E.call (E.fid i.f0) [v11,v18] H13 fun v h=>k v h) H13 fun v19 H14=>opt (pick v5 v19 (.bool false)) fun v20=>ifB v20 (
 opt (aA .add v2 (.int .i64 1)) fun v21=>F.f96_j1 E Q X0 t0 t2 t3 t8 v21 H14) (
 F.f96_j1 E Q X0 t0 t2 t3 t8 v2 H14))
def F.f96 (E:Sy) (x0 x1 x2 x3:Value) (H:AH) (Q:VK):Prop :=
 aT (fun l H X0=>F.f96_l1 E Q (nth l 0) (nth l 1) (nth l 2) (nth l 3) H X0) [x0,x2,x3,x1] H

def F.f89 (E:Sy) (x0:Value) (H:AH) (Q:VK):Prop :=
 opt (bQ .u64 x0) fun v1=>E.call (E.fid i.f30) [v1] H fun v2 H1=>opt (aA .shl (.int .u64 1) v2) fun v3=>Q v3 H1

def F.f97 (E:Sy) (x0:Value) (H:AH) (Q:VK):Prop :=
 opt (aG x0) fun v1=>opt (aC v1 H) fun v2=>opt (aG x0) fun v3=>opt (aC v3 H) fun v4=>opt (aA .shl v4 (.int .u64 13)) fun v5=>opt (aA .xor v2 v5) fun v6=>opt (aG x0) fun v7=>opt (aR v7 v6 H) fun H1=>opt (aG x0) fun v8=>opt (aC v8 H1) fun v9=>opt (aG x0) fun v10=>opt (aC v10 H1) fun v11=>opt (aA .shr v11 (.int .u64 7)) fun v12=>opt (aA .xor v9 v12) fun v13=>opt (aG x0) fun v14=>opt (aR v14 v13 H1) fun H2=>opt (aG x0) fun v15=>opt (aC v15 H2) fun v16=>opt (aG x0) fun v17=>opt (aC v17 H2) fun v18=>opt (aA .shl v18 (.int .u64 17)) fun v19=>opt (aA .xor v16 v19) fun v20=>opt (aG x0) fun v21=>opt (aR v21 v20 H2) fun H3=>opt (aG x0) fun v22=>opt (aC v22 H3) fun v23=>Q v23 H3

def F.f87 (E:Sy) (x0 x1 x2:Value) (H:AH) (Q:VK):Prop :=
 opt (aA .sub x1 (.int .i64 1)) fun v1=>opt (aA .add x1 (.int .i64 1)) fun v2=>E.call (E.fid i.f88) [x0,v1,x1,v2,x2] H fun v3 H1=>Q v3 H1

def F.f88 (E:Sy) (x0 x1 x2 x3 x4:Value) (H:AH) (Q:VK):Prop :=
 E.call (E.fid i.f90) [x0,x1,x2,x4] H fun v1 H1=>opt (ext v1 0) fun v2=>opt (ext v1 1) fun v3=>E.call (E.fid i.f90) [x0,v3,x3,x4] H1 fun v4 H2=>opt (ext v4 0) fun v5=>opt (ext v4 1) fun v6=>E.call (E.fid i.f90) [x0,v2,v5,x4] H2 fun v7 H3=>opt (ext v7 0) fun v8=>opt (ext v7 1) fun v9=>Q v9 H3

def F.f1 (E:Sy) (x0:Value) (H:AH) (Q:VK):Prop :=
 opt (cK .neq x0 x0) fun v1=>Q v1 H

def F.f28_j1 (E:Sy) (Q:VK) (X0:LK) (t0 t1 t5 t6 t7 t8 t9 t10:Value) (H:AH):Prop :=
 opt (aA .add t8 (.int .i64 1)) fun v1=>opt (fU t0 v1) fun v2=>opt (aA .eql v2 t7) fun v3=>gd v3 true (fun k=>k t0 H) H fun v4 H1=>gd v3 true (fun k=>k t8 H1) H1 fun v5 H2=>gd v3 true (fun k=>k t8 H2) H2 fun v6 H3=>gd v3 true (fun k=>k t5 H3) H3 fun v7 H4=>gd v3 true (fun k=>opt (aA .add v6 v7) fun v=>k v H4) H4 fun v8 H5=>gd v3 true (fun k=>opt (jO v4 (some v5) (some v8)) fun v=>k v H5) H5 fun v9 H6=>gd v3 true (fun k=>k t1 H6) H6 fun v10 H7=>gd v3 true (fun k=>opt (cK .eql v9 v10) fun v=>k v H7) H7 fun v11 H8=>opt (pick v3 v11 (.bool false)) fun v12=>ifB v12 (
 Q t8 H8) (
 opt (aA .add t8 (.int .i64 1)) fun v13=>opt (aA .add t10 (.int .i64 1)) fun v14=>opt (aC (.pointer (some ⟨E.gid 0,0,none⟩)) H8) fun v15=>opt (aA .leq t5 v15) fun v16=>gd v16 true (fun k=>k v14 H8) H8 fun v17 H9=>gd v16 true (fun k=>k v13 H9) H9 fun v18 H10=>gd v16 true (fun k=>E.call (E.fid i.f23) [v18] H10 fun v h=>k v h) H10 fun v19 H11=>gd v16 true (fun k=>opt (aA .gtr v17 v19) fun v=>k v H11) H11 fun v20 H12=>opt (pick v16 v20 (.bool false)) fun v21=>ifB v21 (
 opt (jO t0 (some v13) none) fun v22=>E.call (E.fid i.f26) [v22,t1] H12 fun v23 H13=>opt (aA .geq v23 (.int .i64 0)) fun v24=>ifB v24 (
 opt (aA .add v23 v13) fun v25=>Q v25 H13) (
 Q (.int .i64 (-1)) H13)) (
 opt (aC (.pointer (some ⟨E.gid 0,0,none⟩)) H12) fun v26=>opt (aA .gtr t5 v26) fun v27=>gd v27 true (fun k=>k v14 H12) H12 fun v28 H14=>gd v27 true (fun k=>k v13 H14) H14 fun v29 H15=>gd v27 true (fun k=>opt (aA .shr v29 (.int .u64 4)) fun v=>k v H15) H15 fun v30 H16=>gd v27 true (fun k=>opt (aA .add (.int .i64 4) v30) fun v=>k v H16) H16 fun v31 H17=>gd v27 true (fun k=>opt (aA .geq v28 v31) fun v=>k v H17) H17 fun v32 H18=>opt (pick v27 v32 (.bool false)) fun v33=>gd v33 true (fun k=>k v13 H18) H18 fun v34 H19=>gd v33 true (fun k=>k t9 H19) H19 fun v35 H20=>gd v33 true (fun k=>opt (aA .lss v34 v35) fun v=>k v H20) H20 fun v36 H21=>opt (pick v33 v36 (.bool false)) fun v37=>ifB v37 (
 opt (jO t0 (some v13) none) fun v38=>E.call (E.fid i.f25) [v38,t1] H21 fun v39 H22=>opt (aA .lss v39 (.int .i64 0)) fun v40=>ifB v40 (
 Q (.int .i64 (-1)) H22) (
 opt (aA .add v13 v39) fun v41=>Q v41 H22)) (
 X0 [t0,t1,t5,t6,t7,v13,t9,v14] H21)))
def F.f28_l1 (E:Sy) (Q:VK) (t0 t1 t5 t6 t7 t8 t9 t10:Value) (H:AH) (X0:LK):Prop :=
 opt (aA .lss t8 t9) fun v1=>ifB v1 (
 opt (fU t0 t8) fun v2=>opt (aA .neq v2 t6) fun v3=>ifB v3 (
 opt (aA .add t8 (.int .i64 1)) fun v4=>opt (jO t0 (some v4) (some t9)) fun v5=>E.call (E.fid i.f29) [v5,t6] H fun v6 H1=>opt (aA .lss v6 (.int .i64 0)) fun v7=>ifB v7 (
 Q (.int .i64 (-1)) H1) (
 opt (aA .add v6 (.int .i64 1)) fun v8=>opt (aA .add t8 v8) fun v9=>F.f28_j1 E Q X0 t0 t1 t5 t6 t7 v9 t9 t10 H1)) (
 F.f28_j1 E Q X0 t0 t1 t5 t6 t7 t8 t9 t10 H)) (
 Q (.int .i64 (-1)) H)
def F.f28 (E:Sy) (x0 x1:Value) (H:AH) (Q:VK):Prop :=
 opt (dS x1) fun v1=>opt (aA .eql v1 (.int .i64 0)) fun v2=>gd v2 false (fun k=>k x1 H) H fun v3 H1=>gd v2 false (fun k=>k x0 H1) H1 fun v4 H2=>gd v2 false (fun k=>opt (cK .eql v3 v4) fun v=>k v H2) H2 fun v5 H3=>opt (pick v2 (.bool true) v5) fun v6=>ifB v6 (
 Q (.int .i64 0) H3) (
 opt (aA .eql v1 (.int .i64 1)) fun v7=>ifB v7 (
 opt (fU x1 (.int .i64 0)) fun v8=>E.call (E.fid i.f29) [x0,v8] H3 fun v9 H4=>Q v9 H4) (
 opt (dS x0) fun v10=>opt (aA .geq v1 v10) fun v11=>ifB v11 (
 Q (.int .i64 (-1)) H3) (
 opt (aC (.pointer (some ⟨E.gid 0,0,none⟩)) H3) fun v12=>opt (aA .leq v1 v12) fun v13=>gd v13 true (fun k=>k x0 H3) H3 fun v14 H5=>gd v13 true (fun k=>opt (dS v14) fun v=>k v H5) H5 fun v15 H6=>gd v13 true (fun k=>opt (aA .leq v15 (.int .i64 64)) fun v=>k v H6) H6 fun v16 H7=>opt (pick v13 v16 (.bool false)) fun v17=>ifB v17 (
 E.call (E.fid i.f26) [x0,x1] H7 fun v18 H8=>Q v18 H8) (
 opt (fU x1 (.int .i64 0)) fun v19=>opt (fU x1 (.int .i64 1)) fun v20=>opt (dS x0) fun v21=>opt (aA .sub v21 v1) fun v22=>opt (aA .add v22 (.int .i64 1)) fun v23=>aT (fun l H X0=>F.f28_l1 E Q (nth l 0) (nth l 1) (nth l 2) (nth l 3) (nth l 4) (nth l 5) (nth l 6) (nth l 7) H X0) [x0,x1,v1,v19,v20,(.int .i64 0),v23,(.int .i64 0)] H7))))

def F.f90 (E:Sy) (x0 x1 x2 x3:Value) (H:AH) (Q:VK):Prop :=
 opt (aM 1 x0 x2) fun v1=>opt (aC v1 H) fun v2=>opt (aM 1 x0 x1) fun v3=>opt (aC v3 H) fun v4=>E.call (E.fid i.f0) [v2,v4] H fun v5 H1=>ifB v5 (
 opt (aG x3) fun v6=>opt (aC v6 H1) fun v7=>opt (aA .add v7 (.int .i64 1)) fun v8=>opt (aG x3) fun v9=>opt (aR v9 v8 H1) fun H2=>Q (.tuple #[x2,x1]) H2) (
 Q (.tuple #[x1,x2]) H1)

def F.f29 (E:Sy) (x0 x1:Value) (H:AH) (Q:VK):Prop :=
 E.call (E.fid i.f24) [x0,x1] H fun v1 H1=>Q v1 H1
structure bL (E:Sy):Prop where
  mono:aDb E.call
  f49:∀ x0 x1 H Q,F.f49 E x0 x1 H Q->E.call (E.fid i.f49) [x0,x1] H Q
  f45:∀ H Q,F.f45 E H Q->E.call (E.fid i.f45) [] H Q
  f47:∀ x0 H Q,F.f47 E x0 H Q->E.call (E.fid i.f47) [x0] H Q
  f46:∀ x0 H Q,F.f46 E x0 H Q->E.call (E.fid i.f46) [x0] H Q
  f44:∀ x0 H Q,F.f44 E x0 H Q->E.call (E.fid i.f44) [x0] H Q
  f111:∀ x0 x1 H Q,F.f111 E x0 x1 H Q->E.call (E.fid i.f111) [x0,x1] H Q
  f54:∀ x0 x1 H Q,F.f54 E x0 x1 H Q->E.call (E.fid i.f54) [x0,x1] H Q
  f114:∀ x0 x1 H Q,F.f114 E x0 x1 H Q->E.call (E.fid i.f114) [x0,x1] H Q
  f67:∀ x0 x1 H Q,F.f67 E x0 x1 H Q->E.call (E.fid i.f67) [x0,x1] H Q
  f112:∀ x0 x1 H Q,F.f112 E x0 x1 H Q->E.call (E.fid i.f112) [x0,x1] H Q
  f58:∀ x0 x1 H Q,F.f58 E x0 x1 H Q->E.call (E.fid i.f58) [x0,x1] H Q
  f115:∀ x0 x1 H Q,F.f115 E x0 x1 H Q->E.call (E.fid i.f115) [x0,x1] H Q
  f69:∀ x0 x1 H Q,F.f69 E x0 x1 H Q->E.call (E.fid i.f69) [x0,x1] H Q
  f110:∀ x0 H Q,F.f110 E x0 H Q->E.call (E.fid i.f110) [x0] H Q
  f12:∀ x0 x1 x2 x3 x4 H Q,F.f12 E x0 x1 x2 x3 x4 H Q->E.call (E.fid i.f12) [x0,x1,x2,x3,x4] H Q
  f41:∀ H Q,F.f41 E H Q->E.call (E.fid i.f41) [] H Q
  f113:∀ x0 x1 x2 x3 H Q,F.f113 E x0 x1 x2 x3 H Q->E.call (E.fid i.f113) [x0,x1,x2,x3] H Q
  f52:∀ x0 H Q,F.f52 E x0 H Q->E.call (E.fid i.f52) [x0] H Q
  f48:∀ x0 x1 x2 H Q,F.f48 E x0 x1 x2 H Q->E.call (E.fid i.f48) [x0,x1,x2] H Q
  f35:∀ x0 x1 H Q,F.f35 E x0 x1 H Q->E.call (E.fid i.f35) [x0,x1] H Q
  f9:∀ x0 x1 H Q,F.f9 E x0 x1 H Q->E.call (E.fid i.f9) [x0,x1] H Q
  f59:∀ x0 x1 H Q,F.f59 E x0 x1 H Q->E.call (E.fid i.f59) [x0,x1] H Q
  f66:∀ x0 x1 H Q,F.f66 E x0 x1 H Q->E.call (E.fid i.f66) [x0,x1] H Q
  f116:∀ x0 x1 x2 H Q,F.f116 E x0 x1 x2 H Q->E.call (E.fid i.f116) [x0,x1,x2] H Q
  f53:∀ H Q,F.f53 E H Q->E.call (E.fid i.f53) [] H Q
  f118:∀ x0 H Q,F.f118 E x0 H Q->E.call (E.fid i.f118) [x0] H Q
  f36:∀ x0 x1 H Q,F.f36 E x0 x1 H Q->E.call (E.fid i.f36) [x0,x1] H Q
  f74:∀ x0 x1 H Q,F.f74 E x0 x1 H Q->E.call (E.fid i.f74) [x0,x1] H Q
  f37:∀ x0 x1 H Q,F.f37 E x0 x1 H Q->E.call (E.fid i.f37) [x0,x1] H Q
  f68:∀ x0 x1 H Q,F.f68 E x0 x1 H Q->E.call (E.fid i.f68) [x0,x1] H Q
  f4:∀ x0 H Q,F.f4 E x0 H Q->E.call (E.fid i.f4) [x0] H Q
  f33:∀ H Q,F.f33 E H Q->E.call (E.fid i.f33) [] H Q
  f19:∀ x0 x1 x2 H Q,F.f19 E x0 x1 x2 H Q->E.call (E.fid i.f19) [x0,x1,x2] H Q
  f16:∀ x0 x1 H Q,F.f16 E x0 x1 H Q->E.call (E.fid i.f16) [x0,x1] H Q
  f108:∀ x0 x1 H Q,F.f108 E x0 x1 H Q->E.call (E.fid i.f108) [x0,x1] H Q
  f117:∀ x0 x1 x2 H Q,F.f117 E x0 x1 x2 H Q->E.call (E.fid i.f117) [x0,x1,x2] H Q
  f99:∀ x0 x1 H Q,F.f99 E x0 x1 H Q->E.call (E.fid i.f99) [x0,x1] H Q
  f121:∀ x0 x1 H Q,F.f121 E x0 x1 H Q->E.call (E.fid i.f121) [x0,x1] H Q
  f50:∀ H Q,F.f50 E H Q->E.call (E.fid i.f50) [] H Q
  f42:∀ x0 x1 x2 H Q,F.f42 E x0 x1 x2 H Q->E.call (E.fid i.f42) [x0,x1,x2] H Q
  f34:∀ x0 x1 x2 H Q,F.f34 E x0 x1 x2 H Q->E.call (E.fid i.f34) [x0,x1,x2] H Q
  f56:∀ x0 x1 x2 H Q,F.f56 E x0 x1 x2 H Q->E.call (E.fid i.f56) [x0,x1,x2] H Q
  f10:∀ x0 x1 x2 H Q,F.f10 E x0 x1 x2 H Q->E.call (E.fid i.f10) [x0,x1,x2] H Q
  f61:∀ x0 x1 x2 H Q,F.f61 E x0 x1 x2 H Q->E.call (E.fid i.f61) [x0,x1,x2] H Q
  f8:∀ x0 x1 H Q,F.f8 E x0 x1 H Q->E.call (E.fid i.f8) [x0,x1] H Q
  f11:∀ x0 x1 x2 H Q,F.f11 E x0 x1 x2 H Q->E.call (E.fid i.f11) [x0,x1,x2] H Q
  f39:∀ x0 x1 H Q,F.f39 E x0 x1 H Q->E.call (E.fid i.f39) [x0,x1] H Q
  f38:∀ x0 x1 H Q,F.f38 E x0 x1 H Q->E.call (E.fid i.f38) [x0,x1] H Q
  f81:∀ x0 x1 H Q,F.f81 E x0 x1 H Q->E.call (E.fid i.f81) [x0,x1] H Q
  f17:∀ x0 x1 H Q,F.f17 E x0 x1 H Q->E.call (E.fid i.f17) [x0,x1] H Q
  f2:∀ x0 H Q,F.f2 E x0 H Q->E.call (E.fid i.f2) [x0] H Q
  f119:∀ x0 H Q,F.f119 E x0 H Q->E.call (E.fid i.f119) [x0] H Q
  f27:∀ x0 x1 H Q,F.f27 E x0 x1 H Q->E.call (E.fid i.f27) [x0,x1] H Q
  f120:∀ x0 x1 H Q,F.f120 E x0 x1 H Q->E.call (E.fid i.f120) [x0,x1] H Q
  f43:∀ H Q,F.f43 E H Q->E.call (E.fid i.f43) [] H Q
  f64:∀ x0 x1 x2 x3 x4 H Q,F.f64 E x0 x1 x2 x3 x4 H Q->E.call (E.fid i.f64) [x0,x1,x2,x3,x4] H Q
  f5:∀ x0 x1 x2 x3 H Q,F.f5 E x0 x1 x2 x3 H Q->E.call (E.fid i.f5) [x0,x1,x2,x3] H Q
  f55:∀ x0 x1 x2 x3 H Q,F.f55 E x0 x1 x2 x3 H Q->E.call (E.fid i.f55) [x0,x1,x2,x3] H Q
  f7:∀ x0 x1 x2 x3 H Q,F.f7 E x0 x1 x2 x3 H Q->E.call (E.fid i.f7) [x0,x1,x2,x3] H Q
  f60:∀ x0 x1 x2 x3 H Q,F.f60 E x0 x1 x2 x3 H Q->E.call (E.fid i.f60) [x0,x1,x2,x3] H Q
  f13:∀ x0 x1 x2 x3 x4 H Q,F.f13 E x0 x1 x2 x3 x4 H Q->E.call (E.fid i.f13) [x0,x1,x2,x3,x4] H Q
  f65:∀ x0 x1 x2 x3 x4 H Q,F.f65 E x0 x1 x2 x3 x4 H Q->E.call (E.fid i.f65) [x0,x1,x2,x3,x4] H Q
  f15:∀ x0 x1 x2 x3 H Q,F.f15 E x0 x1 x2 x3 H Q->E.call (E.fid i.f15) [x0,x1,x2,x3] H Q
  f71:∀ x0 x1 x2 x3 H Q,F.f71 E x0 x1 x2 x3 H Q->E.call (E.fid i.f71) [x0,x1,x2,x3] H Q
  f6:∀ x0 x1 x2 H Q,F.f6 E x0 x1 x2 H Q->E.call (E.fid i.f6) [x0,x1,x2] H Q
  f57:∀ x0 x1 x2 H Q,F.f57 E x0 x1 x2 H Q->E.call (E.fid i.f57) [x0,x1,x2] H Q
  f63:∀ x0 x1 x2 H Q,F.f63 E x0 x1 x2 H Q->E.call (E.fid i.f63) [x0,x1,x2] H Q
  f21:∀ x0 x1 H Q,F.f21 E x0 x1 H Q->E.call (E.fid i.f21) [x0,x1] H Q
  f77:∀ x0 x1 H Q,F.f77 E x0 x1 H Q->E.call (E.fid i.f77) [x0,x1] H Q
  f82:∀ x0 H Q,F.f82 E x0 H Q->E.call (E.fid i.f82) [x0] H Q
  f40:∀ x0 x1 H Q,F.f40 E x0 x1 H Q->E.call (E.fid i.f40) [x0,x1] H Q
  f101:∀ x0 x1 H Q,F.f101 E x0 x1 H Q->E.call (E.fid i.f101) [x0,x1] H Q
  f3:∀ x0 H Q,F.f3 E x0 H Q->E.call (E.fid i.f3) [x0] H Q
  f103:∀ x0 x1 H Q,F.f103 E x0 x1 H Q->E.call (E.fid i.f103) [x0,x1] H Q
  f75:∀ x0 x1 x2 H Q,F.f75 E x0 x1 x2 H Q->E.call (E.fid i.f75) [x0,x1,x2] H Q
  f62:∀ x0 H Q,F.f62 E x0 H Q->E.call (E.fid i.f62) [x0] H Q
  f72:∀ x0 x1 H Q,F.f72 E x0 x1 H Q->E.call (E.fid i.f72) [x0,x1] H Q
  f79:∀ x0 x1 H Q,F.f79 E x0 x1 H Q->E.call (E.fid i.f79) [x0,x1] H Q
  f78:∀ x0 x1 H Q,F.f78 E x0 x1 H Q->E.call (E.fid i.f78) [x0,x1] H Q
  f80:∀ x0 x1 H Q,F.f80 E x0 x1 H Q->E.call (E.fid i.f80) [x0,x1] H Q
  f18:∀ x0 x1 x2 x3 x4 x5 H Q,F.f18 E x0 x1 x2 x3 x4 x5 H Q->E.call (E.fid i.f18) [x0,x1,x2,x3,x4,x5] H Q
  f73:∀ x0 x1 H Q,F.f73 E x0 x1 H Q->E.call (E.fid i.f73) [x0,x1] H Q
  f51:∀ x0 H Q,F.f51 E x0 H Q->E.call (E.fid i.f51) [x0] H Q
  f70:∀ x0 x1 x2 H Q,F.f70 E x0 x1 x2 H Q->E.call (E.fid i.f70) [x0,x1,x2] H Q
  f76:∀ x0 x1 H Q,F.f76 E x0 x1 H Q->E.call (E.fid i.f76) [x0,x1] H Q
  f30:∀ x0 H Q,F.f30 E x0 H Q->E.call (E.fid i.f30) [x0] H Q
  f94:∀ x0 x1 x2 x3 H Q,F.f94 E x0 x1 x2 x3 H Q->E.call (E.fid i.f94) [x0,x1,x2,x3] H Q
  f106:∀ x0 x1 x2 H Q,F.f106 E x0 x1 x2 H Q->E.call (E.fid i.f106) [x0,x1,x2] H Q
  f105:∀ x0 x1 x2 x3 H Q,F.f105 E x0 x1 x2 x3 H Q->E.call (E.fid i.f105) [x0,x1,x2,x3] H Q
  f14:∀ x0 x1 x2 H Q,F.f14 E x0 x1 x2 H Q->E.call (E.fid i.f14) [x0,x1,x2] H Q
  f20:∀ x0 x1 H Q,F.f20 E x0 x1 H Q->E.call (E.fid i.f20) [x0,x1] H Q
  f32:∀ x0 H Q,F.f32 E x0 H Q->E.call (E.fid i.f32) [x0] H Q
  f86:∀ x0 x1 x2 H Q,F.f86 E x0 x1 x2 H Q->E.call (E.fid i.f86) [x0,x1,x2] H Q
  f85:∀ x0 x1 x2 H Q,F.f85 E x0 x1 x2 H Q->E.call (E.fid i.f85) [x0,x1,x2] H Q
  f83:∀ x0 x1 x2 H Q,F.f83 E x0 x1 x2 H Q->E.call (E.fid i.f83) [x0,x1,x2] H Q
  f84:∀ x0 x1 x2 H Q,F.f84 E x0 x1 x2 H Q->E.call (E.fid i.f84) [x0,x1,x2] H Q
  f95:∀ x0 x1 x2 H Q,F.f95 E x0 x1 x2 H Q->E.call (E.fid i.f95) [x0,x1,x2] H Q
  f91:∀ x0 x1 x2 H Q,F.f91 E x0 x1 x2 H Q->E.call (E.fid i.f91) [x0,x1,x2] H Q
  f0:∀ x0 x1 H Q,F.f0 E x0 x1 H Q->E.call (E.fid i.f0) [x0,x1] H Q
  f92:∀ x0 x1 x2 x3 H Q,F.f92 E x0 x1 x2 x3 H Q->E.call (E.fid i.f92) [x0,x1,x2,x3] H Q
  f93:∀ x0 x1 x2 x3 H Q,F.f93 E x0 x1 x2 x3 H Q->E.call (E.fid i.f93) [x0,x1,x2,x3] H Q
  f98:∀ x0 x1 H Q,F.f98 E x0 x1 H Q->E.call (E.fid i.f98) [x0,x1] H Q
  f100:∀ x0 x1 H Q,F.f100 E x0 x1 H Q->E.call (E.fid i.f100) [x0,x1] H Q
  f96:∀ x0 x1 x2 x3 H Q,F.f96 E x0 x1 x2 x3 H Q->E.call (E.fid i.f96) [x0,x1,x2,x3] H Q
  f89:∀ x0 H Q,F.f89 E x0 H Q->E.call (E.fid i.f89) [x0] H Q
  f97:∀ x0 H Q,F.f97 E x0 H Q->E.call (E.fid i.f97) [x0] H Q
  f87:∀ x0 x1 x2 H Q,F.f87 E x0 x1 x2 H Q->E.call (E.fid i.f87) [x0,x1,x2] H Q
  f88:∀ x0 x1 x2 x3 x4 H Q,F.f88 E x0 x1 x2 x3 x4 H Q->E.call (E.fid i.f88) [x0,x1,x2,x3,x4] H Q
  f1:∀ x0 H Q,F.f1 E x0 H Q->E.call (E.fid i.f1) [x0] H Q
  f28:∀ x0 x1 H Q,F.f28 E x0 x1 H Q->E.call (E.fid i.f28) [x0,x1] H Q
  f90:∀ x0 x1 x2 x3 H Q,F.f90 E x0 x1 x2 x3 H Q->E.call (E.fid i.f90) [x0,x1,x2,x3] H Q
  f29:∀ x0 x1 H Q,F.f29 E x0 x1 H Q->E.call (E.fid i.f29) [x0,x1] H Q
  f102:∀ x0 x1 H Q,vF x0 x1 H Q->E.call (E.fid i.f102) [x0,x1] H Q
  f107:∀ x0 x1 H Q,mI x0 x1 H Q->E.call (E.fid i.f107) [x0,x1] H Q
  f22:∀ x0 x1 H Q,pX x0 x1 H Q->E.call (E.fid i.f22) [x0,x1] H Q
  f24:∀ x0 x1 H Q,pS x0 x1 H Q->E.call (E.fid i.f24) [x0,x1] H Q
end Go.AM
