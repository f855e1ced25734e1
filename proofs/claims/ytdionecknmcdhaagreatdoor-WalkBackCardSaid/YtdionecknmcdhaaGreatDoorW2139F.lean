/- THE FUNCTIONS, AS THE ABSTRACT MACHINE SEES THEM: written by program (gen2.py). -/
import Derived.Test.YtdionecknmcdhaaGreatDoorW2139A1
set_option linter.all false
set_option linter.unusedVariables false
namespace Go.AM
abbrev LK:=List Value->AH->Prop
abbrev VK:=Value->AH->Prop
def i.f33:Nat:=68
def i.f37:Nat:=69
def i.f35:Nat:=70
def i.f34:Nat:=71
def i.f41:Nat:=76
def i.f53:Nat:=78
def i.f44:Nat:=79
def i.f64:Nat:=81
def i.f36:Nat:=84
def i.f55:Nat:=85
def i.f38:Nat:=88
def i.f76:Nat:=89
def i.f39:Nat:=90
def i.f69:Nat:=95
def i.f40:Nat:=97
def i.f4:Nat:=100
def i.f12:Nat:=101
def i.f10:Nat:=102
def i.f7:Nat:=103
def i.f9:Nat:=104
def i.f15:Nat:=105
def i.f13:Nat:=107
def i.f5:Nat:=108
def i.f61:Nat:=110
def i.f8:Nat:=111
def i.f2:Nat:=112
def i.f52:Nat:=113
def i.f59:Nat:=115
def i.f14:Nat:=116
def i.f65:Nat:=117
def i.f62:Nat:=118
def i.f11:Nat:=121
def i.f6:Nat:=125
def i.f42:Nat:=128
def i.f19:Nat:=130
def i.f16:Nat:=131
def i.f103:Nat:=132
def i.f21:Nat:=133
def i.f17:Nat:=134
def i.f18:Nat:=135
def i.f70:Nat:=136
def i.f67:Nat:=137
def i.f74:Nat:=138
def i.f3:Nat:=139
def i.f96:Nat:=140
def i.f63:Nat:=141
def i.f60:Nat:=142
def i.f68:Nat:=143
def i.f73:Nat:=144
def i.f71:Nat:=145
def i.f75:Nat:=146
def i.f57:Nat:=147
def i.f43:Nat:=149
def i.f54:Nat:=150
def i.f58:Nat:=151
def i.f66:Nat:=152
def i.f56:Nat:=153
def i.f102:Nat:=154
def i.f20:Nat:=155
def i.f77:Nat:=156
def i.f30:Nat:=157
def i.f89:Nat:=158
def i.f101:Nat:=159
def i.f72:Nat:=160
def i.f31:Nat:=164
def i.f32:Nat:=165
def i.f81:Nat:=166
def i.f80:Nat:=167
def i.f79:Nat:=168
def i.f0:Nat:=169
def i.f87:Nat:=170
def i.f88:Nat:=171
def i.f86:Nat:=172
def i.f90:Nat:=173
def i.f78:Nat:=174
def i.f91:Nat:=184
def i.f84:Nat:=185
def i.f92:Nat:=186
def i.f83:Nat:=187
def i.f82:Nat:=188
def i.f1:Nat:=189
def i.f85:Nat:=194
def i.f105:Nat:=198
def i.f45:Nat:=216
def i.f108:Nat:=218
def i.f109:Nat:=235
def i.f112:Nat:=236
def i.f94:Nat:=237
def i.f116:Nat:=238
def i.f107:Nat:=239
def i.f106:Nat:=241
def i.f111:Nat:=242
def i.f97:Nat:=243
def i.f114:Nat:=244
def i.f113:Nat:=245
def i.f27:Nat:=246
def i.f110:Nat:=247
def i.f115:Nat:=248
def i.f98:Nat:=252
def i.f100:Nat:=254
def i.f99:Nat:=256
def i.f95:Nat:=257
def i.f93:Nat:=258
def i.f104:Nat:=261
def i.f22:Nat:=263
def i.f28:Nat:=264
def i.f29:Nat:=266
def i.f26:Nat:=267
def i.f23:Nat:=268
def i.f25:Nat:=269
def i.f24:Nat:=270
def i.f47:Nat:=274
def i.f46:Nat:=275
def i.f48:Nat:=277
def i.f50:Nat:=290
def i.f49:Nat:=325
def i.f51:Nat:=326
def F.f49_l1 (E:Sy) (Q:VK) (t5 t7 t8 t10 t50 t51 t52:Value) (H:AH) (X0:LK):Prop :=
 opt (binInt .lss t52 t51) fun v1=>ifB v1 (
 opt (ixSlc 2 t50 t52) fun v2=>opt (loadN 2 v2 H) fun v3=>allocW [(.int .i64 0),(.int .u16 0)] H fun v4 H1=>opt (storeN 2 v4 v3 H1) fun H2=>opt (nilCk t5) fun v5=>opt (addOff v5 1) fun v6=>opt (load1 v6 H2) fun v7=>opt (loadN 2 v4 H2) fun v8=>opt (loadN 2 v4 H2) fun v9=>E.call (E.fid i.f37) [v7,v8] H2 fun v10 H3=>loadN 2 v4 H3=loadN 2 v4 H2 /\
 opt (binAgg [0,0] .neq v10 v9) fun v11=>gd v11 true (fun k=>k t5 H3) H3 fun v12 H4=>gd v11 true (fun k=>k t10 H4) H4 fun v13 H5=>gd v11 true (fun k=>opt (loadN 2 v4 H5) fun v=>k v H5) H5 fun v14 H6=>gd v11 true (fun k=>E.call (E.fid i.f51) [v12,v13,v14] H6 fun v h=>k v h) H6 fun v15 H7=>gd v11 true (fun k=>opt (un .not v15) fun v=>k v H7) H7 fun v16 H8=>opt (pick v11 v16 (.bool false)) fun v17=>ifB v17 (
 Q (.bool true) H8) (
 opt (binInt .add t52 (.int .i64 1)) fun v18=>X0 [t5,t7,t8,t10,t50,t51,v18] H8)) (
 E.call (E.fid i.f41) [] H fun v19 H9=>E.call (E.fid i.f108) [t5,v19,t8,(.bool true)] H9 fun v20 H10=>opt (ext v20 0) fun v21=>opt (ext v20 1) fun v22=>allocW [(.int .i64 0),(.int .u16 0)] H10 fun v23 H11=>opt (storeN 2 v23 v21 H11) fun H12=>opt (binInt .eql v22 (.int .i64 0)) fun v24=>gd v24 true (fun k=>opt (loadN 2 v23 H12) fun v=>k v H12) H12 fun v25 H13=>gd v24 true (fun k=>opt (loadN 2 t7 H13) fun v=>k v H13) H13 fun v26 H14=>gd v24 true (fun k=>opt (binAgg [0,0] .eql v25 v26) fun v=>k v H14) H14 fun v27 H15=>opt (pick v24 v27 (.bool false)) fun v28=>Q v28 H15)
def F.f49 (E:Sy) (x0 x1:Value) (H:AH) (Q:VK):Prop :=
 E.call (E.fid i.f45) [] H fun v1 H1=>opt (un .not v1) fun v2=>ifB v2 (
 Q (.bool false) H1) (
 E.call (E.fid i.f47) [x0] H1 fun v3 H2=>opt (un .not v3) fun v4=>ifB v4 (
 Q (.bool true) H2) (
 E.call (E.fid i.f46) [x0] H2 fun v5 H3=>opt (ext v5 0) fun v6=>opt (ext v5 1) fun v7=>opt (nilCk v6) fun v8=>opt (addOff v8 1) fun v9=>opt (load1 v9 H3) fun v10=>opt (binInt .rem x1 (.int .u8 9)) fun v11=>opt (convInt .u16 v11) fun v12=>opt (buildV [(0,1),(1,1)] #[(.int .i64 0),(.int .u16 0)] [(1,v12)]) fun v13=>E.call (E.fid i.f37) [v10,v13] H3 fun v14 H4=>allocW [(.int .i64 0),(.int .u16 0)] H4 fun v15 H5=>opt (storeN 2 v15 v14 H5) fun H6=>opt (loadN 2 v15 H6) fun v16=>E.call (E.fid i.f109) [v6,v16] H6 fun v17 H7=>opt (ext v17 0) fun v18=>opt (ext v17 1) fun v19=>opt (un .not v19) fun v20=>gd v20 false (fun k=>k v18 H7) H7 fun v21 H8=>gd v20 false (fun k=>opt (lenStr v21) fun v=>k v H8) H8 fun v22 H9=>gd v20 false (fun k=>opt (binInt .gtr v22 (.int .i64 120)) fun v=>k v H9) H9 fun v23 H10=>opt (pick v20 (.bool true) v23) fun v24=>ifB v24 (
 Q (.bool true) H10) (
 opt (loadN 2 v15 H10) fun v25=>E.call (E.fid i.f106) [v6,v25] H10 fun v26 H11=>opt (lenSlc v26) fun v27=>LoopL (fun l H X0=>F.f49_l1 E Q (nth l 0) (nth l 1) (nth l 2) (nth l 3) (nth l 4) (nth l 5) (nth l 6) H X0) [v6,v15,v18,v26,v26,v27,(.int .i64 0)] H11)))

def F.f45 (E:Sy) (H:AH) (Q:VK):Prop :=
 E.call (E.fid i.f105) [(.int .i64 9)] H fun v1 H1=>opt (binNil eqPtr .eql v1 (.pointer none)) fun v2=>ifB v2 (
 Q (.bool false) H1) (
 opt (nilCk v1) fun v3=>opt (addOff v3 0) fun v4=>opt (load1 v4 H1) fun v5=>E.call (E.fid i.f12) [v5,(.int .u16 1),(.string ⟨#[97]⟩),(.int .u8 2),(.string ⟨#[]⟩)] H1 fun v6 H2=>opt (ext v6 0) fun v7=>opt (ext v6 1) fun v8=>opt (nilCk v1) fun v9=>opt (addOff v9 0) fun v10=>opt (load1 v10 H2) fun v11=>E.call (E.fid i.f12) [v11,v7,(.string ⟨#[102]⟩),(.int .u8 1),(.string ⟨#[]⟩)] H2 fun v12 H3=>opt (ext v12 0) fun v13=>opt (ext v12 1) fun v14=>E.call (E.fid i.f41) [] H3 fun v15 H4=>E.call (E.fid i.f108) [v1,v15,(.string ⟨#[47,97,47,46,46,47,97,47,102]⟩),(.bool true)] H4 fun v16 H5=>opt (ext v16 0) fun v17=>opt (ext v16 1) fun v18=>allocW [(.int .i64 0),(.int .u16 0)] H5 fun v19 H6=>opt (storeN 2 v19 v17 H6) fun H7=>opt (buildV [(0,1),(1,1)] #[(.int .i64 0),(.int .u16 0)] [(1,v7)]) fun v20=>E.call (E.fid i.f109) [v1,v20] H7 fun v21 H8=>opt (ext v21 0) fun v22=>opt (ext v21 1) fun v23=>opt (binInt .eql v8 (.int .i64 0)) fun v24=>gd v24 true (fun k=>k v14 H8) H8 fun v25 H9=>gd v24 true (fun k=>opt (binInt .eql v25 (.int .i64 0)) fun v=>k v H9) H9 fun v26 H10=>opt (pick v24 v26 (.bool false)) fun v27=>gd v27 true (fun k=>k v18 H10) H10 fun v28 H11=>gd v27 true (fun k=>opt (binInt .eql v28 (.int .i64 0)) fun v=>k v H11) H11 fun v29 H12=>opt (pick v27 v29 (.bool false)) fun v30=>gd v30 true (fun k=>opt (addOff v19 1) fun v=>k v H12) H12 fun v31 H13=>gd v30 true (fun k=>opt (load1 v31 H13) fun v=>k v H13) H13 fun v32 H14=>gd v30 true (fun k=>k v13 H14) H14 fun v33 H15=>gd v30 true (fun k=>opt (binInt .eql v32 v33) fun v=>k v H15) H15 fun v34 H16=>opt (pick v30 v34 (.bool false)) fun v35=>gd v35 true (fun k=>k v23 H16) H16 fun v36 H17=>opt (pick v35 v36 (.bool false)) fun v37=>gd v37 true (fun k=>k v22 H17) H17 fun v38 H18=>gd v37 true (fun k=>opt (binStr .eql v38 (.string ⟨#[47,97]⟩)) fun v=>k v H18) H18 fun v39 H19=>opt (pick v37 v39 (.bool false)) fun v40=>Q v40 H19)

def F.f47_l1 (E:Sy) (Q:VK) (t5 t6 t7:Value) (H:AH) (X0:LK):Prop :=
 opt (binInt .lss t7 t6) fun v1=>ifB v1 (
 opt (ixSlc 14 t5 t7) fun v2=>opt (loadN 14 v2 H) fun v3=>allocW [(.int .u8 0),(.int .u8 0),(.int .u8 0),(.int .u8 0),(.int .u8 0),(.int .u8 0),(.string ⟨#[]⟩),(.int .i64 0),(.slice none 0 0),(.bool false),(.bool false),(.int .u8 0),(.int .u8 0),(.int .u8 0)] H fun v4 H1=>opt (storeN 14 v4 v3 H1) fun H2=>opt (addOff v4 1) fun v5=>opt (addOff v5 5) fun v6=>opt (load1 v6 H2) fun v7=>opt (lenStr v7) fun v8=>opt (binInt .gtr v8 (.int .i64 200)) fun v9=>gd v9 false (fun k=>opt (addOff v4 1) fun v=>k v H2) H2 fun v10 H3=>gd v9 false (fun k=>opt (addOff v10 7) fun v=>k v H3) H3 fun v11 H4=>gd v9 false (fun k=>opt (load1 v11 H4) fun v=>k v H4) H4 fun v12 H5=>gd v9 false (fun k=>opt (lenSlc v12) fun v=>k v H5) H5 fun v13 H6=>gd v9 false (fun k=>opt (binInt .gtr v13 (.int .i64 200)) fun v=>k v H6) H6 fun v14 H7=>opt (pick v9 (.bool true) v14) fun v15=>ifB v15 (
 Q (.bool false) H7) (
 opt (binInt .add t7 (.int .i64 1)) fun v16=>X0 [t5,t6,v16] H7)) (
 Q (.bool true) H)
def F.f47 (E:Sy) (x0:Value) (H:AH) (Q:VK):Prop :=
 opt (lenSlc x0) fun v1=>LoopL (fun l H X0=>F.f47_l1 E Q (nth l 0) (nth l 1) (nth l 2) H X0) [x0,v1,(.int .i64 0)] H

def F.f46 (E:Sy) (x0:Value) (H:AH) (Q:VK):Prop :=
 E.call (E.fid i.f105) [(.int .i64 60)] H fun v1 H1=>E.call (E.fid i.f53) [(.int .i64 60)] H1 fun v2 H2=>E.call (E.fid i.f48) [v1,v2,x0] H2 fun v3 H3=>Q (.tuple #[v1,v2]) H3

def F.f37_l1 (E:Sy) (Q:VK) (t0 t3 t4:Value) (H:AH) (X0:LK):Prop :=
 opt (nilCk t0) fun v1=>opt (addOff v1 0) fun v2=>opt (load1 v2 H) fun v3=>opt (some (.func (.func (E.fid i.f38)) #[] #[t3])) fun v4=>E.call (E.fid i.f76) [v3,v4] H fun v5 H1=>opt (binInt .lss v5 (.int .i64 0)) fun v6=>ifB v6 (
 opt (loadN 2 t3 H1) fun v7=>opt (storeN 2 t4 v7 H1) fun H2=>opt (loadN 2 t4 H2) fun v8=>Q v8 H2) (
 opt (nilCk t0) fun v9=>opt (addOff v9 0) fun v10=>opt (load1 v10 H1) fun v11=>opt (ixSlc 5 v11 v5) fun v12=>opt (addOff v12 0) fun v13=>opt (load1 v13 H1) fun v14=>opt (nilCk t0) fun v15=>opt (addOff v15 0) fun v16=>opt (load1 v16 H1) fun v17=>opt (ixSlc 5 v17 v5) fun v18=>opt (addOff v18 3) fun v19=>opt (load1 v19 H1) fun v20=>opt (buildV [(0,1),(1,1)] #[(.int .i64 0),(.int .u16 0)] [(0,v14),(1,v20)]) fun v21=>opt (storeN 2 t3 v21 H1) fun H3=>X0 [t0,t3,t4] H3)
def F.f37 (E:Sy) (x0 x1:Value) (H:AH) (Q:VK):Prop :=
 mk (boxO x1) H fun v1 H1=>allocW [(.int .i64 0),(.int .u16 0)] H1 fun v2 H2=>opt (binNil eqPtr .eql x0 (.pointer none)) fun v3=>ifB v3 (
 opt (loadN 2 v1 H2) fun v4=>opt (storeN 2 v2 v4 H2) fun H3=>opt (loadN 2 v2 H3) fun v5=>Q v5 H3) (
 LoopL (fun l H X0=>F.f37_l1 E Q (nth l 0) (nth l 1) (nth l 2) H X0) [x0,v1,v2] H2)

def F.f109_l1 (E:Sy) (Q:VK) (t0 t6 t7 t8:Value) (H:AH) (X0:LK):Prop :=
 opt (binInt .gtr t8 (.int .i64 0)) fun v1=>ifB v1 (
 opt (ixSlc 2 t6 t8) fun v2=>opt (loadN 2 v2 H) fun v3=>opt (binInt .sub t8 (.int .i64 1)) fun v4=>opt (ixSlc 2 t6 v4) fun v5=>opt (loadN 2 v5 H) fun v6=>allocW [(.int .i64 0),(.int .u16 0)] H fun v7 H1=>allocW [(.int .i64 0),(.int .u16 0)] H1 fun v8 H2=>opt (storeN 2 v7 v3 H2) fun H3=>loadN 2 v5 H3=loadN 2 v5 H /\
 opt (storeN 2 v8 v6 H3) fun H4=>opt (addOff v7 0) fun v9=>opt (load1 v9 H4) fun v10=>opt (addOff v8 0) fun v11=>opt (load1 v11 H4) fun v12=>opt (binInt .neq v10 v12) fun v13=>ifB v13 (
 opt (binInt .sub t8 (.int .i64 1)) fun v14=>X0 [t0,t6,t7,v14] H4) (
 opt (addOff v7 1) fun v15=>opt (load1 v15 H4) fun v16=>opt (addOff v8 1) fun v17=>opt (load1 v17 H4) fun v18=>E.call (E.fid i.f111) [t0,v16,v18] H4 fun v19 H5=>opt (ext v19 0) fun v20=>opt (ext v19 1) fun v21=>opt (un .not v21) fun v22=>ifB v22 (
 Q (.tuple #[(.string ⟨#[]⟩),(.bool false)]) H5) (
 mk (buildS 1 1 #[(.string ⟨#[]⟩)] [(0,v20)]) H5 fun v23 H6=>opt2 (app 1 16 t7 v23 H6) fun v24 H7=>opt (binInt .sub t8 (.int .i64 1)) fun v25=>X0 [t0,t6,v24,v25] H7))) (
 E.call (E.fid i.f97) [t7,(.string ⟨#[47]⟩)] H fun v26 H8=>opt (binStr .add (.string ⟨#[47]⟩) v26) fun v27=>Q (.tuple #[v27,(.bool true)]) H8)
def F.f109 (E:Sy) (x0 x1:Value) (H:AH) (Q:VK):Prop :=
 mk (boxO x1) H fun v1 H1=>opt (loadN 2 v1 H1) fun v2=>E.call (E.fid i.f106) [x0,v2] H1 fun v3 H2=>opt (lenSlc v3) fun v4=>opt (binInt .eql v4 (.int .i64 0)) fun v5=>gd v5 false (fun k=>k v3 H2) H2 fun v6 H3=>gd v5 false (fun k=>k v3 H3) H3 fun v7 H4=>gd v5 false (fun k=>opt (lenSlc v7) fun v=>k v H4) H4 fun v8 H5=>gd v5 false (fun k=>opt (binInt .sub v8 (.int .i64 1)) fun v=>k v H5) H5 fun v9 H6=>gd v5 false (fun k=>opt (ixSlc 2 v6 v9) fun v=>k v H6) H6 fun v10 H7=>gd v5 false (fun k=>opt (loadN 2 v10 H7) fun v=>k v H7) H7 fun v11 H8=>gd v5 false (fun k=>E.call (E.fid i.f41) [] H8 fun v h=>k v h) H8 fun v12 H9=>gdC v5 false (loadN 2 v10 H9=loadN 2 v10 H7) /\
 gd v5 false (fun k=>opt (binAgg [0,0] .neq v11 v12) fun v=>k v H9) H9 fun v13 H10=>opt (pick v5 (.bool true) v13) fun v14=>ifB v14 (
 Q (.tuple #[(.string ⟨#[]⟩),(.bool false)]) H10) (
 opt (lenSlc v3) fun v15=>opt (binInt .sub v15 (.int .i64 1)) fun v16=>LoopL (fun l H X0=>F.f109_l1 E Q (nth l 0) (nth l 1) (nth l 2) (nth l 3) H X0) [x0,v3,(.slice none 0 0),v16] H10)

def F.f106_l1 (E:Sy) (Q:VK) (t0 t3 t5 t13:Value) (H:AH) (X0:LK):Prop :=
 opt (binInt .lss t13 (.int .i64 289)) fun v1=>ifB v1 (
 opt (loadN 2 t3 H) fun v2=>mk (buildS 1 2 #[(.int .i64 0),(.int .u16 0)] [(0,v2)]) H fun v3 H1=>opt2 (app 2 16 t5 v3 H1) fun v4 H2=>opt (nilCk t0) fun v5=>opt (addOff v5 1) fun v6=>opt (load1 v6 H2) fun v7=>opt (loadN 2 t3 H2) fun v8=>allocW [(.int .i64 0),(.int .u16 0)] H2 fun v9 H3=>E.call (E.fid i.f35) [v7,v8] H3 fun v10 H4=>H4.get H2.next=H3.get H2.next /\
 opt (ext v10 0) fun v11=>opt (ext v10 1) fun v12=>opt (storeN 2 v9 v11 H4) fun H5=>ifB v12 (
 opt (loadN 2 v9 H5) fun v13=>opt (storeN 2 t3 v13 H5) fun H6=>opt (binInt .add t13 (.int .i64 1)) fun v14=>X0 [t0,t3,v4,v14] H6) (
 opt (addOff t3 0) fun v15=>opt (load1 v15 H5) fun v16=>opt (nilCk t0) fun v17=>opt (addOff v17 0) fun v18=>opt (load1 v18 H5) fun v19=>opt (addOff t3 1) fun v20=>opt (load1 v20 H5) fun v21=>allocW [(.int .i64 0),(.int .u16 0)] H5 fun v22 H7=>E.call (E.fid i.f9) [v19,v21] H7 fun v23 H8=>H8.get H5.next=H7.get H5.next /\
 load1 v15 H8=load1 v15 H5 /\
 opt (nilCk v23) fun v24=>opt (addOff v24 4) fun v25=>opt (load1 v25 H8) fun v26=>opt (buildV [(0,1),(1,1)] #[(.int .i64 0),(.int .u16 0)] [(0,v16),(1,v26)]) fun v27=>opt (storeN 2 v22 v27 H8) fun H9=>opt (loadN 2 v22 H9) fun v28=>opt (loadN 2 t3 H9) fun v29=>opt (binAgg [0,0] .eql v28 v29) fun v30=>gd v30 false (fun k=>k t0 H9) H9 fun v31 H10=>gd v30 false (fun k=>opt (nilCk v31) fun v=>k v H10) H10 fun v32 H11=>gd v30 false (fun k=>opt (addOff v32 0) fun v=>k v H11) H11 fun v33 H12=>gd v30 false (fun k=>opt (load1 v33 H12) fun v=>k v H12) H12 fun v34 H13=>gd v30 false (fun k=>opt (addOff v22 1) fun v=>k v H13) H13 fun v35 H14=>gd v30 false (fun k=>opt (load1 v35 H14) fun v=>k v H14) H14 fun v36 H15=>gd v30 false (fun k=>E.call (E.fid i.f9) [v34,v36] H15 fun v h=>k v h) H15 fun v37 H16=>gd v30 false (fun k=>opt (binNil eqPtr .eql v37 (.pointer none)) fun v=>k v H16) H16 fun v38 H17=>opt (pick v30 (.bool true) v38) fun v39=>ifB v39 (
 Q v4 H17) (
 opt (loadN 2 v22 H17) fun v40=>opt (storeN 2 t3 v40 H17) fun H18=>opt (binInt .add t13 (.int .i64 1)) fun v41=>X0 [t0,t3,v4,v41] H18))) (
 Q t5 H)
def F.f106 (E:Sy) (x0 x1:Value) (H:AH) (Q:VK):Prop :=
 mk (boxO x1) H fun v1 H1=>opt (loadN 2 v1 H1) fun v2=>E.call (E.fid i.f107) [x0,v2] H1 fun v3 H2=>opt (un .not v3) fun v4=>ifB v4 (
 Q (.slice none 0 0) H2) (
 LoopL (fun l H X0=>F.f106_l1 E Q (nth l 0) (nth l 1) (nth l 2) (nth l 3) H X0) [x0,v1,(.slice none 0 0),(.int .i64 0)] H2)

def F.f51_l1 (E:Sy) (Q:VK) (t7 t16 t17 t18:Value) (H:AH) (X0:LK):Prop :=
 opt (binInt .lss t18 t17) fun v1=>ifB v1 (
 opt (ixSlc 2 t16 t18) fun v2=>opt (loadN 2 v2 H) fun v3=>allocW [(.int .i64 0),(.int .u16 0)] H fun v4 H1=>opt (storeN 2 v4 v3 H1) fun H2=>opt (loadN 2 v4 H2) fun v5=>opt (loadN 2 t7 H2) fun v6=>opt (binAgg [0,0] .eql v5 v6) fun v7=>ifB v7 (
 Q (.bool true) H2) (
 opt (binInt .add t18 (.int .i64 1)) fun v8=>X0 [t7,t16,t17,v8] H2)) (
 Q (.bool false) H)
def F.f51 (E:Sy) (x0 x1 x2:Value) (H:AH) (Q:VK):Prop :=
 mk (boxO x2) H fun v1 H1=>opt (nilCk x0) fun v2=>opt (addOff v2 1) fun v3=>opt (load1 v3 H1) fun v4=>opt (loadN 2 v1 H1) fun v5=>allocW [(.int .i64 0),(.int .u16 0)] H1 fun v6 H2=>E.call (E.fid i.f37) [v4,v5] H2 fun v7 H3=>H3.get H1.next=H2.get H1.next /\
 opt (storeN 2 v6 v7 H3) fun H4=>opt (lenSlc x1) fun v8=>LoopL (fun l H X0=>F.f51_l1 E Q (nth l 0) (nth l 1) (nth l 2) (nth l 3) H X0) [v6,x1,v8,(.int .i64 0)] H4

def F.f41 (E:Sy) (H:AH) (Q:VK):Prop :=
 allocW [(.int .i64 0),(.int .u16 0)] H fun v1 H1=>opt (buildV [(0,1),(1,1)] #[(.int .i64 0),(.int .u16 0)] [(0,(.int .i64 0)),(1,(.int .u16 1))]) fun v2=>opt (storeN 2 v1 v2 H1) fun H2=>opt (loadN 2 v1 H2) fun v3=>Q v3 H2

def F.f108_l1 (E:Sy) (Q:VK) (t0 t3 t8 t10 t12:Value) (H:AH) (X0:LK):Prop :=
 opt (addOff t10 3) fun v1=>opt (load1 v1 H) fun v2=>opt (lenSlc v2) fun v3=>opt (binInt .gtr v3 (.int .i64 0)) fun v4=>ifB v4 (
 gd t3 false (fun k=>k t12 H) H fun v5 H1=>opt (pick t3 (.bool true) v5) fun v6=>E.call (E.fid i.f116) [t10,v6] H1 fun v7 H2=>opt (binInt .neq v7 (.int .i64 0)) fun v8=>ifB v8 (
 opt (buildV [(0,1),(1,1)] #[(.int .i64 0),(.int .u16 0)] []) fun v9=>opt (storeN 2 t8 v9 H2) fun H3=>opt (loadN 2 t8 H3) fun v10=>Q (.tuple #[v10,v7]) H3) (
 X0 [t0,t3,t8,t10,t12] H2)) (
 opt (nilCk t0) fun v11=>opt (addOff v11 0) fun v12=>opt (load1 v12 H) fun v13=>opt (addOff t10 1) fun v14=>opt (addOff v14 1) fun v15=>opt (load1 v15 H) fun v16=>E.call (E.fid i.f9) [v13,v16] H fun v17 H4=>opt (binNil eqPtr .eql v17 (.pointer none)) fun v18=>ifB v18 (
 opt (buildV [(0,1),(1,1)] #[(.int .i64 0),(.int .u16 0)] []) fun v19=>opt (storeN 2 t8 v19 H4) fun H5=>opt (loadN 2 t8 H5) fun v20=>Q (.tuple #[v20,(.int .i64 2)]) H5) (
 gd t12 true (fun k=>k t0 H4) H4 fun v21 H6=>gd t12 true (fun k=>opt (addOff t10 1) fun v=>k v H6) H6 fun v22 H7=>gd t12 true (fun k=>opt (loadN 2 v22 H7) fun v=>k v H7) H7 fun v23 H8=>gd t12 true (fun k=>E.call (E.fid i.f107) [v21,v23] H8 fun v h=>k v h) H8 fun v24 H9=>gd t12 true (fun k=>opt (un .not v24) fun v=>k v H9) H9 fun v25 H10=>opt (pick t12 v25 (.bool false)) fun v26=>ifB v26 (
 opt (buildV [(0,1),(1,1)] #[(.int .i64 0),(.int .u16 0)] []) fun v27=>opt (storeN 2 t8 v27 H10) fun H11=>opt (loadN 2 t8 H11) fun v28=>Q (.tuple #[v28,(.int .i64 20)]) H11) (
 opt (addOff t10 1) fun v29=>opt (loadN 2 v29 H10) fun v30=>opt (storeN 2 t8 v30 H10) fun H12=>opt (loadN 2 t8 H12) fun v31=>Q (.tuple #[v31,(.int .i64 0)]) H12)))
def F.f108 (E:Sy) (x0 x1 x2 x3:Value) (H:AH) (Q:VK):Prop :=
 mk (boxO x1) H fun v1 H1=>allocW [(.int .i64 0),(.int .u16 0)] H1 fun v2 H2=>opt (loadN 2 v1 H2) fun v3=>E.call (E.fid i.f112) [x0,v3,x2] H2 fun v4 H3=>opt (ext v4 0) fun v5=>opt (ext v4 1) fun v6=>allocW [(.pointer none),(.int .i64 0),(.int .u16 0),(.slice none 0 0),(.int .i64 0)] H3 fun v7 H4=>opt (storeN 5 v7 v5 H4) fun H5=>opt (binInt .neq v6 (.int .i64 0)) fun v8=>ifB v8 (
 opt (buildV [(0,1),(1,1)] #[(.int .i64 0),(.int .u16 0)] []) fun v9=>opt (storeN 2 v2 v9 H5) fun H6=>opt (loadN 2 v2 H6) fun v10=>Q (.tuple #[v10,v6]) H6) (
 E.call (E.fid i.f94) [x2,(.string ⟨#[47]⟩)] H5 fun v11 H7=>LoopL (fun l H X0=>F.f108_l1 E Q (nth l 0) (nth l 1) (nth l 2) (nth l 3) (nth l 4) H X0) [x0,x3,v2,v7,v11] H7)

def F.f105 (E:Sy) (x0:Value) (H:AH) (Q:VK):Prop :=
 E.call (E.fid i.f4) [x0] H fun v1 H1=>E.call (E.fid i.f33) [] H1 fun v2 H2=>opt (buildV [(0,1),(1,1)] #[(.pointer none),(.pointer none)] [(0,v1),(1,v2)]) fun v3=>mk (boxO v3) H2 fun v4 H3=>Q v4 H3

def F.f12_j1 (E:Sy) (Q:VK) (t0 t2 t12 t14 t15:Value) (H:AH):Prop :=
 opt (nilCk t0) fun v1=>opt (addOff v1 0) fun v2=>opt (load1 v2 H) fun v3=>opt (setMap 0 v3 t14 t15 H) fun H1=>opt (nilCk t12) fun v4=>opt (addOff v4 3) fun v5=>opt (load1 v5 H1) fun v6=>opt (setMap 1 v6 t2 t14 H1) fun H2=>opt (nilCk t0) fun v7=>opt (addOff v7 2) fun v8=>E.call (E.fid i.f103) [v8,(.int .i64 1)] H2 fun v9 H3=>Q (.tuple #[t14,(.int .i64 0)]) H3
def F.f12_l1 (E:Sy) (Q:VK) (t0 t1 t2 t3 t4 t12 t14:Value) (H:AH) (X0:LK):Prop :=
 opt (nilCk t0) fun v1=>opt (addOff v1 0) fun v2=>opt (load1 v2 H) fun v3=>opt (look 0 (.pointer none) false v3 t14 H) fun v4=>opt (binNil eqPtr .neq v4 (.pointer none)) fun v5=>ifB v5 (
 opt (binInt .add t14 (.int .u16 1)) fun v6=>X0 [t0,t1,t2,t3,t4,t12,v6] H) (
 opt (buildV [(0,1),(1,1),(2,1),(3,1),(4,1),(5,1),(6,1),(7,1)] #[(.int .u16 0),(.int .u8 0),(.slice none 0 0),(.map none),(.int .u16 0),(.string ⟨#[]⟩),(.int .i64 0),(.int .i64 0)] [(0,t14),(1,t3),(6,(.int .i64 1))]) fun v7=>mk (boxO v7) H fun v8 H1=>opt (binInt .eql t3 (.int .u8 2)) fun v9=>ifB v9 (
 mapW H1 fun v10 H2=>opt (nilCk v8) fun v11=>opt (addOff v11 3) fun v12=>opt (store1 v12 v10 H2) fun H3=>opt (nilCk v8) fun v13=>opt (addOff v13 4) fun v14=>opt (store1 v14 t1 H3) fun H4=>F.f12_j1 E Q t0 t2 t12 t14 v8 H4) (
 opt (binInt .eql t3 (.int .u8 3)) fun v15=>ifB v15 (
 opt (nilCk v8) fun v16=>opt (addOff v16 5) fun v17=>opt (store1 v17 t4 H1) fun H5=>F.f12_j1 E Q t0 t2 t12 t14 v8 H5) (
 F.f12_j1 E Q t0 t2 t12 t14 v8 H1)))
def F.f12 (E:Sy) (x0 x1 x2 x3 x4:Value) (H:AH) (Q:VK):Prop :=
 E.call (E.fid i.f19) [x0,x1,x2] H fun v1 H1=>opt (ext v1 0) fun v2=>opt (ext v1 1) fun v3=>opt (binInt .neq v3 (.int .i64 0)) fun v4=>ifB v4 (
 Q (.tuple #[(.int .u16 0),v3]) H1) (
 opt (binInt .lss x3 (.int .u8 1)) fun v5=>gd v5 false (fun k=>k x3 H1) H1 fun v6 H2=>gd v5 false (fun k=>opt (binInt .gtr v6 (.int .u8 3)) fun v=>k v H2) H2 fun v7 H3=>opt (pick v5 (.bool true) v7) fun v8=>ifB v8 (
 Q (.tuple #[(.int .u16 0),(.int .i64 22)]) H3) (
 opt (binInt .eql x3 (.int .u8 3)) fun v9=>gd v9 true (fun k=>k x4 H3) H3 fun v10 H4=>gd v9 true (fun k=>opt (lenStr v10) fun v=>k v H4) H4 fun v11 H5=>gd v9 true (fun k=>opt (binInt .lss v11 (.int .i64 1)) fun v=>k v H5) H5 fun v12 H6=>gd v9 true (fun k=>k v12 H6) H6 fun v13 H7=>gd v13 false (fun k=>k x4 H7) H7 fun v14 H8=>gd v13 false (fun k=>opt (lenStr v14) fun v=>k v H8) H8 fun v15 H9=>gd v13 false (fun k=>opt (binInt .gtr v15 (.int .i64 120)) fun v=>k v H9) H9 fun v16 H10=>gd v9 true (fun k=>opt (pick v13 (.bool true) v16) fun v=>k v H10) H10 fun v17 H11=>opt (pick v9 v17 (.bool false)) fun v18=>ifB v18 (
 Q (.tuple #[(.int .u16 0),(.int .i64 22)]) H11) (
 opt (nilCk x0) fun v19=>opt (addOff v19 0) fun v20=>opt (load1 v20 H11) fun v21=>opt (lenMap v21 H11) fun v22=>opt (nilCk x0) fun v23=>opt (addOff v23 1) fun v24=>opt (load1 v24 H11) fun v25=>opt (binInt .geq v22 v25) fun v26=>ifB v26 (
 Q (.tuple #[(.int .u16 0),(.int .i64 28)]) H11) (
 opt (binInt .eql x3 (.int .u8 2)) fun v27=>gd v27 true (fun k=>k x0 H11) H11 fun v28 H12=>gd v27 true (fun k=>k x1 H12) H12 fun v29 H13=>gd v27 true (fun k=>E.call (E.fid i.f16) [v28,v29] H13 fun v h=>k v h) H13 fun v30 H14=>gd v27 true (fun k=>opt (binInt .geq v30 (.int .i64 16)) fun v=>k v H14) H14 fun v31 H15=>opt (pick v27 v31 (.bool false)) fun v32=>ifB v32 (
 Q (.tuple #[(.int .u16 0),(.int .i64 28)]) H15) (
 LoopL (fun l H X0=>F.f12_l1 E Q (nth l 0) (nth l 1) (nth l 2) (nth l 3) (nth l 4) (nth l 5) (nth l 6) H X0) [x0,x1,x2,x3,x4,v2,(.int .u16 1)] H15)))))

def F.f53 (E:Sy) (x0:Value) (H:AH) (Q:VK):Prop :=
 opt (buildV [(0,1),(1,1),(2,1),(3,1),(4,1),(5,1),(6,1)] #[(.int .i64 0),(.slice none 0 0),(.slice none 0 0),(.int .i64 0),(.string ⟨#[]⟩),(.int .i64 0),(.int .i64 0)] []) fun v1=>opt (buildV [(0,1),(1,1),(2,1),(3,1),(4,1),(5,1),(6,1)] #[(.int .i64 0),(.slice none 0 0),(.slice none 0 0),(.int .i64 0),(.string ⟨#[]⟩),(.int .i64 0),(.int .i64 0)] [(0,(.int .i64 2)),(3,(.int .i64 1)),(5,(.int .i64 1))]) fun v2=>mk (buildS 2 7 #[(.int .i64 0),(.slice none 0 0),(.slice none 0 0),(.int .i64 0),(.string ⟨#[]⟩),(.int .i64 0),(.int .i64 0)] [(0,v1),(1,v2)]) H fun v3 H1=>opt (fold2 max2 [x0,(.int .i64 1)]) fun v4=>opt (fold2 min2 [v4,(.int .i64 256)]) fun v5=>opt (buildV [(0,1),(1,1),(2,2),(4,1)] #[(.int .i64 0),(.int .i64 0),(.int .i64 0),(.int .i64 0),(.int .i64 0)] [(1,(.int .i64 1))]) fun v6=>mk (buildS 1 5 #[(.int .i64 0),(.int .i64 0),(.int .i64 0),(.int .i64 0),(.int .i64 0)] [(0,v6)]) H1 fun v7 H2=>opt (buildV [(0,1),(1,1),(2,1),(3,1),(4,1)] #[(.slice none 0 0),(.int .i64 0),(.slice none 0 0),(.int .i64 0),(.int .i64 0)] [(0,v3),(1,v5),(2,v7),(3,(.int .i64 1))]) fun v8=>mk (boxO v8) H2 fun v9 H3=>Q v9 H3

def F.f48_j2 (E:Sy) (Q:VK) (X0:LK) (t0 t1 t8 t15 t16 t17:Value) (H:AH):Prop :=
 opt (nilCk t0) fun v1=>opt (addOff v1 0) fun v2=>opt (load1 v2 H) fun v3=>opt (loadN 10 t8 H) fun v4=>E.call (E.fid i.f42) [v3,t1,v4] H fun v5 H1=>opt (binInt .add t17 (.int .i64 1)) fun v6=>X0 [t0,t1,t15,t16,v6] H1
def F.f48_j1 (E:Sy) (Q:VK) (X0:LK) (t0 t1 t7 t8 t15 t16 t17:Value) (H:AH):Prop :=
 opt (addOff t8 0) fun v1=>opt (load1 v1 H) fun v2=>opt (binInt .rem v2 (.int .u8 15)) fun v3=>opt (binInt .eql v3 (.int .u8 3)) fun v4=>ifB v4 (
 opt (addOff t7 13) fun v5=>opt (load1 v5 H) fun v6=>opt (convInt .i64 v6) fun v7=>E.call (E.fid i.f50) [] H fun v8 H1=>load1 v5 H1=load1 v5 H /\
 E.call (E.fid i.f50) [] H1 fun v9 H2=>load1 v5 H2=load1 v5 H /\
 opt (lenSlc v9) fun v10=>opt (binInt .rem v7 v10) fun v11=>opt (ixSlc 1 v8 v11) fun v12=>opt (load1 v12 H2) fun v13=>opt (addOff t8 5) fun v14=>opt (store1 v14 v13 H2) fun H3=>F.f48_j2 E Q X0 t0 t1 t8 t15 t16 t17 H3) (
 F.f48_j2 E Q X0 t0 t1 t8 t15 t16 t17 H)
def F.f48_l2 (E:Sy) (Q:VK) (X0:LK) (t0 t1 t15 t16 t17 t104 t105 t106:Value) (H:AH) (X1:LK):Prop :=
 opt (binInt .lss t106 t105) fun v1=>ifB v1 (
 opt (ixSlc 1 t104 t106) fun v2=>opt (load1 v2 H) fun v3=>opt (nilCk t0) fun v4=>opt (addOff v4 0) fun v5=>opt (load1 v5 H) fun v6=>opt (convInt .u16 v3) fun v7=>E.call (E.fid i.f10) [v6,v7,(.bool true)] H fun v8 H1=>E.call (E.fid i.f58) [t1,v3,(.bool true)] H1 fun v9 H2=>opt (binInt .add t106 (.int .i64 1)) fun v10=>X1 [t0,t1,t15,t16,t17,t104,t105,v10] H2) (
 opt (binInt .add t17 (.int .i64 1)) fun v11=>X0 [t0,t1,t15,t16,v11] H)
def F.f48_l1 (E:Sy) (Q:VK) (t0 t1 t15 t16 t17:Value) (H:AH) (X0:LK):Prop :=
 opt (binInt .lss t17 t16) fun v1=>ifB v1 (
 opt (ixSlc 14 t15 t17) fun v2=>opt (loadN 14 v2 H) fun v3=>allocW [(.int .u8 0),(.int .u8 0),(.int .u8 0),(.int .u8 0),(.int .u8 0),(.int .u8 0),(.string ⟨#[]⟩),(.int .i64 0),(.slice none 0 0),(.bool false),(.bool false),(.int .u8 0),(.int .u8 0),(.int .u8 0)] H fun v4 H1=>opt (storeN 14 v4 v3 H1) fun H2=>opt (binInt .geq t17 (.int .i64 60)) fun v5=>ifB v5 (
 Q (.tuple #[]) H2) (
 opt (addOff v4 0) fun v6=>opt (load1 v6 H2) fun v7=>opt (binInt .rem v7 (.int .u8 12)) fun v8=>opt (binInt .lss v8 (.int .u8 10)) fun v9=>ifB v9 (
 opt (addOff v4 1) fun v10=>opt (loadN 10 v10 H2) fun v11=>allocW [(.int .u8 0),(.int .u8 0),(.int .u8 0),(.int .u8 0),(.int .u8 0),(.string ⟨#[]⟩),(.int .i64 0),(.slice none 0 0),(.bool false),(.bool false)] H2 fun v12 H3=>opt (storeN 10 v12 v11 H3) fun H4=>opt (addOff v12 9) fun v13=>opt (store1 v13 (.bool false) H4) fun H5=>opt (addOff v12 0) fun v14=>opt (load1 v14 H5) fun v15=>opt (binInt .rem v15 (.int .u8 15)) fun v16=>opt (binInt .eql v16 (.int .u8 11)) fun v17=>ifB v17 (
 opt (addOff v12 8) fun v18=>opt (store1 v18 (.bool true) H5) fun H6=>F.f48_j1 E Q X0 t0 t1 v4 v12 t15 t16 t17 H6) (
 F.f48_j1 E Q X0 t0 t1 v4 v12 t15 t16 t17 H5)) (
 opt (addOff v4 11) fun v19=>opt (load1 v19 H2) fun v20=>opt (convInt .i64 v20) fun v21=>opt (binInt .rem v21 (.int .i64 8)) fun v22=>opt (binInt .add (.int .i64 1) v22) fun v23=>opt (addOff v4 13) fun v24=>opt (load1 v24 H2) fun v25=>opt (binInt .rem v25 (.int .u8 3)) fun v26=>opt (convInt .i64 v26) fun v27=>opt (addOff v4 12) fun v28=>opt (load1 v28 H2) fun v29=>opt (binInt .rem v29 (.int .u8 8)) fun v30=>opt (binInt .add (.int .u8 1) v30) fun v31=>opt (convInt .u16 v31) fun v32=>opt (buildV [(0,1),(1,1)] #[(.int .i64 0),(.int .u16 0)] [(0,v27),(1,v32)]) fun v33=>allocW [(.int .i64 0),(.int .u16 0)] H2 fun v34 H7=>opt (storeN 2 v34 v33 H7) fun H8=>opt (convInt .u16 v23) fun v35=>opt (buildV [(0,1),(1,1)] #[(.int .i64 0),(.int .u16 0)] [(1,v35)]) fun v36=>E.call (E.fid i.f107) [t0,v36] H8 fun v37 H9=>gd v37 true (fun k=>k t0 H9) H9 fun v38 H10=>gd v37 true (fun k=>opt (loadN 2 v34 H10) fun v=>k v H10) H10 fun v39 H11=>gd v37 true (fun k=>E.call (E.fid i.f107) [v38,v39] H11 fun v h=>k v h) H11 fun v40 H12=>opt (pick v37 v40 (.bool false)) fun v41=>ifB v41 (
 opt (nilCk t0) fun v42=>opt (addOff v42 1) fun v43=>opt (load1 v43 H12) fun v44=>opt (convInt .u16 v23) fun v45=>opt (loadN 2 v34 H12) fun v46=>E.call (E.fid i.f34) [v44,v45,v46] H12 fun v47 H13=>opt (ext v47 0) fun v48=>opt (ext v47 1) fun v49=>opt (binInt .eql v49 (.int .i64 0)) fun v50=>ifB v50 (
 opt (loadN 2 v34 H13) fun v51=>E.call (E.fid i.f44) [v51] H13 fun v52 H14=>E.call (E.fid i.f55) [t1,v23,v52] H14 fun v53 H15=>opt (addOff v34 1) fun v54=>opt (load1 v54 H15) fun v55=>opt (convInt .i64 v55) fun v56=>mk (buildS 2 1 #[(.int .i64 0)] [(0,v23),(1,v56)]) H15 fun v57 H16=>opt (lenSlc v57) fun v58=>LoopL (fun l H X1=>F.f48_l2 E Q X0 (nth l 0) (nth l 1) (nth l 2) (nth l 3) (nth l 4) (nth l 5) (nth l 6) (nth l 7) H X1) [t0,t1,t15,t16,t17,v57,v58,(.int .i64 0)] H16) (
 opt (binInt .add t17 (.int .i64 1)) fun v59=>X0 [t0,t1,t15,t16,v59] H13)) (
 opt (binInt .add t17 (.int .i64 1)) fun v60=>X0 [t0,t1,t15,t16,v60] H12)))) (
 Q (.tuple #[]) H)
def F.f48 (E:Sy) (x0 x1 x2:Value) (H:AH) (Q:VK):Prop :=
 opt (lenSlc x2) fun v1=>LoopL (fun l H X0=>F.f48_l1 E Q (nth l 0) (nth l 1) (nth l 2) (nth l 3) (nth l 4) H X0) [x0,x1,x2,v1,(.int .i64 0)] H

def F.f38 (E:Sy) (x0 x1:Value) (H:AH) (Q:VK):Prop :=
 mk (boxO x0) H fun v1 H1=>opt (addOff v1 0) fun v2=>opt (load1 v2 H1) fun v3=>opt (binInt .neq v3 (.int .i64 0)) fun v4=>gd v4 true (fun k=>opt (addOff v1 1) fun v=>k v H1) H1 fun v5 H2=>gd v4 true (fun k=>opt (loadN 2 v5 H2) fun v=>k v H2) H2 fun v6 H3=>gd v4 true (fun k=>opt (loadN 2 x1 H3) fun v=>k v H3) H3 fun v7 H4=>gd v4 true (fun k=>opt (binAgg [0,0] .eql v6 v7) fun v=>k v H4) H4 fun v8 H5=>opt (pick v4 v8 (.bool false)) fun v9=>Q v9 H5

def F.f76_l1 (E:Sy) (Q:VK) (t0 t1 t7 t8:Value) (H:AH) (X0:LK):Prop :=
 opt (binInt .lss t8 t7) fun v1=>ifB v1 (
 opt (ixSlc 5 t0 t8) fun v2=>opt (loadN 5 v2 H) fun v3=>callV E.call t1 [v3] H fun v4 H1=>ifB v4 (
 Q t8 H1) (
 opt (binInt .add t8 (.int .i64 1)) fun v5=>X0 [t0,t1,t7,v5] H1)) (
 Q (.int .i64 (-1)) H)
def F.f76 (E:Sy) (x0 x1:Value) (H:AH) (Q:VK):Prop :=
 opt (lenSlc x0) fun v1=>LoopL (fun l H X0=>F.f76_l1 E Q (nth l 0) (nth l 1) (nth l 2) (nth l 3) H X0) [x0,x1,v1,(.int .i64 0)] H

def F.f111_l1 (E:Sy) (Q:VK) (t0 t1 t2 t23 t24 t25:Value) (H:AH) (X0:LK):Prop :=
 opt (binInt .lss t25 t24) fun v1=>ifB v1 (
 opt (ixSlc 1 t23 t25) fun v2=>opt (load1 v2 H) fun v3=>opt (nilCk t0) fun v4=>opt (addOff v4 0) fun v5=>opt (load1 v5 H) fun v6=>E.call (E.fid i.f11) [v6,t1,v3] H fun v7 H1=>opt (ext v7 0) fun v8=>opt (ext v7 1) fun v9=>opt (binInt .eql v8 t2) fun v10=>ifB v10 (
 Q (.tuple #[v3,(.bool true)]) H1) (
 opt (binInt .add t25 (.int .i64 1)) fun v11=>X0 [t0,t1,t2,t23,t24,v11] H1)) (
 Q (.tuple #[(.string ⟨#[]⟩),(.bool false)]) H)
def F.f111 (E:Sy) (x0 x1 x2:Value) (H:AH) (Q:VK):Prop :=
 opt (nilCk x0) fun v1=>opt (addOff v1 0) fun v2=>opt (load1 v2 H) fun v3=>E.call (E.fid i.f8) [v3,x1] H fun v4 H1=>opt (ext v4 0) fun v5=>opt (ext v4 1) fun v6=>opt (lenSlc v5) fun v7=>LoopL (fun l H X0=>F.f111_l1 E Q (nth l 0) (nth l 1) (nth l 2) (nth l 3) (nth l 4) (nth l 5) H X0) [x0,x1,x2,v5,v7,(.int .i64 0)] H1

def F.f107 (E:Sy) (x0 x1:Value) (H:AH) (Q:VK):Prop :=
 mk (boxO x1) H fun v1 H1=>E.call (E.fid i.f113) [x0] H1 fun v2 H2=>opt (un .not v2) fun v3=>ifB v3 (
 Q (.bool false) H2) (
 opt (nilCk x0) fun v4=>opt (addOff v4 0) fun v5=>opt (load1 v5 H2) fun v6=>opt (addOff v1 1) fun v7=>opt (load1 v7 H2) fun v8=>E.call (E.fid i.f9) [v6,v8] H2 fun v9 H3=>opt (nilCk x0) fun v10=>opt (addOff v10 1) fun v11=>opt (load1 v11 H3) fun v12=>opt (addOff v1 0) fun v13=>opt (load1 v13 H3) fun v14=>allocW [(.int .i64 0),(.int .i64 0),(.int .u16 0),(.int .u16 0),(.int .i64 0)] H3 fun v15 H4=>E.call (E.fid i.f36) [v12,v14] H4 fun v16 H5=>H5.get H3.next=H4.get H3.next /\
 opt (ext v16 0) fun v17=>opt (ext v16 1) fun v18=>opt (storeN 5 v15 v17 H5) fun H6=>gd v18 true (fun k=>k v9 H6) H6 fun v19 H7=>gd v18 true (fun k=>opt (binNil eqPtr .neq v19 (.pointer none)) fun v=>k v H7) H7 fun v20 H8=>opt (pick v18 v20 (.bool false)) fun v21=>gd v21 true (fun k=>k v9 H8) H8 fun v22 H9=>gd v21 true (fun k=>opt (nilCk v22) fun v=>k v H9) H9 fun v23 H10=>gd v21 true (fun k=>opt (addOff v23 1) fun v=>k v H10) H10 fun v24 H11=>gd v21 true (fun k=>opt (load1 v24 H11) fun v=>k v H11) H11 fun v25 H12=>gd v21 true (fun k=>opt (binInt .eql v25 (.int .u8 2)) fun v=>k v H12) H12 fun v26 H13=>opt (pick v21 v26 (.bool false)) fun v27=>Q v27 H13)

def F.f35 (E:Sy) (x0 x1:Value) (H:AH) (Q:VK):Prop :=
 mk (boxO x1) H fun v1 H1=>allocW [(.int .i64 0),(.int .u16 0)] H1 fun v2 H2=>opt (addOff v1 0) fun v3=>opt (load1 v3 H2) fun v4=>E.call (E.fid i.f36) [x0,v4] H2 fun v5 H3=>opt (ext v5 0) fun v6=>opt (ext v5 1) fun v7=>allocW [(.int .i64 0),(.int .i64 0),(.int .u16 0),(.int .u16 0),(.int .i64 0)] H3 fun v8 H4=>opt (storeN 5 v8 v6 H4) fun H5=>opt (un .not v7) fun v9=>gd v9 false (fun k=>opt (addOff v8 0) fun v=>k v H5) H5 fun v10 H6=>gd v9 false (fun k=>opt (load1 v10 H6) fun v=>k v H6) H6 fun v11 H7=>gd v9 false (fun k=>opt (binInt .eql v11 (.int .i64 0)) fun v=>k v H7) H7 fun v12 H8=>opt (pick v9 (.bool true) v12) fun v13=>gd v13 false (fun k=>opt (addOff v8 3) fun v=>k v H8) H8 fun v14 H9=>gd v13 false (fun k=>opt (load1 v14 H9) fun v=>k v H9) H9 fun v15 H10=>gd v13 false (fun k=>opt (addOff v1 1) fun v=>k v H10) H10 fun v16 H11=>gd v13 false (fun k=>opt (load1 v16 H11) fun v=>k v H11) H11 fun v17 H12=>gd v13 false (fun k=>opt (binInt .neq v15 v17) fun v=>k v H12) H12 fun v18 H13=>opt (pick v13 (.bool true) v18) fun v19=>ifB v19 (
 opt (buildV [(0,1),(1,1)] #[(.int .i64 0),(.int .u16 0)] []) fun v20=>opt (storeN 2 v2 v20 H13) fun H14=>opt (loadN 2 v2 H14) fun v21=>Q (.tuple #[v21,(.bool false)]) H14) (
 opt (addOff v8 1) fun v22=>opt (loadN 2 v22 H13) fun v23=>opt (storeN 2 v2 v23 H13) fun H15=>opt (loadN 2 v2 H15) fun v24=>Q (.tuple #[v24,(.bool true)]) H15)

def F.f9 (E:Sy) (x0 x1:Value) (H:AH) (Q:VK):Prop :=
 opt (binNil eqPtr .eql x0 (.pointer none)) fun v1=>ifB v1 (
 Q (.pointer none) H) (
 opt (nilCk x0) fun v2=>opt (addOff v2 0) fun v3=>opt (load1 v3 H) fun v4=>opt (look 0 (.pointer none) false v4 x1 H) fun v5=>Q v5 H)

def F.f112_j1 (E:Sy) (Q:VK) (t2 t6 t8:Value) (H:AH):Prop :=
 E.call (E.fid i.f114) [t2] H fun v1 H1=>opt (addOff t8 3) fun v2=>opt (store1 v2 v1 H1) fun H2=>opt (loadN 5 t8 H2) fun v3=>opt (storeN 5 t6 v3 H2) fun H3=>opt (loadN 5 t6 H3) fun v4=>Q (.tuple #[v4,(.int .i64 0)]) H3
def F.f112 (E:Sy) (x0 x1 x2:Value) (H:AH) (Q:VK):Prop :=
 mk (boxO x1) H fun v1 H1=>allocW [(.pointer none),(.int .i64 0),(.int .u16 0),(.slice none 0 0),(.int .i64 0)] H1 fun v2 H2=>opt (loadN 2 v1 H2) fun v3=>opt (buildV [(0,1),(1,2),(3,1),(4,1)] #[(.pointer none),(.int .i64 0),(.int .u16 0),(.slice none 0 0),(.int .i64 0)] [(0,x0),(1,v3)]) fun v4=>allocW [(.pointer none),(.int .i64 0),(.int .u16 0),(.slice none 0 0),(.int .i64 0)] H2 fun v5 H3=>opt (storeN 5 v5 v4 H3) fun H4=>E.call (E.fid i.f113) [x0] H4 fun v6 H5=>opt (un .not v6) fun v7=>ifB v7 (
 opt (loadN 5 v5 H5) fun v8=>opt (storeN 5 v2 v8 H5) fun H6=>opt (loadN 5 v2 H6) fun v9=>Q (.tuple #[v9,(.int .i64 201)]) H6) (
 opt (binStr .eql x2 (.string ⟨#[]⟩)) fun v10=>ifB v10 (
 opt (loadN 5 v5 H5) fun v11=>opt (storeN 5 v2 v11 H5) fun H7=>opt (loadN 5 v2 H7) fun v12=>Q (.tuple #[v12,(.int .i64 2)]) H7) (
 opt (lenStr x2) fun v13=>opt (binInt .gtr v13 (.int .i64 120)) fun v14=>ifB v14 (
 opt (loadN 5 v5 H5) fun v15=>opt (storeN 5 v2 v15 H5) fun H8=>opt (loadN 5 v2 H8) fun v16=>Q (.tuple #[v16,(.int .i64 36)]) H8) (
 opt (ixStr x2 (.int .i64 0)) fun v17=>opt (binInt .eql v17 (.int .u8 47)) fun v18=>ifB v18 (
 opt (nilCk x0) fun v19=>opt (addOff v19 1) fun v20=>opt (load1 v20 H5) fun v21=>E.call (E.fid i.f41) [] H5 fun v22 H9=>load1 v20 H9=load1 v20 H5 /\
 E.call (E.fid i.f37) [v21,v22] H9 fun v23 H10=>opt (addOff v5 1) fun v24=>opt (storeN 2 v24 v23 H10) fun H11=>F.f112_j1 E Q x2 v2 v5 H11) (
 F.f112_j1 E Q x2 v2 v5 H5))))

def F.f94 (E:Sy) (x0 x1:Value) (H:AH) (Q:VK):Prop :=
 E.call (E.fid i.f27) [x0,x1] H fun v1 H1=>Q v1 H1

def F.f116 (E:Sy) (x0 x1:Value) (H:AH) (Q:VK):Prop :=
 opt (nilCk x0) fun v1=>opt (addOff v1 3) fun v2=>opt (load1 v2 H) fun v3=>opt (ixSlc 1 v3 (.int .i64 0)) fun v4=>opt (load1 v4 H) fun v5=>opt (nilCk x0) fun v6=>opt (addOff v6 3) fun v7=>opt (load1 v7 H) fun v8=>opt (slSlc 1 v8 (some (.int .i64 1)) none none H) fun v9=>opt (nilCk x0) fun v10=>opt (addOff v10 3) fun v11=>opt (store1 v11 v9 H) fun H1=>opt (nilCk x0) fun v12=>opt (addOff v12 0) fun v13=>opt (load1 v13 H1) fun v14=>opt (nilCk x0) fun v15=>opt (addOff v15 1) fun v16=>opt (loadN 2 v16 H1) fun v17=>E.call (E.fid i.f107) [v14,v17] H1 fun v18 H2=>opt (un .not v18) fun v19=>ifB v19 (
 Q (.int .i64 20) H2) (
 opt (binStr .eql v5 (.string ⟨#[46,46]⟩)) fun v20=>ifB v20 (
 opt (nilCk x0) fun v21=>opt (addOff v21 0) fun v22=>opt (load1 v22 H2) fun v23=>opt (nilCk x0) fun v24=>opt (addOff v24 1) fun v25=>opt (loadN 2 v25 H2) fun v26=>E.call (E.fid i.f110) [v23,v26] H2 fun v27 H3=>opt (nilCk x0) fun v28=>opt (addOff v28 1) fun v29=>opt (storeN 2 v29 v27 H3) fun H4=>opt (nilCk x0) fun v30=>opt (addOff v30 0) fun v31=>opt (load1 v31 H4) fun v32=>opt (nilCk v32) fun v33=>opt (addOff v33 0) fun v34=>opt (load1 v34 H4) fun v35=>opt (nilCk x0) fun v36=>opt (addOff v36 1) fun v37=>opt (addOff v37 1) fun v38=>opt (load1 v38 H4) fun v39=>E.call (E.fid i.f9) [v35,v39] H4 fun v40 H5=>opt (binNil eqPtr .neq v40 (.pointer none)) fun v41=>gd v41 true (fun k=>k x0 H5) H5 fun v42 H6=>gd v41 true (fun k=>opt (nilCk v42) fun v=>k v H6) H6 fun v43 H7=>gd v41 true (fun k=>opt (addOff v43 0) fun v=>k v H7) H7 fun v44 H8=>gd v41 true (fun k=>opt (load1 v44 H8) fun v=>k v H8) H8 fun v45 H9=>gd v41 true (fun k=>k x0 H9) H9 fun v46 H10=>gd v41 true (fun k=>opt (nilCk v46) fun v=>k v H10) H10 fun v47 H11=>gd v41 true (fun k=>opt (addOff v47 1) fun v=>k v H11) H11 fun v48 H12=>gd v41 true (fun k=>opt (loadN 2 v48 H12) fun v=>k v H12) H12 fun v49 H13=>gd v41 true (fun k=>E.call (E.fid i.f107) [v45,v49] H13 fun v h=>k v h) H13 fun v50 H14=>gd v41 true (fun k=>opt (un .not v50) fun v=>k v H14) H14 fun v51 H15=>opt (pick v41 v51 (.bool false)) fun v52=>ifB v52 (
 Q (.int .i64 2) H15) (
 Q (.int .i64 0) H15)) (
 opt (lenStr v5) fun v53=>opt (binInt .gtr v53 (.int .i64 14)) fun v54=>ifB v54 (
 Q (.int .i64 36) H2) (
 opt (nilCk x0) fun v55=>opt (addOff v55 0) fun v56=>opt (load1 v56 H2) fun v57=>opt (nilCk v57) fun v58=>opt (addOff v58 0) fun v59=>opt (load1 v59 H2) fun v60=>opt (nilCk x0) fun v61=>opt (addOff v61 1) fun v62=>opt (addOff v62 1) fun v63=>opt (load1 v63 H2) fun v64=>E.call (E.fid i.f11) [v60,v64,v5] H2 fun v65 H16=>opt (ext v65 0) fun v66=>opt (ext v65 1) fun v67=>opt (binInt .neq v67 (.int .i64 0)) fun v68=>ifB v68 (
 Q v67 H16) (
 opt (nilCk x0) fun v69=>opt (addOff v69 0) fun v70=>opt (load1 v70 H16) fun v71=>opt (nilCk v71) fun v72=>opt (addOff v72 0) fun v73=>opt (load1 v73 H16) fun v74=>E.call (E.fid i.f9) [v74,v66] H16 fun v75 H17=>opt (nilCk v75) fun v76=>opt (addOff v76 1) fun v77=>opt (load1 v77 H17) fun v78=>opt (binInt .eql v78 (.int .u8 3)) fun v79=>gd v79 true (fun k=>k x1 H17) H17 fun v80 H18=>gd v79 true (fun k=>k v80 H18) H18 fun v81 H19=>gd v81 false (fun k=>k x0 H19) H19 fun v82 H20=>gd v81 false (fun k=>opt (nilCk v82) fun v=>k v H20) H20 fun v83 H21=>gd v81 false (fun k=>opt (addOff v83 3) fun v=>k v H21) H21 fun v84 H22=>gd v81 false (fun k=>opt (load1 v84 H22) fun v=>k v H22) H22 fun v85 H23=>gd v81 false (fun k=>opt (lenSlc v85) fun v=>k v H23) H23 fun v86 H24=>gd v81 false (fun k=>opt (binInt .gtr v86 (.int .i64 0)) fun v=>k v H24) H24 fun v87 H25=>gd v79 true (fun k=>opt (pick v81 (.bool true) v87) fun v=>k v H25) H25 fun v88 H26=>opt (pick v79 v88 (.bool false)) fun v89=>ifB v89 (
 opt (nilCk v75) fun v90=>opt (addOff v90 5) fun v91=>opt (load1 v91 H26) fun v92=>E.call (E.fid i.f115) [x0,v92] H26 fun v93 H27=>Q v93 H27) (
 opt (nilCk x0) fun v94=>opt (addOff v94 1) fun v95=>opt (addOff v95 0) fun v96=>opt (load1 v96 H26) fun v97=>opt (buildV [(0,1),(1,1)] #[(.int .i64 0),(.int .u16 0)] [(0,v97),(1,v66)]) fun v98=>opt (nilCk x0) fun v99=>opt (addOff v99 1) fun v100=>opt (storeN 2 v100 v98 H26) fun H28=>opt (nilCk v75) fun v101=>opt (addOff v101 1) fun v102=>opt (load1 v102 H28) fun v103=>opt (binInt .eql v103 (.int .u8 2)) fun v104=>ifB v104 (
 opt (nilCk x0) fun v105=>opt (addOff v105 0) fun v106=>opt (load1 v106 H28) fun v107=>opt (nilCk v107) fun v108=>opt (addOff v108 1) fun v109=>opt (load1 v109 H28) fun v110=>opt (nilCk x0) fun v111=>opt (addOff v111 1) fun v112=>opt (loadN 2 v112 H28) fun v113=>E.call (E.fid i.f37) [v110,v113] H28 fun v114 H29=>opt (nilCk x0) fun v115=>opt (addOff v115 1) fun v116=>opt (storeN 2 v116 v114 H29) fun H30=>Q (.int .i64 0) H30) (
 Q (.int .i64 0) H28))))))

def F.f4 (E:Sy) (x0:Value) (H:AH) (Q:VK):Prop :=
 mapW H fun v1 H1=>opt (fold2 max2 [x0,(.int .i64 1)]) fun v2=>opt (fold2 min2 [v2,(.int .i64 256)]) fun v3=>opt (buildV [(0,1),(1,1),(2,1)] #[(.map none),(.int .i64 0),(.int .i64 0)] [(0,v1),(1,v3)]) fun v4=>mk (boxO v4) H1 fun v5 H2=>opt (nilCk v5) fun v6=>opt (addOff v6 0) fun v7=>opt (load1 v7 H2) fun v8=>mapW H2 fun v9 H3=>opt (buildV [(0,1),(1,1),(2,1),(3,1),(4,1),(5,1),(6,1),(7,1)] #[(.int .u16 0),(.int .u8 0),(.slice none 0 0),(.map none),(.int .u16 0),(.string ⟨#[]⟩),(.int .i64 0),(.int .i64 0)] [(0,(.int .u16 1)),(1,(.int .u8 2)),(3,v9),(4,(.int .u16 1)),(6,(.int .i64 1))]) fun v10=>mk (boxO v10) H3 fun v11 H4=>opt (setMap 0 v8 (.int .u16 1) v11 H4) fun H5=>Q v5 H5

def F.f33 (E:Sy) (H:AH) (Q:VK):Prop :=
 opt (buildV [(0,1),(1,2),(3,1),(4,1)] #[(.int .i64 0),(.int .i64 0),(.int .u16 0),(.int .u16 0),(.int .i64 0)] [(2,(.int .u16 1))]) fun v1=>mk (buildS 1 5 #[(.int .i64 0),(.int .i64 0),(.int .u16 0),(.int .u16 0),(.int .i64 0)] [(0,v1)]) H fun v2 H1=>opt (buildV [(0,1),(1,1)] #[(.slice none 0 0),(.int .i64 0)] [(0,v2),(1,(.int .i64 1))]) fun v3=>mk (boxO v3) H1 fun v4 H2=>Q v4 H2

def F.f19 (E:Sy) (x0 x1 x2:Value) (H:AH) (Q:VK):Prop :=
 E.call (E.fid i.f17) [x0,x1] H fun v1 H1=>opt (ext v1 0) fun v2=>opt (ext v1 1) fun v3=>opt (binInt .neq v3 (.int .i64 0)) fun v4=>ifB v4 (
 Q (.tuple #[(.pointer none),v3]) H1) (
 E.call (E.fid i.f2) [x2] H1 fun v5 H2=>opt (un .not v5) fun v6=>ifB v6 (
 Q (.tuple #[(.pointer none),(.int .i64 22)]) H2) (
 opt (nilCk v2) fun v7=>opt (addOff v7 3) fun v8=>opt (load1 v8 H2) fun v9=>opt (look 1 (.int .u16 0) true v9 x2 H2) fun v10=>opt (ext v10 0) fun v11=>opt (ext v10 1) fun v12=>ifB v12 (
 Q (.tuple #[(.pointer none),(.int .i64 17)]) H2) (
 opt (nilCk v2) fun v13=>opt (addOff v13 6) fun v14=>opt (load1 v14 H2) fun v15=>opt (binInt .eql v15 (.int .i64 0)) fun v16=>ifB v16 (
 Q (.tuple #[(.pointer none),(.int .i64 2)]) H2) (
 opt (nilCk v2) fun v17=>opt (addOff v17 3) fun v18=>opt (load1 v18 H2) fun v19=>opt (lenMap v19 H2) fun v20=>opt (binInt .geq v20 (.int .i64 32)) fun v21=>ifB v21 (
 Q (.tuple #[(.pointer none),(.int .i64 28)]) H2) (
 Q (.tuple #[v2,(.int .i64 0)]) H2)))))

def F.f16_l1 (E:Sy) (Q:VK) (t0 t1 t5:Value) (H:AH) (X0:LK):Prop :=
 opt (binInt .neq t1 (.int .u16 1)) fun v1=>gd v1 true (fun k=>k t5 H) H fun v2 H1=>gd v1 true (fun k=>opt (binInt .leq v2 (.int .i64 16)) fun v=>k v H1) H1 fun v3 H2=>opt (pick v1 v3 (.bool false)) fun v4=>ifB v4 (
 opt (nilCk t0) fun v5=>opt (addOff v5 0) fun v6=>opt (load1 v6 H2) fun v7=>opt (look 0 (.pointer none) false v7 t1 H2) fun v8=>opt (nilCk v8) fun v9=>opt (addOff v9 4) fun v10=>opt (load1 v10 H2) fun v11=>opt (binInt .add t5 (.int .i64 1)) fun v12=>X0 [t0,v11,v12] H2) (
 Q t5 H2)
def F.f16 (E:Sy) (x0 x1:Value) (H:AH) (Q:VK):Prop :=
 LoopL (fun l H X0=>F.f16_l1 E Q (nth l 0) (nth l 1) (nth l 2) H X0) [x0,x1,(.int .i64 0)] H

def F.f103 (E:Sy) (x0 x1:Value) (H:AH) (Q:VK):Prop :=
 opt (nilCk x0) fun v1=>opt (addOff v1 0) fun v2=>E.call (E.fid i.f102) [v2,x1] H fun v3 H1=>Q v3 H1

def F.f50 (E:Sy) (H:AH) (Q:VK):Prop :=
 mk (buildS 12 1 #[(.string ⟨#[]⟩)] [(0,(.string ⟨#[97]⟩)),(1,(.string ⟨#[47,97]⟩)),(2,(.string ⟨#[46,46,47,98]⟩)),(3,(.string ⟨#[98,47,99]⟩)),(4,(.string ⟨#[47]⟩)),(5,(.string ⟨#[46]⟩)),(6,(.string ⟨#[46,46]⟩)),(7,(.string ⟨#[47,98,47,46,46,47,97]⟩)),(8,(.string ⟨#[102]⟩)),(9,(.string ⟨#[97,47]⟩)),(10,(.string ⟨#[110,111,116,104,105,110,103]⟩)),(11,(.string ⟨#[47,97,47,98,47,99]⟩))]) H fun v1 H1=>Q v1 H1

def F.f42_j1 (E:Sy) (Q:VK) (t0 t1 t5 t7 t8 t9 t10:Value) (H:AH):Prop :=
 opt (convInt .u16 t7) fun v1=>opt (convInt .u16 t8) fun v2=>opt (addOff t5 0) fun v3=>opt (load1 v3 H) fun v4=>opt (binInt .rem v4 (.int .u8 15)) fun v5=>opt (binInt .lss v5 (.int .u8 5)) fun v6=>ifB v6 (
 opt (addOff t5 4) fun v7=>opt (load1 v7 H) fun v8=>mk (buildS 5 1 #[(.int .u8 0)] [(0,(.int .u8 1)),(1,(.int .u8 2)),(2,(.int .u8 2)),(3,(.int .u8 3)),(4,v8)]) H fun v9 H1=>opt (ixSlc 1 v9 v5) fun v10=>opt (load1 v10 H1) fun v11=>opt (addOff t5 5) fun v12=>opt (load1 v12 H1) fun v13=>E.call (E.fid i.f12) [t0,v1,t9,v11,v13] H1 fun v14 H2=>opt (ext v14 0) fun v15=>opt (ext v14 1) fun v16=>opt (convInt .i64 v11) fun v17=>opt (addOff t5 5) fun v18=>opt (load1 v18 H2) fun v19=>E.call (E.fid i.f61) [t1,t7,t9,v17,v19] H2 fun v20 H3=>opt (ext v20 0) fun v21=>opt (ext v20 1) fun v22=>opt (convInt .i64 v15) fun v23=>opt (binInt .eql v23 v21) fun v24=>gd v24 true (fun k=>k v16 H3) H3 fun v25 H4=>gd v24 true (fun k=>k v22 H4) H4 fun v26 H5=>gd v24 true (fun k=>opt (binInt .eql v25 v26) fun v=>k v H5) H5 fun v27 H6=>opt (pick v24 v27 (.bool false)) fun v28=>Q v28 H6) (
 opt (binInt .eql v5 (.int .u8 5)) fun v29=>ifB v29 (
 E.call (E.fid i.f5) [t0,v1,t9,v2] H fun v30 H7=>E.call (E.fid i.f54) [t1,t7,t9,t8] H7 fun v31 H8=>opt (binInt .eql v30 v31) fun v32=>Q v32 H8) (
 opt (binInt .lss v5 (.int .u8 8)) fun v33=>ifB v33 (
 opt (addOff t5 8) fun v34=>opt (load1 v34 H) fun v35=>opt (addOff t5 8) fun v36=>opt (load1 v36 H) fun v37=>E.call (E.fid i.f7) [t0,v1,t9,v35] H fun v38 H9=>load1 v36 H9=load1 v36 H /\
 E.call (E.fid i.f57) [t1,t7,t9,v37] H9 fun v39 H10=>opt (binInt .eql v38 v39) fun v40=>Q v40 H10) (
 opt (binInt .lss v5 (.int .u8 11)) fun v41=>ifB v41 (
 E.call (E.fid i.f13) [t0,v1,t9,v2,t10] H fun v42 H11=>E.call (E.fid i.f62) [t1,t7,t9,t8,t10] H11 fun v43 H12=>opt (binInt .eql v42 v43) fun v44=>Q v44 H12) (
 opt (binInt .eql v5 (.int .u8 11)) fun v45=>ifB v45 (
 opt (addOff t5 8) fun v46=>opt (load1 v46 H) fun v47=>opt (addOff t5 8) fun v48=>opt (load1 v48 H) fun v49=>E.call (E.fid i.f10) [t0,v1,v47] H fun v50 H13=>load1 v48 H13=load1 v48 H /\
 E.call (E.fid i.f58) [t1,t7,v49] H13 fun v51 H14=>opt (binInt .eql v50 v51) fun v52=>Q v52 H14) (
 opt (binInt .eql v5 (.int .u8 12)) fun v53=>ifB v53 (
 opt (addOff t5 6) fun v54=>opt (load1 v54 H) fun v55=>opt (addOff t5 7) fun v56=>opt (load1 v56 H) fun v57=>opt (addOff t5 6) fun v58=>opt (load1 v58 H) fun v59=>opt (addOff t5 7) fun v60=>opt (load1 v60 H) fun v61=>E.call (E.fid i.f15) [t0,v1,v55,v57] H fun v62 H15=>load1 v60 H15=load1 v60 H /\
 load1 v58 H15=load1 v58 H /\
 E.call (E.fid i.f66) [t1,t7,v59,v61] H15 fun v63 H16=>opt (binInt .eql v62 v63) fun v64=>Q v64 H16) (
 opt (binInt .eql v5 (.int .u8 13)) fun v65=>ifB v65 (
 opt (addOff t5 6) fun v66=>opt (load1 v66 H) fun v67=>opt (addOff t5 6) fun v68=>opt (load1 v68 H) fun v69=>E.call (E.fid i.f6) [t0,v1,v67] H fun v70 H17=>load1 v68 H17=load1 v68 H /\
 E.call (E.fid i.f56) [t1,t7,v69] H17 fun v71 H18=>opt (binInt .eql v70 v71) fun v72=>Q v72 H18) (
 E.call (E.fid i.f11) [t0,v1,t9] H fun v73 H19=>opt (ext v73 0) fun v74=>opt (ext v73 1) fun v75=>E.call (E.fid i.f60) [t1,t7,t9] H19 fun v76 H20=>opt (ext v76 0) fun v77=>opt (ext v76 1) fun v78=>opt (convInt .i64 v74) fun v79=>opt (binInt .eql v79 v77) fun v80=>gd v80 true (fun k=>k v75 H20) H20 fun v81 H21=>gd v80 true (fun k=>k v78 H21) H21 fun v82 H22=>gd v80 true (fun k=>opt (binInt .eql v81 v82) fun v=>k v H22) H22 fun v83 H23=>opt (pick v80 v83 (.bool false)) fun v84=>Q v84 H23)))))))
def F.f42 (E:Sy) (x0 x1 x2:Value) (H:AH) (Q:VK):Prop :=
 mk (boxO x2) H fun v1 H1=>opt (addOff v1 1) fun v2=>opt (load1 v2 H1) fun v3=>opt (binInt .rem v3 (.int .u8 8)) fun v4=>opt (convInt .i64 v4) fun v5=>opt (addOff v1 2) fun v6=>opt (load1 v6 H1) fun v7=>opt (binInt .rem v7 (.int .u8 8)) fun v8=>opt (convInt .i64 v8) fun v9=>opt (addOff v1 3) fun v10=>opt (load1 v10 H1) fun v11=>opt (convInt .i64 v11) fun v12=>opt (addOff v1 4) fun v13=>opt (load1 v13 H1) fun v14=>opt (convInt .i64 v14) fun v15=>E.call (E.fid i.f43) [] H1 fun v16 H2=>load1 v13 H2=load1 v13 H1 /\
 load1 v10 H2=load1 v10 H1 /\
 E.call (E.fid i.f43) [] H2 fun v17 H3=>load1 v13 H3=load1 v13 H1 /\
 load1 v10 H3=load1 v10 H1 /\
 opt (lenSlc v17) fun v18=>opt (binInt .rem v12 v18) fun v19=>opt (ixSlc 1 v16 v19) fun v20=>opt (load1 v20 H3) fun v21=>E.call (E.fid i.f43) [] H3 fun v22 H4=>load1 v20 H4=load1 v20 H3 /\
 load1 v13 H4=load1 v13 H1 /\
 load1 v10 H4=load1 v10 H1 /\
 E.call (E.fid i.f43) [] H4 fun v23 H5=>load1 v20 H5=load1 v20 H3 /\
 load1 v13 H5=load1 v13 H1 /\
 load1 v10 H5=load1 v10 H1 /\
 opt (lenSlc v23) fun v24=>opt (binInt .rem v15 v24) fun v25=>opt (ixSlc 1 v22 v25) fun v26=>opt (load1 v26 H5) fun v27=>opt (addOff v1 9) fun v28=>opt (load1 v28 H5) fun v29=>ifB v29 (
 opt (addOff v1 5) fun v30=>opt (load1 v30 H5) fun v31=>opt (addOff v1 6) fun v32=>opt (load1 v32 H5) fun v33=>opt (binInt .and v33 (.int .i64 65535)) fun v34=>F.f42_j1 E Q x0 x1 v1 v34 v9 v31 v27 H5) (
 F.f42_j1 E Q x0 x1 v1 v5 v9 v21 v27 H5)

def F.f34 (E:Sy) (x0 x1 x2:Value) (H:AH) (Q:VK):Prop :=
 mk (boxO x2) H fun v1 H1=>opt (binNil eqPtr .eql x0 (.pointer none)) fun v2=>ifB v2 (
 Q (.tuple #[(.int .i64 0),(.int .i64 201)]) H1) (
 opt (addOff v1 0) fun v3=>opt (load1 v3 H1) fun v4=>E.call (E.fid i.f39) [x0,v4] H1 fun v5 H2=>opt (binInt .lss v5 (.int .i64 0)) fun v6=>ifB v6 (
 Q (.tuple #[(.int .i64 0),(.int .i64 22)]) H2) (
 opt (loadN 2 v1 H2) fun v7=>opt (loadN 2 v1 H2) fun v8=>E.call (E.fid i.f37) [x0,v7] H2 fun v9 H3=>loadN 2 v1 H3=loadN 2 v1 H2 /\
 opt (binAgg [0,0] .neq v9 v8) fun v10=>ifB v10 (
 Q (.tuple #[(.int .i64 0),(.int .i64 16)]) H3) (
 opt (nilCk x0) fun v11=>opt (addOff v11 0) fun v12=>opt (load1 v12 H3) fun v13=>opt (lenSlc v13) fun v14=>opt (binInt .geq v14 (.int .i64 16)) fun v15=>ifB v15 (
 Q (.tuple #[(.int .i64 0),(.int .i64 28)]) H3) (
 opt (nilCk x0) fun v16=>opt (addOff v16 1) fun v17=>opt (load1 v17 H3) fun v18=>opt (nilCk x0) fun v19=>opt (addOff v19 1) fun v20=>opt (load1 v20 H3) fun v21=>opt (binInt .add v21 (.int .i64 1)) fun v22=>opt (nilCk x0) fun v23=>opt (addOff v23 1) fun v24=>opt (store1 v24 v22 H3) fun H4=>opt (nilCk x0) fun v25=>opt (addOff v25 0) fun v26=>opt (load1 v26 H4) fun v27=>opt (loadN 2 v1 H4) fun v28=>opt (buildV [(0,1),(1,2),(3,1),(4,1)] #[(.int .i64 0),(.int .i64 0),(.int .u16 0),(.int .u16 0),(.int .i64 0)] [(0,v18),(1,v28),(2,x1)]) fun v29=>mk (buildS 1 5 #[(.int .i64 0),(.int .i64 0),(.int .u16 0),(.int .u16 0),(.int .i64 0)] [(0,v29)]) H4 fun v30 H5=>opt2 (app 5 40 v27 v30 H5) fun v31 H6=>opt (nilCk x0) fun v32=>opt (addOff v32 0) fun v33=>opt (store1 v33 v31 H6) fun H7=>Q (.tuple #[v18,(.int .i64 0)]) H7))))

def F.f44 (E:Sy) (x0:Value) (H:AH) (Q:VK):Prop :=
 mk (boxO x0) H fun v1 H1=>allocW [(.int .i64 0),(.int .i64 0)] H1 fun v2 H2=>opt (addOff v1 0) fun v3=>opt (load1 v3 H2) fun v4=>opt (addOff v1 1) fun v5=>opt (load1 v5 H2) fun v6=>opt (convInt .i64 v6) fun v7=>opt (buildV [(0,1),(1,1)] #[(.int .i64 0),(.int .i64 0)] [(0,v4),(1,v7)]) fun v8=>opt (storeN 2 v2 v8 H2) fun H3=>opt (loadN 2 v2 H3) fun v9=>Q v9 H3

def F.f55 (E:Sy) (x0 x1 x2:Value) (H:AH) (Q:VK):Prop :=
 mk (boxO x2) H fun v1 H1=>opt (addOff v1 0) fun v2=>opt (load1 v2 H1) fun v3=>E.call (E.fid i.f69) [x0,v3] H1 fun v4 H2=>opt (binInt .lss v4 (.int .i64 0)) fun v5=>ifB v5 (
 Q (.tuple #[(.int .i64 0),(.int .i64 22)]) H2) (
 opt (loadN 2 v1 H2) fun v6=>opt (loadN 2 v1 H2) fun v7=>E.call (E.fid i.f64) [x0,v6] H2 fun v8 H3=>loadN 2 v1 H3=loadN 2 v1 H2 /\
 opt (binAgg [0,0] .neq v8 v7) fun v9=>ifB v9 (
 Q (.tuple #[(.int .i64 0),(.int .i64 16)]) H3) (
 opt (nilCk x0) fun v10=>opt (addOff v10 2) fun v11=>opt (load1 v11 H3) fun v12=>opt (lenSlc v12) fun v13=>opt (binInt .geq v13 (.int .i64 16)) fun v14=>ifB v14 (
 Q (.tuple #[(.int .i64 0),(.int .i64 28)]) H3) (
 opt (nilCk x0) fun v15=>opt (addOff v15 3) fun v16=>opt (load1 v16 H3) fun v17=>opt (nilCk x0) fun v18=>opt (addOff v18 3) fun v19=>opt (load1 v19 H3) fun v20=>opt (binInt .add v20 (.int .i64 1)) fun v21=>opt (nilCk x0) fun v22=>opt (addOff v22 3) fun v23=>opt (store1 v23 v21 H3) fun H4=>opt (nilCk x0) fun v24=>opt (addOff v24 2) fun v25=>opt (load1 v25 H4) fun v26=>opt (loadN 2 v1 H4) fun v27=>opt (buildV [(0,1),(1,1),(2,2),(4,1)] #[(.int .i64 0),(.int .i64 0),(.int .i64 0),(.int .i64 0),(.int .i64 0)] [(0,v17),(1,x1),(2,v27)]) fun v28=>mk (buildS 1 5 #[(.int .i64 0),(.int .i64 0),(.int .i64 0),(.int .i64 0),(.int .i64 0)] [(0,v28)]) H4 fun v29 H5=>opt2 (app 5 40 v26 v29 H5) fun v30 H6=>opt (nilCk x0) fun v31=>opt (addOff v31 2) fun v32=>opt (store1 v32 v30 H6) fun H7=>Q (.tuple #[v17,(.int .i64 0)]) H7)))

def F.f10 (E:Sy) (x0 x1 x2:Value) (H:AH) (Q:VK):Prop :=
 E.call (E.fid i.f9) [x0,x1] H fun v1 H1=>opt (binNil eqPtr .eql v1 (.pointer none)) fun v2=>ifB v2 (
 Q (.int .i64 2) H1) (
 opt (un .not x2) fun v3=>gd v3 true (fun k=>k v1 H1) H1 fun v4 H2=>gd v3 true (fun k=>opt (nilCk v4) fun v=>k v H2) H2 fun v5 H3=>gd v3 true (fun k=>opt (addOff v5 7) fun v=>k v H3) H3 fun v6 H4=>gd v3 true (fun k=>opt (load1 v6 H4) fun v=>k v H4) H4 fun v7 H5=>gd v3 true (fun k=>opt (binInt .eql v7 (.int .i64 0)) fun v=>k v H5) H5 fun v8 H6=>opt (pick v3 v8 (.bool false)) fun v9=>ifB v9 (
 Q (.int .i64 22) H6) (
 ifB x2 (
 opt (nilCk v1) fun v10=>opt (addOff v10 7) fun v11=>opt (load1 v11 H6) fun v12=>opt (binInt .add v12 (.int .i64 1)) fun v13=>opt (nilCk v1) fun v14=>opt (addOff v14 7) fun v15=>opt (store1 v15 v13 H6) fun H7=>Q (.int .i64 0) H7) (
 opt (nilCk v1) fun v16=>opt (addOff v16 7) fun v17=>opt (load1 v17 H6) fun v18=>opt (binInt .sub v18 (.int .i64 1)) fun v19=>opt (nilCk v1) fun v20=>opt (addOff v20 7) fun v21=>opt (store1 v21 v19 H6) fun H8=>E.call (E.fid i.f21) [x0,x1] H8 fun v22 H9=>Q (.int .i64 0) H9)))

def F.f58 (E:Sy) (x0 x1 x2:Value) (H:AH) (Q:VK):Prop :=
 E.call (E.fid i.f63) [x0,x1] H fun v1 H1=>opt (nilCk v1) fun v2=>opt (addOff v2 0) fun v3=>opt (load1 v3 H1) fun v4=>opt (binInt .eql v4 (.int .i64 0)) fun v5=>ifB v5 (
 Q (.int .i64 2) H1) (
 ifB x2 (
 opt (nilCk v1) fun v6=>opt (addOff v6 6) fun v7=>opt (load1 v7 H1) fun v8=>opt (binInt .add v8 (.int .i64 1)) fun v9=>opt (nilCk v1) fun v10=>opt (addOff v10 6) fun v11=>opt (store1 v11 v9 H1) fun H2=>Q (.int .i64 0) H2) (
 opt (nilCk v1) fun v12=>opt (addOff v12 6) fun v13=>opt (load1 v13 H1) fun v14=>opt (binInt .eql v14 (.int .i64 0)) fun v15=>ifB v15 (
 Q (.int .i64 22) H1) (
 opt (nilCk v1) fun v16=>opt (addOff v16 6) fun v17=>opt (load1 v17 H1) fun v18=>opt (binInt .sub v18 (.int .i64 1)) fun v19=>opt (nilCk v1) fun v20=>opt (addOff v20 6) fun v21=>opt (store1 v21 v19 H1) fun H3=>E.call (E.fid i.f72) [x0,x1] H3 fun v22 H4=>Q (.int .i64 0) H4)))

def F.f8_l1 (E:Sy) (Q:VK) (t8 t23:Value) (H:AH) (X0:LK):Prop :=
 nextM t23 H fun v1 H1=>opt (ext v1 0) fun v2=>ifB v2 (
 opt (entryR t23 H1) fun v3=>opt (ext v3 0) fun v4=>mk (buildS 1 1 #[(.string ⟨#[]⟩)] [(0,v4)]) H1 fun v5 H2=>opt2 (app 1 16 t8 v5 H2) fun v6 H3=>X0 [v6,t23] H3) (
 E.call (E.fid i.f77) [t8] H1 fun v7 H4=>Q (.tuple #[t8,(.int .i64 0)]) H4)
def F.f8 (E:Sy) (x0 x1:Value) (H:AH) (Q:VK):Prop :=
 E.call (E.fid i.f17) [x0,x1] H fun v1 H1=>opt (ext v1 0) fun v2=>opt (ext v1 1) fun v3=>opt (binInt .neq v3 (.int .i64 0)) fun v4=>ifB v4 (
 Q (.tuple #[(.slice none 0 0),v3]) H1) (
 opt (nilCk v2) fun v5=>opt (addOff v5 3) fun v6=>opt (load1 v6 H1) fun v7=>mk (rangeM v7 H1) H1 fun v8 H2=>LoopL (fun l H X0=>F.f8_l1 E Q (nth l 0) (nth l 1) H X0) [(.slice none 0 0),v8] H2)

def F.f11 (E:Sy) (x0 x1 x2:Value) (H:AH) (Q:VK):Prop :=
 E.call (E.fid i.f17) [x0,x1] H fun v1 H1=>opt (ext v1 0) fun v2=>opt (ext v1 1) fun v3=>opt (binInt .neq v3 (.int .i64 0)) fun v4=>ifB v4 (
 Q (.tuple #[(.int .u16 0),v3]) H1) (
 opt (nilCk v2) fun v5=>opt (addOff v5 3) fun v6=>opt (load1 v6 H1) fun v7=>opt (look 1 (.int .u16 0) true v7 x2 H1) fun v8=>opt (ext v8 0) fun v9=>opt (ext v8 1) fun v10=>opt (un .not v10) fun v11=>ifB v11 (
 Q (.tuple #[(.int .u16 0),(.int .i64 2)]) H1) (
 Q (.tuple #[v9,(.int .i64 0)]) H1))

def F.f113 (E:Sy) (x0:Value) (H:AH) (Q:VK):Prop :=
 opt (binNil eqPtr .neq x0 (.pointer none)) fun v1=>gd v1 true (fun k=>k x0 H) H fun v2 H1=>gd v1 true (fun k=>opt (nilCk v2) fun v=>k v H1) H1 fun v3 H2=>gd v1 true (fun k=>opt (addOff v3 0) fun v=>k v H2) H2 fun v4 H3=>gd v1 true (fun k=>opt (load1 v4 H3) fun v=>k v H3) H3 fun v5 H4=>gd v1 true (fun k=>opt (binNil eqPtr .neq v5 (.pointer none)) fun v=>k v H4) H4 fun v6 H5=>opt (pick v1 v6 (.bool false)) fun v7=>gd v7 true (fun k=>k x0 H5) H5 fun v8 H6=>gd v7 true (fun k=>opt (nilCk v8) fun v=>k v H6) H6 fun v9 H7=>gd v7 true (fun k=>opt (addOff v9 1) fun v=>k v H7) H7 fun v10 H8=>gd v7 true (fun k=>opt (load1 v10 H8) fun v=>k v H8) H8 fun v11 H9=>gd v7 true (fun k=>opt (binNil eqPtr .neq v11 (.pointer none)) fun v=>k v H9) H9 fun v12 H10=>opt (pick v7 v12 (.bool false)) fun v13=>Q v13 H10

def F.f36 (E:Sy) (x0 x1:Value) (H:AH) (Q:VK):Prop :=
 allocW [(.int .i64 0),(.int .i64 0),(.int .u16 0),(.int .u16 0),(.int .i64 0)] H fun v1 H1=>E.call (E.fid i.f39) [x0,x1] H1 fun v2 H2=>opt (binInt .lss v2 (.int .i64 0)) fun v3=>ifB v3 (
 opt (buildV [(0,1),(1,2),(3,1),(4,1)] #[(.int .i64 0),(.int .i64 0),(.int .u16 0),(.int .u16 0),(.int .i64 0)] []) fun v4=>opt (storeN 5 v1 v4 H2) fun H3=>opt (loadN 5 v1 H3) fun v5=>Q (.tuple #[v5,(.bool false)]) H3) (
 opt (nilCk x0) fun v6=>opt (addOff v6 0) fun v7=>opt (load1 v7 H2) fun v8=>opt (ixSlc 5 v8 v2) fun v9=>opt (loadN 5 v9 H2) fun v10=>opt (storeN 5 v1 v10 H2) fun H4=>opt (loadN 5 v1 H4) fun v11=>Q (.tuple #[v11,(.bool true)]) H4)

def F.f114_l1 (E:Sy) (Q:VK) (t3 t7 t8 t9:Value) (H:AH) (X0:LK):Prop :=
 opt (binInt .lss t9 t8) fun v1=>ifB v1 (
 opt (ixSlc 1 t7 t9) fun v2=>opt (load1 v2 H) fun v3=>opt (binStr .neq v3 (.string ⟨#[]⟩)) fun v4=>gd v4 true (fun k=>k v3 H) H fun v5 H1=>gd v4 true (fun k=>opt (binStr .neq v5 (.string ⟨#[46]⟩)) fun v=>k v H1) H1 fun v6 H2=>opt (pick v4 v6 (.bool false)) fun v7=>ifB v7 (
 mk (buildS 1 1 #[(.string ⟨#[]⟩)] [(0,v3)]) H2 fun v8 H3=>opt2 (app 1 16 t3 v8 H3) fun v9 H4=>opt (binInt .add t9 (.int .i64 1)) fun v10=>X0 [v9,t7,t8,v10] H4) (
 opt (binInt .add t9 (.int .i64 1)) fun v11=>X0 [t3,t7,t8,v11] H2)) (
 Q t3 H)
def F.f114 (E:Sy) (x0:Value) (H:AH) (Q:VK):Prop :=
 E.call (E.fid i.f98) [x0,(.string ⟨#[47]⟩)] H fun v1 H1=>opt (lenSlc v1) fun v2=>LoopL (fun l H X0=>F.f114_l1 E Q (nth l 0) (nth l 1) (nth l 2) (nth l 3) H X0) [(.slice none 0 0),v1,v2,(.int .i64 0)] H1

def F.f27 (E:Sy) (x0 x1:Value) (H:AH) (Q:VK):Prop :=
 opt (lenStr x0) fun v1=>opt (lenStr x1) fun v2=>opt (binInt .geq v1 v2) fun v3=>gd v3 true (fun k=>k x0 H) H fun v4 H1=>gd v3 true (fun k=>k x0 H1) H1 fun v5 H2=>gd v3 true (fun k=>opt (lenStr v5) fun v=>k v H2) H2 fun v6 H3=>gd v3 true (fun k=>k x1 H3) H3 fun v7 H4=>gd v3 true (fun k=>opt (lenStr v7) fun v=>k v H4) H4 fun v8 H5=>gd v3 true (fun k=>opt (binInt .sub v6 v8) fun v=>k v H5) H5 fun v9 H6=>gd v3 true (fun k=>opt (slStr v4 (some v9) none) fun v=>k v H6) H6 fun v10 H7=>gd v3 true (fun k=>k x1 H7) H7 fun v11 H8=>gd v3 true (fun k=>opt (binStr .eql v10 v11) fun v=>k v H8) H8 fun v12 H9=>opt (pick v3 v12 (.bool false)) fun v13=>Q v13 H9

def F.f110_l1 (E:Sy) (Q:VK) (t0 t3 t4:Value) (H:AH) (X0:LK):Prop :=
 opt (nilCk t0) fun v1=>opt (addOff v1 1) fun v2=>opt (load1 v2 H) fun v3=>opt (loadN 2 t3 H) fun v4=>allocW [(.int .i64 0),(.int .u16 0)] H fun v5 H1=>E.call (E.fid i.f35) [v3,v4] H1 fun v6 H2=>H2.get H.next=H1.get H.next /\
 opt (ext v6 0) fun v7=>opt (ext v6 1) fun v8=>opt (storeN 2 v5 v7 H2) fun H3=>opt (un .not v8) fun v9=>ifB v9 (
 opt (nilCk t0) fun v10=>opt (addOff v10 0) fun v11=>opt (load1 v11 H3) fun v12=>opt (addOff t3 1) fun v13=>opt (load1 v13 H3) fun v14=>E.call (E.fid i.f9) [v12,v14] H3 fun v15 H4=>opt (binNil eqPtr .eql v15 (.pointer none)) fun v16=>ifB v16 (
 E.call (E.fid i.f41) [] H4 fun v17 H5=>opt (storeN 2 t4 v17 H5) fun H6=>opt (loadN 2 t4 H6) fun v18=>Q v18 H6) (
 opt (nilCk t0) fun v19=>opt (addOff v19 1) fun v20=>opt (load1 v20 H4) fun v21=>opt (addOff t3 0) fun v22=>opt (load1 v22 H4) fun v23=>opt (nilCk v15) fun v24=>opt (addOff v24 4) fun v25=>opt (load1 v25 H4) fun v26=>opt (buildV [(0,1),(1,1)] #[(.int .i64 0),(.int .u16 0)] [(0,v23),(1,v26)]) fun v27=>E.call (E.fid i.f37) [v21,v27] H4 fun v28 H7=>opt (storeN 2 t4 v28 H7) fun H8=>opt (loadN 2 t4 H8) fun v29=>Q v29 H8)) (
 opt (loadN 2 v5 H3) fun v30=>opt (storeN 2 t3 v30 H3) fun H9=>X0 [t0,t3,t4] H9)
def F.f110 (E:Sy) (x0 x1:Value) (H:AH) (Q:VK):Prop :=
 mk (boxO x1) H fun v1 H1=>allocW [(.int .i64 0),(.int .u16 0)] H1 fun v2 H2=>opt (loadN 2 v1 H2) fun v3=>E.call (E.fid i.f107) [x0,v3] H2 fun v4 H3=>opt (un .not v4) fun v5=>ifB v5 (
 E.call (E.fid i.f41) [] H3 fun v6 H4=>opt (storeN 2 v2 v6 H4) fun H5=>opt (loadN 2 v2 H5) fun v7=>Q v7 H5) (
 LoopL (fun l H X0=>F.f110_l1 E Q (nth l 0) (nth l 1) (nth l 2) H X0) [x0,v1,v2] H3)

def F.f115_j1 (E:Sy) (Q:VK) (t0 t1:Value) (H:AH):Prop :=
 opt (nilCk t0) fun v1=>opt (addOff v1 3) fun v2=>opt (load1 v2 H) fun v3=>E.call (E.fid i.f114) [t1] H fun v4 H1=>load1 v2 H1=load1 v2 H /\
 opt2 (app 1 16 v4 v3 H1) fun v5 H2=>opt (nilCk t0) fun v6=>opt (addOff v6 3) fun v7=>opt (store1 v7 v5 H2) fun H3=>Q (.int .i64 0) H3
def F.f115 (E:Sy) (x0 x1:Value) (H:AH) (Q:VK):Prop :=
 opt (nilCk x0) fun v1=>opt (addOff v1 4) fun v2=>opt (load1 v2 H) fun v3=>opt (binInt .add v3 (.int .i64 1)) fun v4=>opt (nilCk x0) fun v5=>opt (addOff v5 4) fun v6=>opt (store1 v6 v4 H) fun H1=>opt (nilCk x0) fun v7=>opt (addOff v7 4) fun v8=>opt (load1 v8 H1) fun v9=>opt (binInt .gtr v9 (.int .i64 8)) fun v10=>ifB v10 (
 Q (.int .i64 40) H1) (
 opt (ixStr x1 (.int .i64 0)) fun v11=>opt (binInt .eql v11 (.int .u8 47)) fun v12=>ifB v12 (
 opt (nilCk x0) fun v13=>opt (addOff v13 0) fun v14=>opt (load1 v14 H1) fun v15=>opt (nilCk v15) fun v16=>opt (addOff v16 1) fun v17=>opt (load1 v17 H1) fun v18=>E.call (E.fid i.f41) [] H1 fun v19 H2=>load1 v17 H2=load1 v17 H1 /\
 load1 v14 H2=load1 v14 H1 /\
 E.call (E.fid i.f37) [v18,v19] H2 fun v20 H3=>opt (nilCk x0) fun v21=>opt (addOff v21 1) fun v22=>opt (storeN 2 v22 v20 H3) fun H4=>F.f115_j1 E Q x0 x1 H4) (
 F.f115_j1 E Q x0 x1 H1))

def F.f17 (E:Sy) (x0 x1:Value) (H:AH) (Q:VK):Prop :=
 E.call (E.fid i.f9) [x0,x1] H fun v1 H1=>opt (binNil eqPtr .eql v1 (.pointer none)) fun v2=>ifB v2 (
 Q (.tuple #[(.pointer none),(.int .i64 2)]) H1) (
 opt (nilCk v1) fun v3=>opt (addOff v3 1) fun v4=>opt (load1 v4 H1) fun v5=>opt (binInt .neq v5 (.int .u8 2)) fun v6=>ifB v6 (
 Q (.tuple #[(.pointer none),(.int .i64 20)]) H1) (
 Q (.tuple #[v1,(.int .i64 0)]) H1))

def F.f2 (E:Sy) (x0:Value) (H:AH) (Q:VK):Prop :=
 opt (lenStr x0) fun v1=>opt (binInt .lss v1 (.int .i64 1)) fun v2=>gd v2 false (fun k=>k x0 H) H fun v3 H1=>gd v2 false (fun k=>opt (lenStr v3) fun v=>k v H1) H1 fun v4 H2=>gd v2 false (fun k=>opt (binInt .gtr v4 (.int .i64 14)) fun v=>k v H2) H2 fun v5 H3=>opt (pick v2 (.bool true) v5) fun v6=>gd v6 false (fun k=>k x0 H3) H3 fun v7 H4=>gd v6 false (fun k=>opt (binStr .eql v7 (.string ⟨#[46]⟩)) fun v=>k v H4) H4 fun v8 H5=>opt (pick v6 (.bool true) v8) fun v9=>gd v9 false (fun k=>k x0 H5) H5 fun v10 H6=>gd v9 false (fun k=>opt (binStr .eql v10 (.string ⟨#[46,46]⟩)) fun v=>k v H6) H6 fun v11 H7=>opt (pick v9 (.bool true) v11) fun v12=>ifB v12 (
 Q (.bool false) H7) (
 E.call (E.fid i.f96) [x0,(.func (.func (E.fid i.f3)) #[] #[])] H7 fun v13 H8=>opt (binInt .lss v13 (.int .i64 0)) fun v14=>Q v14 H8)

def F.f43 (E:Sy) (H:AH) (Q:VK):Prop :=
 mk (buildS 9 1 #[(.string ⟨#[]⟩)] [(0,(.string ⟨#[97]⟩)),(1,(.string ⟨#[98]⟩)),(2,(.string ⟨#[99]⟩)),(3,(.string ⟨#[100,46,101]⟩)),(4,(.string ⟨#[102]⟩)),(5,(.string ⟨#[103]⟩)),(6,(.string ⟨#[]⟩)),(7,(.string ⟨#[46,46]⟩)),(8,(.string ⟨#[97,47,98]⟩))]) H fun v1 H1=>Q v1 H1

def F.f61_j3 (E:Sy) (Q:VK) (t0 t1 t2 t13 t14:Value) (H:AH):Prop :=
 opt (nilCk t0) fun v1=>opt (addOff v1 0) fun v2=>opt (load1 v2 H) fun v3=>opt (loadN 7 t14 H) fun v4=>opt (ixSlc 7 v3 t13) fun v5=>opt (storeN 7 v5 v4 H) fun H1=>opt (nilCk t0) fun v6=>opt (addOff v6 0) fun v7=>opt (load1 v7 H1) fun v8=>opt (nilCk t0) fun v9=>opt (addOff v9 0) fun v10=>opt (load1 v10 H1) fun v11=>opt (ixSlc 7 v11 t1) fun v12=>opt (addOff v12 2) fun v13=>opt (load1 v13 H1) fun v14=>opt (buildV [(0,1),(1,1)] #[(.string ⟨#[]⟩),(.int .i64 0)] [(0,t2),(1,t13)]) fun v15=>E.call (E.fid i.f74) [v14,v15] H1 fun v16 H2=>load1 v7 H2=load1 v7 H1 /\
 opt (ixSlc 7 v8 t1) fun v17=>opt (addOff v17 2) fun v18=>opt (store1 v18 v16 H2) fun H3=>opt (nilCk t0) fun v19=>opt (addOff v19 4) fun v20=>opt (load1 v20 H3) fun v21=>opt (binInt .add v21 (.int .i64 1)) fun v22=>opt (nilCk t0) fun v23=>opt (addOff v23 4) fun v24=>opt (store1 v24 v22 H3) fun H4=>Q (.tuple #[t13,(.int .i64 0)]) H4
def F.f61_j2 (E:Sy) (Q:VK) (t0 t1 t2 t3 t4 t13 t14:Value) (H:AH):Prop :=
 opt (binInt .eql t3 (.int .i64 3)) fun v1=>ifB v1 (
 opt (addOff t14 4) fun v2=>opt (store1 v2 t4 H) fun H1=>F.f61_j3 E Q t0 t1 t2 t13 t14 H1) (
 F.f61_j3 E Q t0 t1 t2 t13 t14 H)
def F.f61_j1 (E:Sy) (Q:VK) (t0 t1 t2 t3 t4 t13:Value) (H:AH):Prop :=
 opt (buildV [(0,1),(1,1),(2,1),(3,1),(4,1),(5,1),(6,1)] #[(.int .i64 0),(.slice none 0 0),(.slice none 0 0),(.int .i64 0),(.string ⟨#[]⟩),(.int .i64 0),(.int .i64 0)] [(0,t3),(5,(.int .i64 1))]) fun v1=>allocW [(.int .i64 0),(.slice none 0 0),(.slice none 0 0),(.int .i64 0),(.string ⟨#[]⟩),(.int .i64 0),(.int .i64 0)] H fun v2 H1=>opt (storeN 7 v2 v1 H1) fun H2=>opt (binInt .eql t3 (.int .i64 2)) fun v3=>ifB v3 (
 opt (addOff v2 3) fun v4=>opt (store1 v4 t1 H2) fun H3=>F.f61_j2 E Q t0 t1 t2 t3 t4 t13 v2 H3) (
 F.f61_j2 E Q t0 t1 t2 t3 t4 t13 v2 H2)
def F.f61_l1 (E:Sy) (Q:VK) (t0 t1 t2 t3 t4 t13:Value) (H:AH) (X0:LK):Prop :=
 opt (nilCk t0) fun v1=>opt (addOff v1 0) fun v2=>opt (load1 v2 H) fun v3=>opt (lenSlc v3) fun v4=>opt (binInt .lss t13 v4) fun v5=>gd v5 true (fun k=>k t0 H) H fun v6 H1=>gd v5 true (fun k=>opt (nilCk v6) fun v=>k v H1) H1 fun v7 H2=>gd v5 true (fun k=>opt (addOff v7 0) fun v=>k v H2) H2 fun v8 H3=>gd v5 true (fun k=>opt (load1 v8 H3) fun v=>k v H3) H3 fun v9 H4=>gd v5 true (fun k=>k t13 H4) H4 fun v10 H5=>gd v5 true (fun k=>opt (ixSlc 7 v9 v10) fun v=>k v H5) H5 fun v11 H6=>gd v5 true (fun k=>opt (addOff v11 0) fun v=>k v H6) H6 fun v12 H7=>gd v5 true (fun k=>opt (load1 v12 H7) fun v=>k v H7) H7 fun v13 H8=>gd v5 true (fun k=>opt (binInt .gtr v13 (.int .i64 0)) fun v=>k v H8) H8 fun v14 H9=>opt (pick v5 v14 (.bool false)) fun v15=>ifB v15 (
 opt (binInt .add t13 (.int .i64 1)) fun v16=>X0 [t0,t1,t2,t3,t4,v16] H9) (
 opt (nilCk t0) fun v17=>opt (addOff v17 0) fun v18=>opt (load1 v18 H9) fun v19=>opt (lenSlc v19) fun v20=>opt (binInt .eql t13 v20) fun v21=>ifB v21 (
 opt (nilCk t0) fun v22=>opt (addOff v22 0) fun v23=>opt (load1 v23 H9) fun v24=>opt (buildV [(0,1),(1,1),(2,1),(3,1),(4,1),(5,1),(6,1)] #[(.int .i64 0),(.slice none 0 0),(.slice none 0 0),(.int .i64 0),(.string ⟨#[]⟩),(.int .i64 0),(.int .i64 0)] []) fun v25=>mk (buildS 1 7 #[(.int .i64 0),(.slice none 0 0),(.slice none 0 0),(.int .i64 0),(.string ⟨#[]⟩),(.int .i64 0),(.int .i64 0)] [(0,v25)]) H9 fun v26 H10=>opt2 (app 7 96 v24 v26 H10) fun v27 H11=>opt (nilCk t0) fun v28=>opt (addOff v28 0) fun v29=>opt (store1 v29 v27 H11) fun H12=>F.f61_j1 E Q t0 t1 t2 t3 t4 t13 H12) (
 F.f61_j1 E Q t0 t1 t2 t3 t4 t13 H9))
def F.f61 (E:Sy) (x0 x1 x2 x3 x4:Value) (H:AH) (Q:VK):Prop :=
 E.call (E.fid i.f70) [x0,x1,x2] H fun v1 H1=>opt (binInt .neq v1 (.int .i64 0)) fun v2=>ifB v2 (
 Q (.tuple #[(.int .i64 0),v1]) H1) (
 opt (binInt .lss x3 (.int .i64 1)) fun v3=>gd v3 false (fun k=>k x3 H1) H1 fun v4 H2=>gd v3 false (fun k=>opt (binInt .gtr v4 (.int .i64 3)) fun v=>k v H2) H2 fun v5 H3=>opt (pick v3 (.bool true) v5) fun v6=>gd v6 false (fun k=>k x3 H3) H3 fun v7 H4=>gd v6 false (fun k=>opt (binInt .eql v7 (.int .i64 3)) fun v=>k v H4) H4 fun v8 H5=>gd v6 false (fun k=>k v8 H5) H5 fun v9 H6=>gd v9 true (fun k=>k x4 H6) H6 fun v10 H7=>gd v9 true (fun k=>opt (lenStr v10) fun v=>k v H7) H7 fun v11 H8=>gd v9 true (fun k=>opt (binInt .lss v11 (.int .i64 1)) fun v=>k v H8) H8 fun v12 H9=>gd v9 true (fun k=>k v12 H9) H9 fun v13 H10=>gd v13 false (fun k=>k x4 H10) H10 fun v14 H11=>gd v13 false (fun k=>opt (lenStr v14) fun v=>k v H11) H11 fun v15 H12=>gd v13 false (fun k=>opt (binInt .gtr v15 (.int .i64 120)) fun v=>k v H12) H12 fun v16 H13=>gd v9 true (fun k=>opt (pick v13 (.bool true) v16) fun v=>k v H13) H13 fun v17 H14=>gd v6 false (fun k=>opt (pick v9 v17 (.bool false)) fun v=>k v H14) H14 fun v18 H15=>opt (pick v6 (.bool true) v18) fun v19=>ifB v19 (
 Q (.tuple #[(.int .i64 0),(.int .i64 22)]) H15) (
 opt (nilCk x0) fun v20=>opt (addOff v20 1) fun v21=>opt (load1 v21 H15) fun v22=>E.call (E.fid i.f59) [x0] H15 fun v23 H16=>load1 v21 H16=load1 v21 H15 /\
 opt (binInt .geq v23 v22) fun v24=>gd v24 false (fun k=>k x3 H16) H16 fun v25 H17=>gd v24 false (fun k=>opt (binInt .eql v25 (.int .i64 2)) fun v=>k v H17) H17 fun v26 H18=>gd v24 false (fun k=>k v26 H18) H18 fun v27 H19=>gd v27 true (fun k=>k x0 H19) H19 fun v28 H20=>gd v27 true (fun k=>k x1 H20) H20 fun v29 H21=>gd v27 true (fun k=>E.call (E.fid i.f67) [v28,v29] H21 fun v h=>k v h) H21 fun v30 H22=>gd v27 true (fun k=>opt (binInt .geq v30 (.int .i64 16)) fun v=>k v H22) H22 fun v31 H23=>gd v24 false (fun k=>opt (pick v27 v31 (.bool false)) fun v=>k v H23) H23 fun v32 H24=>opt (pick v24 (.bool true) v32) fun v33=>ifB v33 (
 Q (.tuple #[(.int .i64 0),(.int .i64 28)]) H24) (
 LoopL (fun l H X0=>F.f61_l1 E Q (nth l 0) (nth l 1) (nth l 2) (nth l 3) (nth l 4) (nth l 5) H X0) [x0,x1,x2,x3,x4,(.int .i64 1)] H24)))

def F.f5 (E:Sy) (x0 x1 x2 x3:Value) (H:AH) (Q:VK):Prop :=
 E.call (E.fid i.f9) [x0,x3] H fun v1 H1=>E.call (E.fid i.f19) [x0,x1,x2] H1 fun v2 H2=>opt (ext v2 0) fun v3=>opt (ext v2 1) fun v4=>opt (binNil eqPtr .eql v1 (.pointer none)) fun v5=>ifB v5 (
 Q (.int .i64 2) H2) (
 opt (nilCk v1) fun v6=>opt (addOff v6 1) fun v7=>opt (load1 v7 H2) fun v8=>opt (binInt .eql v8 (.int .u8 2)) fun v9=>ifB v9 (
 Q (.int .i64 1) H2) (
 opt (binInt .neq v4 (.int .i64 0)) fun v10=>ifB v10 (
 Q v4 H2) (
 opt (nilCk v1) fun v11=>opt (addOff v11 6) fun v12=>opt (load1 v12 H2) fun v13=>opt (binInt .eql v13 (.int .i64 0)) fun v14=>ifB v14 (
 Q (.int .i64 2) H2) (
 opt (nilCk v1) fun v15=>opt (addOff v15 6) fun v16=>opt (load1 v16 H2) fun v17=>opt (binInt .geq v17 (.int .i64 256)) fun v18=>ifB v18 (
 Q (.int .i64 31) H2) (
 opt (nilCk v3) fun v19=>opt (addOff v19 3) fun v20=>opt (load1 v20 H2) fun v21=>opt (setMap 1 v21 x2 x3 H2) fun H3=>opt (nilCk v1) fun v22=>opt (addOff v22 6) fun v23=>opt (load1 v23 H3) fun v24=>opt (binInt .add v24 (.int .i64 1)) fun v25=>opt (nilCk v1) fun v26=>opt (addOff v26 6) fun v27=>opt (store1 v27 v25 H3) fun H4=>opt (nilCk x0) fun v28=>opt (addOff v28 2) fun v29=>E.call (E.fid i.f103) [v29,(.int .i64 1)] H4 fun v30 H5=>Q (.int .i64 0) H5)))))

def F.f54 (E:Sy) (x0 x1 x2 x3:Value) (H:AH) (Q:VK):Prop :=
 E.call (E.fid i.f63) [x0,x3] H fun v1 H1=>opt (nilCk v1) fun v2=>opt (addOff v2 0) fun v3=>opt (load1 v3 H1) fun v4=>opt (binInt .eql v4 (.int .i64 0)) fun v5=>ifB v5 (
 Q (.int .i64 2) H1) (
 opt (nilCk v1) fun v6=>opt (addOff v6 0) fun v7=>opt (load1 v7 H1) fun v8=>opt (binInt .eql v8 (.int .i64 2)) fun v9=>ifB v9 (
 Q (.int .i64 1) H1) (
 E.call (E.fid i.f70) [x0,x1,x2] H1 fun v10 H2=>opt (binInt .neq v10 (.int .i64 0)) fun v11=>ifB v11 (
 Q v10 H2) (
 opt (nilCk v1) fun v12=>opt (addOff v12 5) fun v13=>opt (load1 v13 H2) fun v14=>opt (binInt .eql v14 (.int .i64 0)) fun v15=>ifB v15 (
 Q (.int .i64 2) H2) (
 opt (nilCk v1) fun v16=>opt (addOff v16 5) fun v17=>opt (load1 v17 H2) fun v18=>opt (binInt .geq v18 (.int .i64 256)) fun v19=>ifB v19 (
 Q (.int .i64 31) H2) (
 opt (nilCk x0) fun v20=>opt (addOff v20 0) fun v21=>opt (load1 v21 H2) fun v22=>opt (nilCk x0) fun v23=>opt (addOff v23 0) fun v24=>opt (load1 v24 H2) fun v25=>opt (ixSlc 7 v25 x1) fun v26=>opt (addOff v26 2) fun v27=>opt (load1 v27 H2) fun v28=>opt (buildV [(0,1),(1,1)] #[(.string ⟨#[]⟩),(.int .i64 0)] [(0,x2),(1,x3)]) fun v29=>E.call (E.fid i.f74) [v28,v29] H2 fun v30 H3=>load1 v21 H3=load1 v21 H2 /\
 opt (ixSlc 7 v22 x1) fun v31=>opt (addOff v31 2) fun v32=>opt (store1 v32 v30 H3) fun H4=>opt (nilCk v1) fun v33=>opt (addOff v33 5) fun v34=>opt (load1 v34 H4) fun v35=>opt (binInt .add v35 (.int .i64 1)) fun v36=>opt (nilCk v1) fun v37=>opt (addOff v37 5) fun v38=>opt (store1 v38 v36 H4) fun H5=>opt (nilCk x0) fun v39=>opt (addOff v39 4) fun v40=>opt (load1 v40 H5) fun v41=>opt (binInt .add v41 (.int .i64 1)) fun v42=>opt (nilCk x0) fun v43=>opt (addOff v43 4) fun v44=>opt (store1 v44 v42 H5) fun H6=>Q (.int .i64 0) H6)))))

def F.f7 (E:Sy) (x0 x1 x2 x3:Value) (H:AH) (Q:VK):Prop :=
 E.call (E.fid i.f11) [x0,x1,x2] H fun v1 H1=>opt (ext v1 0) fun v2=>opt (ext v1 1) fun v3=>opt (binInt .neq v3 (.int .i64 0)) fun v4=>ifB v4 (
 Q v3 H1) (
 opt (nilCk x0) fun v5=>opt (addOff v5 0) fun v6=>opt (load1 v6 H1) fun v7=>opt (look 0 (.pointer none) false v7 v2 H1) fun v8=>gd x3 true (fun k=>k v8 H1) H1 fun v9 H2=>gd x3 true (fun k=>opt (nilCk v9) fun v=>k v H2) H2 fun v10 H3=>gd x3 true (fun k=>opt (addOff v10 1) fun v=>k v H3) H3 fun v11 H4=>gd x3 true (fun k=>opt (load1 v11 H4) fun v=>k v H4) H4 fun v12 H5=>gd x3 true (fun k=>opt (binInt .neq v12 (.int .u8 2)) fun v=>k v H5) H5 fun v13 H6=>opt (pick x3 v13 (.bool false)) fun v14=>ifB v14 (
 Q (.int .i64 20) H6) (
 opt (un .not x3) fun v15=>gd v15 true (fun k=>k v8 H6) H6 fun v16 H7=>gd v15 true (fun k=>opt (nilCk v16) fun v=>k v H7) H7 fun v17 H8=>gd v15 true (fun k=>opt (addOff v17 1) fun v=>k v H8) H8 fun v18 H9=>gd v15 true (fun k=>opt (load1 v18 H9) fun v=>k v H9) H9 fun v19 H10=>gd v15 true (fun k=>opt (binInt .eql v19 (.int .u8 2)) fun v=>k v H10) H10 fun v20 H11=>opt (pick v15 v20 (.bool false)) fun v21=>ifB v21 (
 Q (.int .i64 21) H11) (
 gd x3 true (fun k=>k v8 H11) H11 fun v22 H12=>gd x3 true (fun k=>opt (nilCk v22) fun v=>k v H12) H12 fun v23 H13=>gd x3 true (fun k=>opt (addOff v23 3) fun v=>k v H13) H13 fun v24 H14=>gd x3 true (fun k=>opt (load1 v24 H14) fun v=>k v H14) H14 fun v25 H15=>gd x3 true (fun k=>opt (lenMap v25 H15) fun v=>k v H15) H15 fun v26 H16=>gd x3 true (fun k=>opt (binInt .gtr v26 (.int .i64 0)) fun v=>k v H16) H16 fun v27 H17=>opt (pick x3 v27 (.bool false)) fun v28=>ifB v28 (
 Q (.int .i64 39) H17) (
 opt (nilCk x0) fun v29=>opt (addOff v29 0) fun v30=>opt (load1 v30 H17) fun v31=>opt (look 0 (.pointer none) false v31 x1 H17) fun v32=>opt (nilCk v32) fun v33=>opt (addOff v33 3) fun v34=>opt (load1 v34 H17) fun v35=>opt (delMap 1 v35 x2 H17) fun H18=>opt (nilCk v8) fun v36=>opt (addOff v36 6) fun v37=>opt (load1 v37 H18) fun v38=>opt (binInt .sub v38 (.int .i64 1)) fun v39=>opt (nilCk v8) fun v40=>opt (addOff v40 6) fun v41=>opt (store1 v41 v39 H18) fun H19=>opt (nilCk x0) fun v42=>opt (addOff v42 2) fun v43=>E.call (E.fid i.f103) [v43,(.int .i64 1)] H19 fun v44 H20=>E.call (E.fid i.f21) [x0,v2] H20 fun v45 H21=>Q (.int .i64 0) H21))))

def F.f57 (E:Sy) (x0 x1 x2 x3:Value) (H:AH) (Q:VK):Prop :=
 E.call (E.fid i.f60) [x0,x1,x2] H fun v1 H1=>opt (ext v1 0) fun v2=>opt (ext v1 1) fun v3=>opt (binInt .neq v3 (.int .i64 0)) fun v4=>ifB v4 (
 Q v3 H1) (
 E.call (E.fid i.f63) [x0,v2] H1 fun v5 H2=>gd x3 true (fun k=>k v5 H2) H2 fun v6 H3=>gd x3 true (fun k=>opt (nilCk v6) fun v=>k v H3) H3 fun v7 H4=>gd x3 true (fun k=>opt (addOff v7 0) fun v=>k v H4) H4 fun v8 H5=>gd x3 true (fun k=>opt (load1 v8 H5) fun v=>k v H5) H5 fun v9 H6=>gd x3 true (fun k=>opt (binInt .neq v9 (.int .i64 2)) fun v=>k v H6) H6 fun v10 H7=>opt (pick x3 v10 (.bool false)) fun v11=>ifB v11 (
 Q (.int .i64 20) H7) (
 opt (un .not x3) fun v12=>gd v12 true (fun k=>k v5 H7) H7 fun v13 H8=>gd v12 true (fun k=>opt (nilCk v13) fun v=>k v H8) H8 fun v14 H9=>gd v12 true (fun k=>opt (addOff v14 0) fun v=>k v H9) H9 fun v15 H10=>gd v12 true (fun k=>opt (load1 v15 H10) fun v=>k v H10) H10 fun v16 H11=>gd v12 true (fun k=>opt (binInt .eql v16 (.int .i64 2)) fun v=>k v H11) H11 fun v17 H12=>opt (pick v12 v17 (.bool false)) fun v18=>ifB v18 (
 Q (.int .i64 21) H12) (
 gd x3 true (fun k=>k v5 H12) H12 fun v19 H13=>gd x3 true (fun k=>opt (nilCk v19) fun v=>k v H13) H13 fun v20 H14=>gd x3 true (fun k=>opt (addOff v20 2) fun v=>k v H14) H14 fun v21 H15=>gd x3 true (fun k=>opt (load1 v21 H15) fun v=>k v H15) H15 fun v22 H16=>gd x3 true (fun k=>opt (lenSlc v22) fun v=>k v H16) H16 fun v23 H17=>gd x3 true (fun k=>opt (binInt .gtr v23 (.int .i64 0)) fun v=>k v H17) H17 fun v24 H18=>opt (pick x3 v24 (.bool false)) fun v25=>ifB v25 (
 Q (.int .i64 39) H18) (
 opt (nilCk x0) fun v26=>opt (addOff v26 0) fun v27=>opt (load1 v27 H18) fun v28=>opt (nilCk x0) fun v29=>opt (addOff v29 0) fun v30=>opt (load1 v30 H18) fun v31=>opt (ixSlc 7 v31 x1) fun v32=>opt (addOff v32 2) fun v33=>opt (load1 v33 H18) fun v34=>E.call (E.fid i.f63) [x0,x1] H18 fun v35 H19=>load1 v33 H19=load1 v33 H18 /\
 load1 v30 H19=load1 v30 H18 /\
 load1 v27 H19=load1 v27 H18 /\
 E.call (E.fid i.f73) [v35,x2] H19 fun v36 H20=>load1 v33 H20=load1 v33 H18 /\
 load1 v30 H20=load1 v30 H18 /\
 load1 v27 H20=load1 v27 H18 /\
 E.call (E.fid i.f75) [v34,v36] H20 fun v37 H21=>load1 v27 H21=load1 v27 H18 /\
 opt (ixSlc 7 v28 x1) fun v38=>opt (addOff v38 2) fun v39=>opt (store1 v39 v37 H21) fun H22=>opt (nilCk v5) fun v40=>opt (addOff v40 5) fun v41=>opt (load1 v41 H22) fun v42=>opt (binInt .sub v42 (.int .i64 1)) fun v43=>opt (nilCk v5) fun v44=>opt (addOff v44 5) fun v45=>opt (store1 v45 v43 H22) fun H23=>opt (nilCk x0) fun v46=>opt (addOff v46 4) fun v47=>opt (load1 v47 H23) fun v48=>opt (binInt .add v48 (.int .i64 1)) fun v49=>opt (nilCk x0) fun v50=>opt (addOff v50 4) fun v51=>opt (store1 v51 v49 H23) fun H24=>E.call (E.fid i.f72) [x0,v2] H24 fun v52 H25=>Q (.int .i64 0) H25))))

def F.f13_j2 (E:Sy) (Q:VK) (t0:Value) (H:AH):Prop :=
 opt (nilCk t0) fun v1=>opt (addOff v1 2) fun v2=>E.call (E.fid i.f103) [v2,(.int .i64 1)] H fun v3 H1=>Q (.int .i64 0) H1
def F.f13_j1 (E:Sy) (Q:VK) (t0 t1 t2 t3 t4 t11 t13 t14:Value) (H:AH):Prop :=
 opt (nilCk t0) fun v1=>opt (addOff v1 0) fun v2=>opt (load1 v2 H) fun v3=>opt (look 0 (.pointer none) false v3 t1 H) fun v4=>opt (nilCk v4) fun v5=>opt (addOff v5 3) fun v6=>opt (load1 v6 H) fun v7=>opt (delMap 1 v7 t2 H) fun H1=>opt (nilCk t13) fun v8=>opt (addOff v8 3) fun v9=>opt (load1 v9 H1) fun v10=>opt (setMap 1 v10 t4 t11 H1) fun H2=>opt (nilCk t14) fun v11=>opt (addOff v11 1) fun v12=>opt (load1 v12 H2) fun v13=>opt (binInt .eql v13 (.int .u8 2)) fun v14=>ifB v14 (
 opt (nilCk t14) fun v15=>opt (addOff v15 4) fun v16=>opt (store1 v16 t3 H2) fun H3=>F.f13_j2 E Q t0 H3) (
 F.f13_j2 E Q t0 H2)
def F.f13 (E:Sy) (x0 x1 x2 x3 x4:Value) (H:AH) (Q:VK):Prop :=
 E.call (E.fid i.f11) [x0,x1,x2] H fun v1 H1=>opt (ext v1 0) fun v2=>opt (ext v1 1) fun v3=>opt (binInt .neq v3 (.int .i64 0)) fun v4=>ifB v4 (
 Q v3 H1) (
 E.call (E.fid i.f17) [x0,x3] H1 fun v5 H2=>opt (ext v5 0) fun v6=>opt (ext v5 1) fun v7=>opt (binInt .neq v7 (.int .i64 0)) fun v8=>ifB v8 (
 Q v7 H2) (
 opt (nilCk x0) fun v9=>opt (addOff v9 0) fun v10=>opt (load1 v10 H2) fun v11=>opt (look 0 (.pointer none) false v11 v2 H2) fun v12=>opt (nilCk v6) fun v13=>opt (addOff v13 3) fun v14=>opt (load1 v14 H2) fun v15=>opt (look 1 (.int .u16 0) true v15 x4 H2) fun v16=>opt (ext v16 0) fun v17=>opt (ext v16 1) fun v18=>gd v18 true (fun k=>k v17 H2) H2 fun v19 H3=>gd v18 true (fun k=>k v2 H3) H3 fun v20 H4=>gd v18 true (fun k=>opt (binInt .eql v19 v20) fun v=>k v H4) H4 fun v21 H5=>opt (pick v18 v21 (.bool false)) fun v22=>ifB v22 (
 Q (.int .i64 0) H5) (
 opt (un .not v18) fun v23=>gd v23 true (fun k=>k x1 H5) H5 fun v24 H6=>gd v23 true (fun k=>k x3 H6) H6 fun v25 H7=>gd v23 true (fun k=>opt (binInt .neq v24 v25) fun v=>k v H7) H7 fun v26 H8=>opt (pick v23 v26 (.bool false)) fun v27=>gd v27 true (fun k=>k v6 H8) H8 fun v28 H9=>gd v27 true (fun k=>opt (nilCk v28) fun v=>k v H9) H9 fun v29 H10=>gd v27 true (fun k=>opt (addOff v29 3) fun v=>k v H10) H10 fun v30 H11=>gd v27 true (fun k=>opt (load1 v30 H11) fun v=>k v H11) H11 fun v31 H12=>gd v27 true (fun k=>opt (lenMap v31 H12) fun v=>k v H12) H12 fun v32 H13=>gd v27 true (fun k=>opt (binInt .geq v32 (.int .i64 32)) fun v=>k v H13) H13 fun v33 H14=>opt (pick v27 v33 (.bool false)) fun v34=>ifB v34 (
 Q (.int .i64 28) H14) (
 E.call (E.fid i.f18) [x0,v12,v6,x4,v18,v17] H14 fun v35 H15=>opt (binInt .neq v35 (.int .i64 0)) fun v36=>ifB v36 (
 Q v35 H15) (
 ifB v18 (
 opt (nilCk v12) fun v37=>opt (addOff v37 1) fun v38=>opt (load1 v38 H15) fun v39=>opt (binInt .eql v39 (.int .u8 2)) fun v40=>E.call (E.fid i.f7) [x0,x3,x4,v40] H15 fun v41 H16=>opt (binInt .neq v41 (.int .i64 0)) fun v42=>ifB v42 (
 Q v41 H16) (
 F.f13_j1 E Q x0 x1 x2 x3 x4 v2 v6 v12 H16)) (
 F.f13_j1 E Q x0 x1 x2 x3 x4 v2 v6 v12 H15))))))

def F.f62_j2 (E:Sy) (Q:VK) (t0:Value) (H:AH):Prop :=
 opt (nilCk t0) fun v1=>opt (addOff v1 4) fun v2=>opt (load1 v2 H) fun v3=>opt (binInt .add v3 (.int .i64 1)) fun v4=>opt (nilCk t0) fun v5=>opt (addOff v5 4) fun v6=>opt (store1 v6 v4 H) fun H1=>Q (.int .i64 0) H1
def F.f62_j1 (E:Sy) (Q:VK) (t0 t1 t2 t3 t4 t11 t15:Value) (H:AH):Prop :=
 opt (nilCk t0) fun v1=>opt (addOff v1 0) fun v2=>opt (load1 v2 H) fun v3=>opt (nilCk t0) fun v4=>opt (addOff v4 0) fun v5=>opt (load1 v5 H) fun v6=>opt (ixSlc 7 v6 t1) fun v7=>opt (addOff v7 2) fun v8=>opt (load1 v8 H) fun v9=>E.call (E.fid i.f63) [t0,t1] H fun v10 H1=>load1 v8 H1=load1 v8 H /\
 load1 v5 H1=load1 v5 H /\
 load1 v2 H1=load1 v2 H /\
 E.call (E.fid i.f73) [v10,t2] H1 fun v11 H2=>load1 v8 H2=load1 v8 H /\
 load1 v5 H2=load1 v5 H /\
 load1 v2 H2=load1 v2 H /\
 E.call (E.fid i.f75) [v9,v11] H2 fun v12 H3=>load1 v2 H3=load1 v2 H /\
 opt (ixSlc 7 v3 t1) fun v13=>opt (addOff v13 2) fun v14=>opt (store1 v14 v12 H3) fun H4=>opt (nilCk t0) fun v15=>opt (addOff v15 0) fun v16=>opt (load1 v16 H4) fun v17=>opt (nilCk t0) fun v18=>opt (addOff v18 0) fun v19=>opt (load1 v19 H4) fun v20=>opt (ixSlc 7 v20 t3) fun v21=>opt (addOff v21 2) fun v22=>opt (load1 v22 H4) fun v23=>opt (buildV [(0,1),(1,1)] #[(.string ⟨#[]⟩),(.int .i64 0)] [(0,t4),(1,t11)]) fun v24=>E.call (E.fid i.f74) [v23,v24] H4 fun v25 H5=>load1 v16 H5=load1 v16 H4 /\
 opt (ixSlc 7 v17 t3) fun v26=>opt (addOff v26 2) fun v27=>opt (store1 v27 v25 H5) fun H6=>ifB t15 (
 opt (nilCk t0) fun v28=>opt (addOff v28 0) fun v29=>opt (load1 v29 H6) fun v30=>opt (ixSlc 7 v30 t11) fun v31=>opt (addOff v31 3) fun v32=>opt (store1 v32 t3 H6) fun H7=>F.f62_j2 E Q t0 H7) (
 F.f62_j2 E Q t0 H6)
def F.f62 (E:Sy) (x0 x1 x2 x3 x4:Value) (H:AH) (Q:VK):Prop :=
 E.call (E.fid i.f60) [x0,x1,x2] H fun v1 H1=>opt (ext v1 0) fun v2=>opt (ext v1 1) fun v3=>opt (binInt .neq v3 (.int .i64 0)) fun v4=>ifB v4 (
 Q v3 H1) (
 E.call (E.fid i.f68) [x0,x3] H1 fun v5 H2=>opt (binInt .neq v5 (.int .i64 0)) fun v6=>ifB v6 (
 Q v5 H2) (
 E.call (E.fid i.f63) [x0,x3] H2 fun v7 H3=>E.call (E.fid i.f73) [v7,x4] H3 fun v8 H4=>opt (binInt .geq v8 (.int .i64 0)) fun v9=>gd v9 true (fun k=>k x0 H4) H4 fun v10 H5=>gd v9 true (fun k=>k x3 H5) H5 fun v11 H6=>gd v9 true (fun k=>E.call (E.fid i.f63) [v10,v11] H6 fun v h=>k v h) H6 fun v12 H7=>gd v9 true (fun k=>opt (nilCk v12) fun v=>k v H7) H7 fun v13 H8=>gd v9 true (fun k=>opt (addOff v13 2) fun v=>k v H8) H8 fun v14 H9=>gd v9 true (fun k=>opt (load1 v14 H9) fun v=>k v H9) H9 fun v15 H10=>gd v9 true (fun k=>k v8 H10) H10 fun v16 H11=>gd v9 true (fun k=>opt (ixSlc 2 v15 v16) fun v=>k v H11) H11 fun v17 H12=>gd v9 true (fun k=>opt (addOff v17 1) fun v=>k v H12) H12 fun v18 H13=>gd v9 true (fun k=>opt (load1 v18 H13) fun v=>k v H13) H13 fun v19 H14=>gd v9 true (fun k=>k v2 H14) H14 fun v20 H15=>gd v9 true (fun k=>opt (binInt .eql v19 v20) fun v=>k v H15) H15 fun v21 H16=>opt (pick v9 v21 (.bool false)) fun v22=>ifB v22 (
 Q (.int .i64 0) H16) (
 opt (binInt .lss v8 (.int .i64 0)) fun v23=>gd v23 true (fun k=>k x1 H16) H16 fun v24 H17=>gd v23 true (fun k=>k x3 H17) H17 fun v25 H18=>gd v23 true (fun k=>opt (binInt .neq v24 v25) fun v=>k v H18) H18 fun v26 H19=>opt (pick v23 v26 (.bool false)) fun v27=>gd v27 true (fun k=>k x0 H19) H19 fun v28 H20=>gd v27 true (fun k=>k x3 H20) H20 fun v29 H21=>gd v27 true (fun k=>E.call (E.fid i.f63) [v28,v29] H21 fun v h=>k v h) H21 fun v30 H22=>gd v27 true (fun k=>opt (nilCk v30) fun v=>k v H22) H22 fun v31 H23=>gd v27 true (fun k=>opt (addOff v31 2) fun v=>k v H23) H23 fun v32 H24=>gd v27 true (fun k=>opt (load1 v32 H24) fun v=>k v H24) H24 fun v33 H25=>gd v27 true (fun k=>opt (lenSlc v33) fun v=>k v H25) H25 fun v34 H26=>gd v27 true (fun k=>opt (binInt .geq v34 (.int .i64 32)) fun v=>k v H26) H26 fun v35 H27=>opt (pick v27 v35 (.bool false)) fun v36=>ifB v36 (
 Q (.int .i64 28) H27) (
 E.call (E.fid i.f52) [x4] H27 fun v37 H28=>opt (un .not v37) fun v38=>ifB v38 (
 Q (.int .i64 22) H28) (
 E.call (E.fid i.f63) [x0,x3] H28 fun v39 H29=>opt (nilCk v39) fun v40=>opt (addOff v40 5) fun v41=>opt (load1 v41 H29) fun v42=>opt (binInt .eql v42 (.int .i64 0)) fun v43=>ifB v43 (
 Q (.int .i64 2) H29) (
 E.call (E.fid i.f63) [x0,v2] H29 fun v44 H30=>opt (nilCk v44) fun v45=>opt (addOff v45 0) fun v46=>opt (load1 v46 H30) fun v47=>opt (binInt .eql v47 (.int .i64 2)) fun v48=>gd v48 true (fun k=>k x0 H30) H30 fun v49 H31=>gd v48 true (fun k=>k x3 H31) H31 fun v50 H32=>gd v48 true (fun k=>k v2 H32) H32 fun v51 H33=>gd v48 true (fun k=>E.call (E.fid i.f65) [v49,v50,v51] H33 fun v h=>k v h) H33 fun v52 H34=>opt (pick v48 v52 (.bool false)) fun v53=>ifB v53 (
 Q (.int .i64 22) H34) (
 gd v48 true (fun k=>k x0 H34) H34 fun v54 H35=>gd v48 true (fun k=>k x3 H35) H35 fun v55 H36=>gd v48 true (fun k=>E.call (E.fid i.f67) [v54,v55] H36 fun v h=>k v h) H36 fun v56 H37=>gd v48 true (fun k=>k x0 H37) H37 fun v57 H38=>gd v48 true (fun k=>k v2 H38) H38 fun v58 H39=>gd v48 true (fun k=>E.call (E.fid i.f71) [v57,v58] H39 fun v h=>k v h) H39 fun v59 H40=>gd v48 true (fun k=>opt (binInt .add v56 v59) fun v=>k v H40) H40 fun v60 H41=>gd v48 true (fun k=>opt (binInt .gtr v60 (.int .i64 16)) fun v=>k v H41) H41 fun v61 H42=>opt (pick v48 v61 (.bool false)) fun v62=>ifB v62 (
 Q (.int .i64 28) H42) (
 opt (binInt .geq v8 (.int .i64 0)) fun v63=>ifB v63 (
 E.call (E.fid i.f63) [x0,x3] H42 fun v64 H43=>opt (nilCk v64) fun v65=>opt (addOff v65 2) fun v66=>opt (load1 v66 H43) fun v67=>opt (ixSlc 2 v67 v8) fun v68=>opt (addOff v68 1) fun v69=>opt (load1 v69 H43) fun v70=>E.call (E.fid i.f63) [x0,v70] H43 fun v71 H44=>gd v48 true (fun k=>k v71 H44) H44 fun v72 H45=>gd v48 true (fun k=>opt (nilCk v72) fun v=>k v H45) H45 fun v73 H46=>gd v48 true (fun k=>opt (addOff v73 0) fun v=>k v H46) H46 fun v74 H47=>gd v48 true (fun k=>opt (load1 v74 H47) fun v=>k v H47) H47 fun v75 H48=>gd v48 true (fun k=>opt (binInt .neq v75 (.int .i64 2)) fun v=>k v H48) H48 fun v76 H49=>opt (pick v48 v76 (.bool false)) fun v77=>ifB v77 (
 Q (.int .i64 20) H49) (
 opt (un .not v48) fun v78=>gd v78 true (fun k=>k v71 H49) H49 fun v79 H50=>gd v78 true (fun k=>opt (nilCk v79) fun v=>k v H50) H50 fun v80 H51=>gd v78 true (fun k=>opt (addOff v80 0) fun v=>k v H51) H51 fun v81 H52=>gd v78 true (fun k=>opt (load1 v81 H52) fun v=>k v H52) H52 fun v82 H53=>gd v78 true (fun k=>opt (binInt .eql v82 (.int .i64 2)) fun v=>k v H53) H53 fun v83 H54=>opt (pick v78 v83 (.bool false)) fun v84=>ifB v84 (
 Q (.int .i64 21) H54) (
 gd v48 true (fun k=>k v71 H54) H54 fun v85 H55=>gd v48 true (fun k=>opt (nilCk v85) fun v=>k v H55) H55 fun v86 H56=>gd v48 true (fun k=>opt (addOff v86 2) fun v=>k v H56) H56 fun v87 H57=>gd v48 true (fun k=>opt (load1 v87 H57) fun v=>k v H57) H57 fun v88 H58=>gd v48 true (fun k=>opt (lenSlc v88) fun v=>k v H58) H58 fun v89 H59=>gd v48 true (fun k=>opt (binInt .gtr v89 (.int .i64 0)) fun v=>k v H59) H59 fun v90 H60=>opt (pick v48 v90 (.bool false)) fun v91=>ifB v91 (
 Q (.int .i64 39) H60) (
 E.call (E.fid i.f57) [x0,x3,x4,v48] H60 fun v92 H61=>F.f62_j1 E Q x0 x1 x2 x3 x4 v2 v48 H61)))) (
 F.f62_j1 E Q x0 x1 x2 x3 x4 v2 v48 H42)))))))))

def F.f15 (E:Sy) (x0 x1 x2 x3:Value) (H:AH) (Q:VK):Prop :=
 E.call (E.fid i.f9) [x0,x1] H fun v1 H1=>opt (binNil eqPtr .eql v1 (.pointer none)) fun v2=>ifB v2 (
 Q (.int .i64 2) H1) (
 opt (nilCk v1) fun v3=>opt (addOff v3 1) fun v4=>opt (load1 v4 H1) fun v5=>opt (binInt .eql v5 (.int .u8 2)) fun v6=>ifB v6 (
 Q (.int .i64 21) H1) (
 opt (nilCk v1) fun v7=>opt (addOff v7 1) fun v8=>opt (load1 v8 H1) fun v9=>opt (binInt .neq v9 (.int .u8 1)) fun v10=>gd v10 false (fun k=>k x2 H1) H1 fun v11 H2=>gd v10 false (fun k=>opt (binInt .lss v11 (.int .i64 0)) fun v=>k v H2) H2 fun v12 H3=>opt (pick v10 (.bool true) v12) fun v13=>ifB v13 (
 Q (.int .i64 22) H3) (
 opt (binInt .gtr x2 (.int .i64 1024)) fun v14=>gd v14 false (fun k=>k x3 H3) H3 fun v15 H4=>gd v14 false (fun k=>opt (lenSlc v15) fun v=>k v H4) H4 fun v16 H5=>gd v14 false (fun k=>k x2 H5) H5 fun v17 H6=>gd v14 false (fun k=>opt (binInt .sub (.int .i64 1024) v17) fun v=>k v H6) H6 fun v18 H7=>gd v14 false (fun k=>opt (binInt .gtr v16 v18) fun v=>k v H7) H7 fun v19 H8=>opt (pick v14 (.bool true) v19) fun v20=>ifB v20 (
 Q (.int .i64 27) H8) (
 opt (nilCk v1) fun v21=>opt (addOff v21 2) fun v22=>opt (load1 v22 H8) fun v23=>opt (lenSlc v23) fun v24=>opt (lenSlc x3) fun v25=>opt (binInt .add x2 v25) fun v26=>opt (fold2 max2 [v24,v26]) fun v27=>mk (makeS 1 1 #[(.int .u8 0)] v27 v27) H8 fun v28 H9=>opt (nilCk v1) fun v29=>opt (addOff v29 2) fun v30=>opt (load1 v30 H9) fun v31=>opt2 (copyM 1 v28 v31 H9) fun v32 H10=>opt (slSlc 1 v28 (some x2) none none H10) fun v33=>opt2 (copyM 1 v33 x3 H10) fun v34 H11=>opt (nilCk v1) fun v35=>opt (addOff v35 2) fun v36=>opt (store1 v36 v28 H11) fun H12=>opt (nilCk x0) fun v37=>opt (addOff v37 2) fun v38=>E.call (E.fid i.f103) [v38,(.int .i64 1)] H12 fun v39 H13=>Q (.int .i64 0) H13))))

def F.f66_l2 (E:Sy) (Q:VK) (t0 t2 t3 t9 t10 t11:Value) (H:AH) (X0:LK):Prop :=
 opt (lenSlc t3) fun v1=>opt (binInt .lss t11 v1) fun v2=>ifB v2 (
 opt (binInt .add t2 t11) fun v3=>opt (ixSlc 1 t3 t11) fun v4=>opt (load1 v4 H) fun v5=>opt (ixSlc 1 t10 v3) fun v6=>opt (store1 v6 v5 H) fun H1=>opt (binInt .add t11 (.int .i64 1)) fun v7=>X0 [t0,t2,t3,t9,t10,v7] H1) (
 opt (nilCk t9) fun v8=>opt (addOff v8 1) fun v9=>opt (store1 v9 t10 H) fun H2=>opt (nilCk t0) fun v10=>opt (addOff v10 4) fun v11=>opt (load1 v11 H2) fun v12=>opt (binInt .add v12 (.int .i64 1)) fun v13=>opt (nilCk t0) fun v14=>opt (addOff v14 4) fun v15=>opt (store1 v15 v13 H2) fun H3=>Q (.int .i64 0) H3)
def F.f66_l1 (E:Sy) (Q:VK) (t0 t2 t3 t9 t10:Value) (H:AH) (X0:LK):Prop :=
 opt (lenSlc t10) fun v1=>opt (lenSlc t3) fun v2=>opt (binInt .add t2 v2) fun v3=>opt (binInt .lss v1 v3) fun v4=>ifB v4 (
 mk (buildS 1 1 #[(.int .u8 0)] [(0,(.int .u8 0))]) H fun v5 H1=>opt2 (app 1 1 t10 v5 H1) fun v6 H2=>X0 [t0,t2,t3,t9,v6] H2) (
 LoopL (fun l H X0=>F.f66_l2 E Q (nth l 0) (nth l 1) (nth l 2) (nth l 3) (nth l 4) (nth l 5) H X0) [t0,t2,t3,t9,t10,(.int .i64 0)] H)
def F.f66 (E:Sy) (x0 x1 x2 x3:Value) (H:AH) (Q:VK):Prop :=
 E.call (E.fid i.f63) [x0,x1] H fun v1 H1=>opt (nilCk v1) fun v2=>opt (addOff v2 0) fun v3=>opt (load1 v3 H1) fun v4=>opt (binInt .eql v4 (.int .i64 0)) fun v5=>ifB v5 (
 Q (.int .i64 2) H1) (
 opt (nilCk v1) fun v6=>opt (addOff v6 0) fun v7=>opt (load1 v7 H1) fun v8=>opt (binInt .eql v8 (.int .i64 2)) fun v9=>ifB v9 (
 Q (.int .i64 21) H1) (
 opt (nilCk v1) fun v10=>opt (addOff v10 0) fun v11=>opt (load1 v11 H1) fun v12=>opt (binInt .neq v12 (.int .i64 1)) fun v13=>gd v13 false (fun k=>k x2 H1) H1 fun v14 H2=>gd v13 false (fun k=>opt (binInt .lss v14 (.int .i64 0)) fun v=>k v H2) H2 fun v15 H3=>opt (pick v13 (.bool true) v15) fun v16=>ifB v16 (
 Q (.int .i64 22) H3) (
 opt (binInt .gtr x2 (.int .i64 1024)) fun v17=>gd v17 false (fun k=>k x2 H3) H3 fun v18 H4=>gd v17 false (fun k=>k x3 H4) H4 fun v19 H5=>gd v17 false (fun k=>opt (lenSlc v19) fun v=>k v H5) H5 fun v20 H6=>gd v17 false (fun k=>opt (binInt .add v18 v20) fun v=>k v H6) H6 fun v21 H7=>gd v17 false (fun k=>opt (binInt .gtr v21 (.int .i64 1024)) fun v=>k v H7) H7 fun v22 H8=>opt (pick v17 (.bool true) v22) fun v23=>ifB v23 (
 Q (.int .i64 27) H8) (
 mk (buildS 0 1 #[(.int .u8 0)] []) H8 fun v24 H9=>opt (nilCk v1) fun v25=>opt (addOff v25 1) fun v26=>opt (load1 v26 H9) fun v27=>opt2 (app 1 1 v24 v27 H9) fun v28 H10=>LoopL (fun l H X0=>F.f66_l1 E Q (nth l 0) (nth l 1) (nth l 2) (nth l 3) (nth l 4) H X0) [x0,x2,x3,v1,v28] H10))))

def F.f6 (E:Sy) (x0 x1 x2:Value) (H:AH) (Q:VK):Prop :=
 E.call (E.fid i.f9) [x0,x1] H fun v1 H1=>opt (binNil eqPtr .eql v1 (.pointer none)) fun v2=>ifB v2 (
 Q (.int .i64 2) H1) (
 opt (nilCk v1) fun v3=>opt (addOff v3 1) fun v4=>opt (load1 v4 H1) fun v5=>opt (binInt .eql v5 (.int .u8 2)) fun v6=>ifB v6 (
 Q (.int .i64 21) H1) (
 opt (nilCk v1) fun v7=>opt (addOff v7 1) fun v8=>opt (load1 v8 H1) fun v9=>opt (binInt .neq v9 (.int .u8 1)) fun v10=>gd v10 false (fun k=>k x2 H1) H1 fun v11 H2=>gd v10 false (fun k=>opt (binInt .lss v11 (.int .i64 0)) fun v=>k v H2) H2 fun v12 H3=>opt (pick v10 (.bool true) v12) fun v13=>ifB v13 (
 Q (.int .i64 22) H3) (
 opt (binInt .gtr x2 (.int .i64 1024)) fun v14=>ifB v14 (
 Q (.int .i64 27) H3) (
 mk (makeS 1 1 #[(.int .u8 0)] x2 x2) H3 fun v15 H4=>opt (nilCk v1) fun v16=>opt (addOff v16 2) fun v17=>opt (load1 v17 H4) fun v18=>opt2 (copyM 1 v15 v18 H4) fun v19 H5=>opt (nilCk v1) fun v20=>opt (addOff v20 2) fun v21=>opt (store1 v21 v15 H5) fun H6=>opt (nilCk x0) fun v22=>opt (addOff v22 2) fun v23=>E.call (E.fid i.f103) [v23,(.int .i64 1)] H6 fun v24 H7=>Q (.int .i64 0) H7))))

def F.f56_l1 (E:Sy) (Q:VK) (t0 t2 t7 t8:Value) (H:AH) (X0:LK):Prop :=
 opt (lenSlc t8) fun v1=>opt (binInt .lss v1 t2) fun v2=>ifB v2 (
 mk (buildS 1 1 #[(.int .u8 0)] [(0,(.int .u8 0))]) H fun v3 H1=>opt2 (app 1 1 t8 v3 H1) fun v4 H2=>X0 [t0,t2,t7,v4] H2) (
 opt (slSlc 1 t8 none (some t2) none H) fun v5=>opt (nilCk t7) fun v6=>opt (addOff v6 1) fun v7=>opt (store1 v7 v5 H) fun H3=>opt (nilCk t0) fun v8=>opt (addOff v8 4) fun v9=>opt (load1 v9 H3) fun v10=>opt (binInt .add v10 (.int .i64 1)) fun v11=>opt (nilCk t0) fun v12=>opt (addOff v12 4) fun v13=>opt (store1 v13 v11 H3) fun H4=>Q (.int .i64 0) H4)
def F.f56 (E:Sy) (x0 x1 x2:Value) (H:AH) (Q:VK):Prop :=
 E.call (E.fid i.f63) [x0,x1] H fun v1 H1=>opt (nilCk v1) fun v2=>opt (addOff v2 0) fun v3=>opt (load1 v3 H1) fun v4=>opt (binInt .eql v4 (.int .i64 0)) fun v5=>ifB v5 (
 Q (.int .i64 2) H1) (
 opt (nilCk v1) fun v6=>opt (addOff v6 0) fun v7=>opt (load1 v7 H1) fun v8=>opt (binInt .eql v8 (.int .i64 2)) fun v9=>ifB v9 (
 Q (.int .i64 21) H1) (
 opt (nilCk v1) fun v10=>opt (addOff v10 0) fun v11=>opt (load1 v11 H1) fun v12=>opt (binInt .neq v12 (.int .i64 1)) fun v13=>gd v13 false (fun k=>k x2 H1) H1 fun v14 H2=>gd v13 false (fun k=>opt (binInt .lss v14 (.int .i64 0)) fun v=>k v H2) H2 fun v15 H3=>opt (pick v13 (.bool true) v15) fun v16=>ifB v16 (
 Q (.int .i64 22) H3) (
 opt (binInt .gtr x2 (.int .i64 1024)) fun v17=>ifB v17 (
 Q (.int .i64 27) H3) (
 mk (buildS 0 1 #[(.int .u8 0)] []) H3 fun v18 H4=>opt (nilCk v1) fun v19=>opt (addOff v19 1) fun v20=>opt (load1 v20 H4) fun v21=>opt2 (app 1 1 v18 v21 H4) fun v22 H5=>LoopL (fun l H X0=>F.f56_l1 E Q (nth l 0) (nth l 1) (nth l 2) (nth l 3) H X0) [x0,x2,v1,v22] H5))))

def F.f60 (E:Sy) (x0 x1 x2:Value) (H:AH) (Q:VK):Prop :=
 E.call (E.fid i.f68) [x0,x1] H fun v1 H1=>opt (binInt .neq v1 (.int .i64 0)) fun v2=>ifB v2 (
 Q (.tuple #[(.int .i64 0),v1]) H1) (
 E.call (E.fid i.f63) [x0,x1] H1 fun v3 H2=>E.call (E.fid i.f73) [v3,x2] H2 fun v4 H3=>opt (binInt .lss v4 (.int .i64 0)) fun v5=>ifB v5 (
 Q (.tuple #[(.int .i64 0),(.int .i64 2)]) H3) (
 opt (nilCk v3) fun v6=>opt (addOff v6 2) fun v7=>opt (load1 v7 H3) fun v8=>opt (ixSlc 2 v8 v4) fun v9=>opt (addOff v9 1) fun v10=>opt (load1 v10 H3) fun v11=>Q (.tuple #[v11,(.int .i64 0)]) H3))

def F.f39 (E:Sy) (x0 x1:Value) (H:AH) (Q:VK):Prop :=
 mk (boxO x1) H fun v1 H1=>opt (binNil eqPtr .eql x0 (.pointer none)) fun v2=>ifB v2 (
 Q (.int .i64 (-1)) H1) (
 opt (nilCk x0) fun v3=>opt (addOff v3 0) fun v4=>opt (load1 v4 H1) fun v5=>opt (some (.func (.func (E.fid i.f40)) #[] #[v1])) fun v6=>E.call (E.fid i.f76) [v5,v6] H1 fun v7 H2=>Q v7 H2)

def F.f69_l1 (E:Sy) (Q:VK) (t0 t1 t5:Value) (H:AH) (X0:LK):Prop :=
 opt (nilCk t0) fun v1=>opt (addOff v1 2) fun v2=>opt (load1 v2 H) fun v3=>opt (lenSlc v3) fun v4=>opt (binInt .lss t5 v4) fun v5=>ifB v5 (
 opt (nilCk t0) fun v6=>opt (addOff v6 2) fun v7=>opt (load1 v7 H) fun v8=>opt (ixSlc 5 v8 t5) fun v9=>opt (addOff v9 0) fun v10=>opt (load1 v10 H) fun v11=>opt (binInt .eql v11 t1) fun v12=>ifB v12 (
 Q t5 H) (
 opt (binInt .add t5 (.int .i64 1)) fun v13=>X0 [t0,t1,v13] H)) (
 Q (.int .i64 (-1)) H)
def F.f69 (E:Sy) (x0 x1:Value) (H:AH) (Q:VK):Prop :=
 LoopL (fun l H X0=>F.f69_l1 E Q (nth l 0) (nth l 1) (nth l 2) H X0) [x0,x1,(.int .i64 0)] H

def F.f64_l2 (E:Sy) (Q:VK) (X0:LK) (t0 t3 t4 t5 t6 t7:Value) (H:AH) (X1:LK):Prop :=
 opt (nilCk t0) fun v1=>opt (addOff v1 2) fun v2=>opt (load1 v2 H) fun v3=>opt (lenSlc v3) fun v4=>opt (binInt .lss t7 v4) fun v5=>ifB v5 (
 opt (nilCk t0) fun v6=>opt (addOff v6 2) fun v7=>opt (load1 v7 H) fun v8=>opt (ixSlc 5 v8 t7) fun v9=>opt (addOff v9 0) fun v10=>opt (load1 v10 H) fun v11=>opt (binInt .neq v11 (.int .i64 0)) fun v12=>gd v12 true (fun k=>k t0 H) H fun v13 H1=>gd v12 true (fun k=>opt (nilCk v13) fun v=>k v H1) H1 fun v14 H2=>gd v12 true (fun k=>opt (addOff v14 2) fun v=>k v H2) H2 fun v15 H3=>gd v12 true (fun k=>opt (load1 v15 H3) fun v=>k v H3) H3 fun v16 H4=>gd v12 true (fun k=>k t7 H4) H4 fun v17 H5=>gd v12 true (fun k=>opt (ixSlc 5 v16 v17) fun v=>k v H5) H5 fun v18 H6=>gd v12 true (fun k=>opt (addOff v18 2) fun v=>k v H6) H6 fun v19 H7=>gd v12 true (fun k=>opt (loadN 2 v19 H7) fun v=>k v H7) H7 fun v20 H8=>gd v12 true (fun k=>opt (loadN 2 t3 H8) fun v=>k v H8) H8 fun v21 H9=>gd v12 true (fun k=>opt (binAgg [0,0] .eql v20 v21) fun v=>k v H9) H9 fun v22 H10=>opt (pick v12 v22 (.bool false)) fun v23=>ifB v23 (
 opt (binInt .add t7 (.int .i64 1)) fun v24=>X1 [t0,t3,t4,t5,t7,v24] H10) (
 opt (binInt .add t7 (.int .i64 1)) fun v25=>X1 [t0,t3,t4,t5,t6,v25] H10)) (
 opt (binInt .lss t6 (.int .i64 0)) fun v26=>ifB v26 (
 opt (loadN 2 t3 H) fun v27=>opt (storeN 2 t4 v27 H) fun H11=>opt (loadN 2 t4 H11) fun v28=>Q v28 H11) (
 opt (nilCk t0) fun v29=>opt (addOff v29 2) fun v30=>opt (load1 v30 H) fun v31=>opt (ixSlc 5 v31 t6) fun v32=>opt (addOff v32 0) fun v33=>opt (load1 v33 H) fun v34=>opt (nilCk t0) fun v35=>opt (addOff v35 2) fun v36=>opt (load1 v36 H) fun v37=>opt (ixSlc 5 v37 t6) fun v38=>opt (addOff v38 1) fun v39=>opt (load1 v39 H) fun v40=>opt (buildV [(0,1),(1,1)] #[(.int .i64 0),(.int .i64 0)] [(0,v34),(1,v40)]) fun v41=>opt (storeN 2 t3 v41 H) fun H12=>opt (binInt .add t5 (.int .i64 1)) fun v42=>X0 [t0,t3,t4,v42] H12))
def F.f64_l1 (E:Sy) (Q:VK) (t0 t3 t4 t5:Value) (H:AH) (X0:LK):Prop :=
 opt (binInt .lss t5 (.int .i64 20)) fun v1=>ifB v1 (
 LoopL (fun l H X1=>F.f64_l2 E Q X0 (nth l 0) (nth l 1) (nth l 2) (nth l 3) (nth l 4) (nth l 5) H X1) [t0,t3,t4,t5,(.int .i64 (-1)),(.int .i64 0)] H) (
 opt (loadN 2 t3 H) fun v2=>opt (storeN 2 t4 v2 H) fun H1=>opt (loadN 2 t4 H1) fun v3=>Q v3 H1)
def F.f64 (E:Sy) (x0 x1:Value) (H:AH) (Q:VK):Prop :=
 mk (boxO x1) H fun v1 H1=>allocW [(.int .i64 0),(.int .i64 0)] H1 fun v2 H2=>LoopL (fun l H X0=>F.f64_l1 E Q (nth l 0) (nth l 1) (nth l 2) (nth l 3) H X0) [x0,v1,v2,(.int .i64 0)] H2

def F.f21 (E:Sy) (x0 x1:Value) (H:AH) (Q:VK):Prop :=
 opt (nilCk x0) fun v1=>opt (addOff v1 0) fun v2=>opt (load1 v2 H) fun v3=>opt (look 0 (.pointer none) false v3 x1 H) fun v4=>opt (binNil eqPtr .neq v4 (.pointer none)) fun v5=>gd v5 true (fun k=>k v4 H) H fun v6 H1=>gd v5 true (fun k=>opt (nilCk v6) fun v=>k v H1) H1 fun v7 H2=>gd v5 true (fun k=>opt (addOff v7 6) fun v=>k v H2) H2 fun v8 H3=>gd v5 true (fun k=>opt (load1 v8 H3) fun v=>k v H3) H3 fun v9 H4=>gd v5 true (fun k=>opt (binInt .eql v9 (.int .i64 0)) fun v=>k v H4) H4 fun v10 H5=>opt (pick v5 v10 (.bool false)) fun v11=>gd v11 true (fun k=>k v4 H5) H5 fun v12 H6=>gd v11 true (fun k=>opt (nilCk v12) fun v=>k v H6) H6 fun v13 H7=>gd v11 true (fun k=>opt (addOff v13 7) fun v=>k v H7) H7 fun v14 H8=>gd v11 true (fun k=>opt (load1 v14 H8) fun v=>k v H8) H8 fun v15 H9=>gd v11 true (fun k=>opt (binInt .eql v15 (.int .i64 0)) fun v=>k v H9) H9 fun v16 H10=>opt (pick v11 v16 (.bool false)) fun v17=>ifB v17 (
 opt (nilCk x0) fun v18=>opt (addOff v18 0) fun v19=>opt (load1 v19 H10) fun v20=>opt (delMap 0 v20 x1 H10) fun H11=>Q (.tuple #[]) H11) (
 Q (.tuple #[]) H10)

def F.f63 (E:Sy) (x0 x1:Value) (H:AH) (Q:VK):Prop :=
 opt (binInt .lss x1 (.int .i64 0)) fun v1=>gd v1 false (fun k=>k x1 H) H fun v2 H1=>gd v1 false (fun k=>k x0 H1) H1 fun v3 H2=>gd v1 false (fun k=>opt (nilCk v3) fun v=>k v H2) H2 fun v4 H3=>gd v1 false (fun k=>opt (addOff v4 0) fun v=>k v H3) H3 fun v5 H4=>gd v1 false (fun k=>opt (load1 v5 H4) fun v=>k v H4) H4 fun v6 H5=>gd v1 false (fun k=>opt (lenSlc v6) fun v=>k v H5) H5 fun v7 H6=>gd v1 false (fun k=>opt (binInt .geq v2 v7) fun v=>k v H6) H6 fun v8 H7=>opt (pick v1 (.bool true) v8) fun v9=>ifB v9 (
 opt (buildV [(0,1),(1,1),(2,1),(3,1),(4,1),(5,1),(6,1)] #[(.int .i64 0),(.slice none 0 0),(.slice none 0 0),(.int .i64 0),(.string ⟨#[]⟩),(.int .i64 0),(.int .i64 0)] []) fun v10=>mk (boxO v10) H7 fun v11 H8=>Q v11 H8) (
 opt (nilCk x0) fun v12=>opt (addOff v12 0) fun v13=>opt (load1 v13 H7) fun v14=>opt (ixSlc 7 v14 x1) fun v15=>Q v15 H7)

def F.f72 (E:Sy) (x0 x1:Value) (H:AH) (Q:VK):Prop :=
 opt (nilCk x0) fun v1=>opt (addOff v1 0) fun v2=>opt (load1 v2 H) fun v3=>opt (ixSlc 7 v3 x1) fun v4=>opt (addOff v4 5) fun v5=>opt (load1 v5 H) fun v6=>opt (binInt .eql v6 (.int .i64 0)) fun v7=>gd v7 true (fun k=>k x0 H) H fun v8 H1=>gd v7 true (fun k=>opt (nilCk v8) fun v=>k v H1) H1 fun v9 H2=>gd v7 true (fun k=>opt (addOff v9 0) fun v=>k v H2) H2 fun v10 H3=>gd v7 true (fun k=>opt (load1 v10 H3) fun v=>k v H3) H3 fun v11 H4=>gd v7 true (fun k=>k x1 H4) H4 fun v12 H5=>gd v7 true (fun k=>opt (ixSlc 7 v11 v12) fun v=>k v H5) H5 fun v13 H6=>gd v7 true (fun k=>opt (addOff v13 6) fun v=>k v H6) H6 fun v14 H7=>gd v7 true (fun k=>opt (load1 v14 H7) fun v=>k v H7) H7 fun v15 H8=>gd v7 true (fun k=>opt (binInt .eql v15 (.int .i64 0)) fun v=>k v H8) H8 fun v16 H9=>opt (pick v7 v16 (.bool false)) fun v17=>ifB v17 (
 opt (nilCk x0) fun v18=>opt (addOff v18 0) fun v19=>opt (load1 v19 H9) fun v20=>opt (buildV [(0,1),(1,1),(2,1),(3,1),(4,1),(5,1),(6,1)] #[(.int .i64 0),(.slice none 0 0),(.slice none 0 0),(.int .i64 0),(.string ⟨#[]⟩),(.int .i64 0),(.int .i64 0)] []) fun v21=>opt (ixSlc 7 v20 x1) fun v22=>opt (storeN 7 v22 v21 H9) fun H10=>Q (.tuple #[]) H10) (
 Q (.tuple #[]) H9)

def F.f77 (E:Sy) (x0:Value) (H:AH) (Q:VK):Prop :=
 opt (lenSlc x0) fun v1=>opt (convInt .u64 v1) fun v2=>E.call (E.fid i.f30) [v2] H fun v3 H1=>E.call (E.fid i.f89) [x0,(.int .i64 0),v1,v3] H1 fun v4 H2=>Q (.tuple #[]) H2

def F.f98 (E:Sy) (x0 x1:Value) (H:AH) (Q:VK):Prop :=
 E.call (E.fid i.f100) [x0,x1,(.int .i64 0),(.int .i64 (-1))] H fun v1 H1=>Q v1 H1

def F.f96 (E:Sy) (x0 x1:Value) (H:AH) (Q:VK):Prop :=
 E.call (E.fid i.f101) [x0,x1,(.bool true)] H fun v1 H1=>Q v1 H1

def F.f3 (E:Sy) (x0:Value) (H:AH) (Q:VK):Prop :=
 opt (binInt .lss x0 (.int .i32 33)) fun v1=>gd v1 false (fun k=>k x0 H) H fun v2 H1=>gd v1 false (fun k=>opt (binInt .gtr v2 (.int .i32 126)) fun v=>k v H1) H1 fun v3 H2=>opt (pick v1 (.bool true) v3) fun v4=>gd v4 false (fun k=>k x0 H2) H2 fun v5 H3=>gd v4 false (fun k=>opt (binInt .eql v5 (.int .i32 47)) fun v=>k v H3) H3 fun v6 H4=>opt (pick v4 (.bool true) v6) fun v7=>gd v7 false (fun k=>k x0 H4) H4 fun v8 H5=>gd v7 false (fun k=>opt (binInt .eql v8 (.int .i32 35)) fun v=>k v H5) H5 fun v9 H6=>opt (pick v7 (.bool true) v9) fun v10=>Q v10 H6

def F.f70 (E:Sy) (x0 x1 x2:Value) (H:AH) (Q:VK):Prop :=
 E.call (E.fid i.f68) [x0,x1] H fun v1 H1=>opt (binInt .neq v1 (.int .i64 0)) fun v2=>ifB v2 (
 Q v1 H1) (
 E.call (E.fid i.f63) [x0,x1] H1 fun v3 H2=>E.call (E.fid i.f52) [x2] H2 fun v4 H3=>opt (un .not v4) fun v5=>ifB v5 (
 Q (.int .i64 22) H3) (
 E.call (E.fid i.f73) [v3,x2] H3 fun v6 H4=>opt (binInt .geq v6 (.int .i64 0)) fun v7=>ifB v7 (
 Q (.int .i64 17) H4) (
 opt (nilCk v3) fun v8=>opt (addOff v8 5) fun v9=>opt (load1 v9 H4) fun v10=>opt (binInt .eql v10 (.int .i64 0)) fun v11=>ifB v11 (
 Q (.int .i64 2) H4) (
 opt (nilCk v3) fun v12=>opt (addOff v12 2) fun v13=>opt (load1 v13 H4) fun v14=>opt (lenSlc v14) fun v15=>opt (binInt .geq v15 (.int .i64 32)) fun v16=>ifB v16 (
 Q (.int .i64 28) H4) (
 Q (.int .i64 0) H4)))))

def F.f59_l1 (E:Sy) (Q:VK) (t0 t3 t4:Value) (H:AH) (X0:LK):Prop :=
 opt (nilCk t0) fun v1=>opt (addOff v1 0) fun v2=>opt (load1 v2 H) fun v3=>opt (lenSlc v3) fun v4=>opt (binInt .lss t4 v4) fun v5=>ifB v5 (
 opt (nilCk t0) fun v6=>opt (addOff v6 0) fun v7=>opt (load1 v7 H) fun v8=>opt (ixSlc 7 v8 t4) fun v9=>opt (addOff v9 0) fun v10=>opt (load1 v10 H) fun v11=>opt (binInt .gtr v11 (.int .i64 0)) fun v12=>ifB v12 (
 opt (binInt .add t3 (.int .i64 1)) fun v13=>opt (binInt .add t4 (.int .i64 1)) fun v14=>X0 [t0,v13,v14] H) (
 opt (binInt .add t4 (.int .i64 1)) fun v15=>X0 [t0,t3,v15] H)) (
 Q t3 H)
def F.f59 (E:Sy) (x0:Value) (H:AH) (Q:VK):Prop :=
 LoopL (fun l H X0=>F.f59_l1 E Q (nth l 0) (nth l 1) (nth l 2) H X0) [x0,(.int .i64 0),(.int .i64 0)] H

def F.f67_l1 (E:Sy) (Q:VK) (t0 t1 t5:Value) (H:AH) (X0:LK):Prop :=
 opt (binInt .neq t1 (.int .i64 1)) fun v1=>gd v1 true (fun k=>k t5 H) H fun v2 H1=>gd v1 true (fun k=>opt (binInt .lss v2 (.int .i64 20)) fun v=>k v H1) H1 fun v3 H2=>opt (pick v1 v3 (.bool false)) fun v4=>ifB v4 (
 E.call (E.fid i.f63) [t0,t1] H2 fun v5 H3=>opt (nilCk v5) fun v6=>opt (addOff v6 3) fun v7=>opt (load1 v7 H3) fun v8=>opt (binInt .add t5 (.int .i64 1)) fun v9=>X0 [t0,v8,v9] H3) (
 Q t5 H2)
def F.f67 (E:Sy) (x0 x1:Value) (H:AH) (Q:VK):Prop :=
 LoopL (fun l H X0=>F.f67_l1 E Q (nth l 0) (nth l 1) (nth l 2) H X0) [x0,x1,(.int .i64 0)] H

def F.f74_l1 (E:Sy) (Q:VK) (t0 t3 t5:Value) (H:AH) (X0:LK):Prop :=
 opt (lenSlc t0) fun v1=>opt (binInt .lss t5 v1) fun v2=>gd v2 true (fun k=>k t0 H) H fun v3 H1=>gd v2 true (fun k=>k t5 H1) H1 fun v4 H2=>gd v2 true (fun k=>opt (ixSlc 2 v3 v4) fun v=>k v H2) H2 fun v5 H3=>gd v2 true (fun k=>opt (addOff v5 0) fun v=>k v H3) H3 fun v6 H4=>gd v2 true (fun k=>opt (load1 v6 H4) fun v=>k v H4) H4 fun v7 H5=>gd v2 true (fun k=>opt (addOff t3 0) fun v=>k v H5) H5 fun v8 H6=>gd v2 true (fun k=>opt (load1 v8 H6) fun v=>k v H6) H6 fun v9 H7=>gd v2 true (fun k=>opt (binStr .lss v7 v9) fun v=>k v H7) H7 fun v10 H8=>opt (pick v2 v10 (.bool false)) fun v11=>ifB v11 (
 opt (binInt .add t5 (.int .i64 1)) fun v12=>X0 [t0,t3,v12] H8) (
 mk (buildS 0 2 #[(.string ⟨#[]⟩),(.int .i64 0)] []) H8 fun v13 H9=>opt (slSlc 2 t0 none (some t5) none H9) fun v14=>opt (loadN 2 t3 H9) fun v15=>mk (buildS 1 2 #[(.string ⟨#[]⟩),(.int .i64 0)] [(0,v15)]) H9 fun v16 H10=>opt (slSlc 2 t0 (some t5) none none H10) fun v17=>opt2 (app 2 24 v13 v14 H10) fun v18 H11=>slSlc 2 t0 (some t5) none none H11=slSlc 2 t0 (some t5) none none H10 /\
 H11.get H9.next=H10.get H9.next /\
 loadN 2 t3 H11=loadN 2 t3 H9 /\
 opt2 (app 2 24 v18 v16 H11) fun v19 H12=>slSlc 2 t0 (some t5) none none H12=slSlc 2 t0 (some t5) none none H10 /\
 opt2 (app 2 24 v19 v17 H12) fun v20 H13=>Q v20 H13)
def F.f74 (E:Sy) (x0 x1:Value) (H:AH) (Q:VK):Prop :=
 mk (boxO x1) H fun v1 H1=>LoopL (fun l H X0=>F.f74_l1 E Q (nth l 0) (nth l 1) (nth l 2) H X0) [x0,v1,(.int .i64 0)] H1

def F.f73_l1 (E:Sy) (Q:VK) (t0 t1 t5:Value) (H:AH) (X0:LK):Prop :=
 opt (nilCk t0) fun v1=>opt (addOff v1 2) fun v2=>opt (load1 v2 H) fun v3=>opt (lenSlc v3) fun v4=>opt (binInt .lss t5 v4) fun v5=>ifB v5 (
 opt (nilCk t0) fun v6=>opt (addOff v6 2) fun v7=>opt (load1 v7 H) fun v8=>opt (ixSlc 2 v8 t5) fun v9=>opt (addOff v9 0) fun v10=>opt (load1 v10 H) fun v11=>opt (binStr .eql v11 t1) fun v12=>ifB v12 (
 Q t5 H) (
 opt (binInt .add t5 (.int .i64 1)) fun v13=>X0 [t0,t1,v13] H)) (
 Q (.int .i64 (-1)) H)
def F.f73 (E:Sy) (x0 x1:Value) (H:AH) (Q:VK):Prop :=
 LoopL (fun l H X0=>F.f73_l1 E Q (nth l 0) (nth l 1) (nth l 2) H X0) [x0,x1,(.int .i64 0)] H

def F.f75 (E:Sy) (x0 x1:Value) (H:AH) (Q:VK):Prop :=
 mk (buildS 0 2 #[(.string ⟨#[]⟩),(.int .i64 0)] []) H fun v1 H1=>opt (slSlc 2 x0 none (some x1) none H1) fun v2=>opt (binInt .add x1 (.int .i64 1)) fun v3=>opt (slSlc 2 x0 (some v3) none none H1) fun v4=>opt2 (app 2 24 v1 v2 H1) fun v5 H2=>slSlc 2 x0 (some v3) none none H2=slSlc 2 x0 (some v3) none none H1 /\
 opt2 (app 2 24 v5 v4 H2) fun v6 H3=>Q v6 H3

def F.f18 (E:Sy) (x0 x1 x2 x3 x4 x5:Value) (H:AH) (Q:VK):Prop :=
 E.call (E.fid i.f2) [x3] H fun v1 H1=>opt (un .not v1) fun v2=>ifB v2 (
 Q (.int .i64 22) H1) (
 opt (nilCk x2) fun v3=>opt (addOff v3 6) fun v4=>opt (load1 v4 H1) fun v5=>opt (binInt .eql v5 (.int .i64 0)) fun v6=>ifB v6 (
 Q (.int .i64 2) H1) (
 opt (nilCk x1) fun v7=>opt (addOff v7 1) fun v8=>opt (load1 v8 H1) fun v9=>opt (binInt .eql v9 (.int .u8 2)) fun v10=>gd v10 true (fun k=>k x0 H1) H1 fun v11 H2=>gd v10 true (fun k=>k x2 H2) H2 fun v12 H3=>gd v10 true (fun k=>opt (nilCk v12) fun v=>k v H3) H3 fun v13 H4=>gd v10 true (fun k=>opt (addOff v13 0) fun v=>k v H4) H4 fun v14 H5=>gd v10 true (fun k=>opt (load1 v14 H5) fun v=>k v H5) H5 fun v15 H6=>gd v10 true (fun k=>k x1 H6) H6 fun v16 H7=>gd v10 true (fun k=>opt (nilCk v16) fun v=>k v H7) H7 fun v17 H8=>gd v10 true (fun k=>opt (addOff v17 0) fun v=>k v H8) H8 fun v18 H9=>gd v10 true (fun k=>opt (load1 v18 H9) fun v=>k v H9) H9 fun v19 H10=>gd v10 true (fun k=>E.call (E.fid i.f14) [v11,v15,v19] H10 fun v h=>k v h) H10 fun v20 H11=>opt (pick v10 v20 (.bool false)) fun v21=>ifB v21 (
 Q (.int .i64 22) H11) (
 opt (nilCk x1) fun v22=>opt (addOff v22 1) fun v23=>opt (load1 v23 H11) fun v24=>opt (binInt .eql v24 (.int .u8 2)) fun v25=>gd v25 true (fun k=>k x0 H11) H11 fun v26 H12=>gd v25 true (fun k=>k x2 H12) H12 fun v27 H13=>gd v25 true (fun k=>opt (nilCk v27) fun v=>k v H13) H13 fun v28 H14=>gd v25 true (fun k=>opt (addOff v28 0) fun v=>k v H14) H14 fun v29 H15=>gd v25 true (fun k=>opt (load1 v29 H15) fun v=>k v H15) H15 fun v30 H16=>gd v25 true (fun k=>k x0 H16) H16 fun v31 H17=>gd v25 true (fun k=>k x1 H17) H17 fun v32 H18=>gd v25 true (fun k=>opt (nilCk v32) fun v=>k v H18) H18 fun v33 H19=>gd v25 true (fun k=>opt (addOff v33 0) fun v=>k v H19) H19 fun v34 H20=>gd v25 true (fun k=>opt (load1 v34 H20) fun v=>k v H20) H20 fun v35 H21=>gd v25 true (fun k=>E.call (E.fid i.f16) [v26,v30] H21 fun v h=>k v h) H21 fun v36 H22=>gdC v25 true (load1 v34 H22=load1 v34 H20) /\
 gd v25 true (fun k=>E.call (E.fid i.f20) [v31,v35] H22 fun v h=>k v h) H22 fun v37 H23=>gd v25 true (fun k=>opt (binInt .add v36 v37) fun v=>k v H23) H23 fun v38 H24=>gd v25 true (fun k=>opt (binInt .gtr v38 (.int .i64 16)) fun v=>k v H24) H24 fun v39 H25=>opt (pick v25 v39 (.bool false)) fun v40=>ifB v40 (
 Q (.int .i64 28) H25) (
 opt (un .not x4) fun v41=>ifB v41 (
 Q (.int .i64 0) H25) (
 opt (nilCk x0) fun v42=>opt (addOff v42 0) fun v43=>opt (load1 v43 H25) fun v44=>opt (look 0 (.pointer none) false v44 x5 H25) fun v45=>opt (nilCk x1) fun v46=>opt (addOff v46 1) fun v47=>opt (load1 v47 H25) fun v48=>opt (binInt .eql v48 (.int .u8 2)) fun v49=>gd v49 true (fun k=>k v45 H25) H25 fun v50 H26=>gd v49 true (fun k=>opt (nilCk v50) fun v=>k v H26) H26 fun v51 H27=>gd v49 true (fun k=>opt (addOff v51 1) fun v=>k v H27) H27 fun v52 H28=>gd v49 true (fun k=>opt (load1 v52 H28) fun v=>k v H28) H28 fun v53 H29=>gd v49 true (fun k=>opt (binInt .neq v53 (.int .u8 2)) fun v=>k v H29) H29 fun v54 H30=>opt (pick v49 v54 (.bool false)) fun v55=>ifB v55 (
 Q (.int .i64 20) H30) (
 opt (nilCk x1) fun v56=>opt (addOff v56 1) fun v57=>opt (load1 v57 H30) fun v58=>opt (binInt .neq v58 (.int .u8 2)) fun v59=>gd v59 true (fun k=>k v45 H30) H30 fun v60 H31=>gd v59 true (fun k=>opt (nilCk v60) fun v=>k v H31) H31 fun v61 H32=>gd v59 true (fun k=>opt (addOff v61 1) fun v=>k v H32) H32 fun v62 H33=>gd v59 true (fun k=>opt (load1 v62 H33) fun v=>k v H33) H33 fun v63 H34=>gd v59 true (fun k=>opt (binInt .eql v63 (.int .u8 2)) fun v=>k v H34) H34 fun v64 H35=>opt (pick v59 v64 (.bool false)) fun v65=>ifB v65 (
 Q (.int .i64 21) H35) (
 opt (nilCk v45) fun v66=>opt (addOff v66 1) fun v67=>opt (load1 v67 H35) fun v68=>opt (binInt .eql v68 (.int .u8 2)) fun v69=>gd v69 true (fun k=>k v45 H35) H35 fun v70 H36=>gd v69 true (fun k=>opt (nilCk v70) fun v=>k v H36) H36 fun v71 H37=>gd v69 true (fun k=>opt (addOff v71 3) fun v=>k v H37) H37 fun v72 H38=>gd v69 true (fun k=>opt (load1 v72 H38) fun v=>k v H38) H38 fun v73 H39=>gd v69 true (fun k=>opt (lenMap v73 H39) fun v=>k v H39) H39 fun v74 H40=>gd v69 true (fun k=>opt (binInt .gtr v74 (.int .i64 0)) fun v=>k v H40) H40 fun v75 H41=>opt (pick v69 v75 (.bool false)) fun v76=>ifB v76 (
 Q (.int .i64 39) H41) (
 Q (.int .i64 0) H41))))))))

def F.f68 (E:Sy) (x0 x1:Value) (H:AH) (Q:VK):Prop :=
 E.call (E.fid i.f63) [x0,x1] H fun v1 H1=>opt (nilCk v1) fun v2=>opt (addOff v2 0) fun v3=>opt (load1 v3 H1) fun v4=>opt (binInt .eql v4 (.int .i64 0)) fun v5=>ifB v5 (
 Q (.int .i64 2) H1) (
 opt (binInt .eql v4 (.int .i64 2)) fun v6=>ifB v6 (
 Q (.int .i64 0) H1) (
 Q (.int .i64 20) H1))

def F.f52_l1 (E:Sy) (Q:VK) (t0 t3:Value) (H:AH) (X0:LK):Prop :=
 opt (lenStr t0) fun v1=>opt (binInt .lss t3 v1) fun v2=>ifB v2 (
 opt (ixStr t0 t3) fun v3=>opt (binInt .lss v3 (.int .u8 33)) fun v4=>gd v4 false (fun k=>k t0 H) H fun v5 H1=>gd v4 false (fun k=>k t3 H1) H1 fun v6 H2=>gd v4 false (fun k=>opt (ixStr v5 v6) fun v=>k v H2) H2 fun v7 H3=>gd v4 false (fun k=>opt (binInt .gtr v7 (.int .u8 126)) fun v=>k v H3) H3 fun v8 H4=>opt (pick v4 (.bool true) v8) fun v9=>gd v9 false (fun k=>k t0 H4) H4 fun v10 H5=>gd v9 false (fun k=>k t3 H5) H5 fun v11 H6=>gd v9 false (fun k=>opt (ixStr v10 v11) fun v=>k v H6) H6 fun v12 H7=>gd v9 false (fun k=>opt (binInt .eql v12 (.int .u8 47)) fun v=>k v H7) H7 fun v13 H8=>opt (pick v9 (.bool true) v13) fun v14=>gd v14 false (fun k=>k t0 H8) H8 fun v15 H9=>gd v14 false (fun k=>k t3 H9) H9 fun v16 H10=>gd v14 false (fun k=>opt (ixStr v15 v16) fun v=>k v H10) H10 fun v17 H11=>gd v14 false (fun k=>opt (binInt .eql v17 (.int .u8 35)) fun v=>k v H11) H11 fun v18 H12=>opt (pick v14 (.bool true) v18) fun v19=>ifB v19 (
 Q (.bool false) H12) (
 opt (binInt .add t3 (.int .i64 1)) fun v20=>X0 [t0,v20] H12)) (
 opt (lenStr t0) fun v21=>opt (binInt .geq v21 (.int .i64 1)) fun v22=>gd v22 true (fun k=>k t0 H) H fun v23 H13=>gd v22 true (fun k=>opt (lenStr v23) fun v=>k v H13) H13 fun v24 H14=>gd v22 true (fun k=>opt (binInt .leq v24 (.int .i64 14)) fun v=>k v H14) H14 fun v25 H15=>opt (pick v22 v25 (.bool false)) fun v26=>gd v26 true (fun k=>k t0 H15) H15 fun v27 H16=>gd v26 true (fun k=>opt (binStr .neq v27 (.string ⟨#[46]⟩)) fun v=>k v H16) H16 fun v28 H17=>opt (pick v26 v28 (.bool false)) fun v29=>gd v29 true (fun k=>k t0 H17) H17 fun v30 H18=>gd v29 true (fun k=>opt (binStr .neq v30 (.string ⟨#[46,46]⟩)) fun v=>k v H18) H18 fun v31 H19=>opt (pick v29 v31 (.bool false)) fun v32=>Q v32 H19)
def F.f52 (E:Sy) (x0:Value) (H:AH) (Q:VK):Prop :=
 LoopL (fun l H X0=>F.f52_l1 E Q (nth l 0) (nth l 1) H X0) [x0,(.int .i64 0)] H

def F.f65_l1 (E:Sy) (Q:VK) (t0 t1 t2 t7:Value) (H:AH) (X0:LK):Prop :=
 opt (binInt .lss t7 (.int .i64 20)) fun v1=>ifB v1 (
 E.call (E.fid i.f63) [t0,t1] H fun v2 H1=>opt (nilCk v2) fun v3=>opt (addOff v3 0) fun v4=>opt (load1 v4 H1) fun v5=>opt (binInt .neq v5 (.int .i64 2)) fun v6=>ifB v6 (
 Q (.bool false) H1) (
 opt (binInt .eql t1 t2) fun v7=>ifB v7 (
 Q (.bool true) H1) (
 E.call (E.fid i.f63) [t0,t1] H1 fun v8 H2=>opt (nilCk v8) fun v9=>opt (addOff v9 3) fun v10=>opt (load1 v10 H2) fun v11=>opt (binInt .eql t1 v11) fun v12=>ifB v12 (
 Q (.bool false) H2) (
 E.call (E.fid i.f63) [t0,t1] H2 fun v13 H3=>opt (nilCk v13) fun v14=>opt (addOff v14 3) fun v15=>opt (load1 v15 H3) fun v16=>opt (binInt .add t7 (.int .i64 1)) fun v17=>X0 [t0,v16,t2,v17] H3)))) (
 Q (.bool false) H)
def F.f65 (E:Sy) (x0 x1 x2:Value) (H:AH) (Q:VK):Prop :=
 LoopL (fun l H X0=>F.f65_l1 E Q (nth l 0) (nth l 1) (nth l 2) (nth l 3) H X0) [x0,x1,x2,(.int .i64 0)] H

def F.f71_l1 (E:Sy) (Q:VK) (t0 t5 t6 t7:Value) (H:AH) (X0:LK):Prop :=
 opt (nilCk t6) fun v1=>opt (addOff v1 2) fun v2=>opt (load1 v2 H) fun v3=>opt (lenSlc v3) fun v4=>opt (binInt .lss t7 v4) fun v5=>ifB v5 (
 opt (nilCk t6) fun v6=>opt (addOff v6 2) fun v7=>opt (load1 v7 H) fun v8=>opt (ixSlc 2 v8 t7) fun v9=>opt (addOff v9 1) fun v10=>opt (load1 v10 H) fun v11=>E.call (E.fid i.f63) [t0,v11] H fun v12 H1=>opt (nilCk v12) fun v13=>opt (addOff v13 0) fun v14=>opt (load1 v14 H1) fun v15=>opt (binInt .eql v15 (.int .i64 2)) fun v16=>ifB v16 (
 E.call (E.fid i.f71) [t0,v11] H1 fun v17 H2=>opt (fold2 max2 [t5,v17]) fun v18=>opt (binInt .add t7 (.int .i64 1)) fun v19=>X0 [t0,v18,t6,v19] H2) (
 opt (binInt .add t7 (.int .i64 1)) fun v20=>X0 [t0,t5,t6,v20] H1)) (
 opt (binInt .add t5 (.int .i64 1)) fun v21=>Q v21 H)
def F.f71 (E:Sy) (x0 x1:Value) (H:AH) (Q:VK):Prop :=
 E.call (E.fid i.f63) [x0,x1] H fun v1 H1=>LoopL (fun l H X0=>F.f71_l1 E Q (nth l 0) (nth l 1) (nth l 2) (nth l 3) H X0) [x0,(.int .i64 0),v1,(.int .i64 0)] H1

def F.f40 (E:Sy) (x0 x1:Value) (H:AH) (Q:VK):Prop :=
 mk (boxO x0) H fun v1 H1=>opt (addOff v1 0) fun v2=>opt (load1 v2 H1) fun v3=>opt (load1 x1 H1) fun v4=>opt (binInt .eql v3 v4) fun v5=>Q v5 H1

def F.f30 (E:Sy) (x0:Value) (H:AH) (Q:VK):Prop :=
 ifB (.bool false) (
 opt (convInt .u32 x0) fun v1=>E.call (E.fid i.f31) [v1] H fun v2 H1=>Q v2 H1) (
 E.call (E.fid i.f32) [x0] H fun v3 H2=>Q v3 H2)

def F.f89_j3 (E:Sy) (Q:VK) (X0:LK) (t0 t1 t2 t3 t8 t9 t10 t11:Value) (H:AH):Prop :=
 opt (binInt .gtr t1 (.int .i64 0)) fun v1=>gd v1 true (fun k=>k t0 H) H fun v2 H1=>gd v1 true (fun k=>k t1 H1) H1 fun v3 H2=>gd v1 true (fun k=>opt (binInt .sub v3 (.int .i64 1)) fun v=>k v H2) H2 fun v4 H3=>gd v1 true (fun k=>opt (ixSlc 1 v2 v4) fun v=>k v H3) H3 fun v5 H4=>gd v1 true (fun k=>opt (load1 v5 H4) fun v=>k v H4) H4 fun v6 H5=>gd v1 true (fun k=>k t0 H5) H5 fun v7 H6=>gd v1 true (fun k=>k t11 H6) H6 fun v8 H7=>gd v1 true (fun k=>opt (ixSlc 1 v7 v8) fun v=>k v H7) H7 fun v9 H8=>gd v1 true (fun k=>opt (load1 v9 H8) fun v=>k v H8) H8 fun v10 H9=>gd v1 true (fun k=>E.call (E.fid i.f0) [v6,v10] H9 fun v h=>k v h) H9 fun v11 H10=>gd v1 true (fun k=>opt (un .not v11) fun v=>k v H10) H10 fun v12 H11=>opt (pick v1 v12 (.bool false)) fun v13=>ifB v13 (
 E.call (E.fid i.f87) [t0,t1,t2,t11] H11 fun v14 H12=>X0 [t0,v14,t2,t3,t8,t9] H12) (
 E.call (E.fid i.f88) [t0,t1,t2,t11] H11 fun v15 H13=>opt (ext v15 0) fun v16=>opt (ext v15 1) fun v17=>opt (binInt .sub v16 t1) fun v18=>opt (binInt .sub t2 v16) fun v19=>opt (binInt .quo t10 (.int .i64 8)) fun v20=>opt (binInt .lss v18 v19) fun v21=>ifB v21 (
 opt (binInt .geq v18 v20) fun v22=>E.call (E.fid i.f89) [t0,t1,v16,t3] H13 fun v23 H14=>opt (binInt .add v16 (.int .i64 1)) fun v24=>X0 [t0,v24,t2,t3,v22,v17] H14) (
 opt (binInt .geq v19 v20) fun v25=>opt (binInt .add v16 (.int .i64 1)) fun v26=>E.call (E.fid i.f89) [t0,v26,t2,t3] H13 fun v27 H15=>X0 [t0,t1,v16,t3,v25,v17] H15))
def F.f89_j2 (E:Sy) (Q:VK) (X0:LK) (t0 t1 t2 t3 t8 t9 t10 t11 t12:Value) (H:AH):Prop :=
 gd t8 true (fun k=>k t9 H) H fun v1 H1=>opt (pick t8 v1 (.bool false)) fun v2=>gd v2 true (fun k=>k t12 H1) H1 fun v3 H2=>gd v2 true (fun k=>opt (binInt .eql v3 (.int .i64 1)) fun v=>k v H2) H2 fun v4 H3=>opt (pick v2 v4 (.bool false)) fun v5=>ifB v5 (
 E.call (E.fid i.f86) [t0,t1,t2] H3 fun v6 H4=>ifB v6 (
 Q (.tuple #[]) H4) (
 F.f89_j3 E Q X0 t0 t1 t2 t3 t8 t9 t10 t11 H4)) (
 F.f89_j3 E Q X0 t0 t1 t2 t3 t8 t9 t10 t11 H3)
def F.f89_j1 (E:Sy) (Q:VK) (X0:LK) (t0 t1 t2 t3 t8 t9 t10:Value) (H:AH):Prop :=
 E.call (E.fid i.f79) [t0,t1,t2] H fun v1 H1=>opt (ext v1 0) fun v2=>opt (ext v1 1) fun v3=>opt (binInt .eql v3 (.int .i64 2)) fun v4=>ifB v4 (
 E.call (E.fid i.f90) [t0,t1,t2] H1 fun v5 H2=>opt (binInt .sub t2 (.int .i64 1)) fun v6=>opt (binInt .sub v2 t1) fun v7=>opt (binInt .sub v6 v7) fun v8=>F.f89_j2 E Q X0 t0 t1 t2 t3 t8 t9 t10 v8 (.int .i64 1) H2) (
 F.f89_j2 E Q X0 t0 t1 t2 t3 t8 t9 t10 v2 v3 H1)
def F.f89_l1 (E:Sy) (Q:VK) (t0 t1 t2 t3 t8 t9:Value) (H:AH) (X0:LK):Prop :=
 opt (binInt .sub t2 t1) fun v1=>opt (binInt .leq v1 (.int .i64 12)) fun v2=>ifB v2 (
 E.call (E.fid i.f81) [t0,t1,t2] H fun v3 H1=>Q (.tuple #[]) H1) (
 opt (binInt .eql t3 (.int .i64 0)) fun v4=>ifB v4 (
 E.call (E.fid i.f80) [t0,t1,t2] H fun v5 H2=>Q (.tuple #[]) H2) (
 opt (un .not t8) fun v6=>ifB v6 (
 E.call (E.fid i.f78) [t0,t1,t2] H fun v7 H3=>opt (binInt .sub t3 (.int .i64 1)) fun v8=>F.f89_j1 E Q X0 t0 t1 t2 v8 t8 t9 v1 H3) (
 F.f89_j1 E Q X0 t0 t1 t2 t3 t8 t9 v1 H)))
def F.f89 (E:Sy) (x0 x1 x2 x3:Value) (H:AH) (Q:VK):Prop :=
 LoopL (fun l H X0=>F.f89_l1 E Q (nth l 0) (nth l 1) (nth l 2) (nth l 3) (nth l 4) (nth l 5) H X0) [x0,x1,x2,x3,(.bool true),(.bool true)] H

def F.f100_j2 (E:Sy) (Q:VK) (t0 t9 t10:Value) (H:AH):Prop :=
 opt (ixSlc 1 t9 t10) fun v1=>opt (store1 v1 t0 H) fun H1=>opt (binInt .add t10 (.int .i64 1)) fun v2=>opt (slSlc 1 t9 none (some v2) none H1) fun v3=>Q v3 H1
def F.f100_l1 (E:Sy) (Q:VK) (t0 t1 t2 t3 t9 t10:Value) (H:AH) (X0:LK):Prop :=
 opt (binInt .lss t10 t3) fun v1=>ifB v1 (
 E.call (E.fid i.f95) [t0,t1] H fun v2 H1=>opt (binInt .lss v2 (.int .i64 0)) fun v3=>ifB v3 (
 F.f100_j2 E Q t0 t9 t10 H1) (
 opt (binInt .add v2 t2) fun v4=>opt (slStr t0 none (some v4)) fun v5=>opt (ixSlc 1 t9 t10) fun v6=>opt (store1 v6 v5 H1) fun H2=>opt (lenStr t1) fun v7=>opt (binInt .add v2 v7) fun v8=>opt (slStr t0 (some v8) none) fun v9=>opt (binInt .add t10 (.int .i64 1)) fun v10=>X0 [v9,t1,t2,t3,t9,v10] H2)) (
 F.f100_j2 E Q t0 t9 t10 H)
def F.f100_j1 (E:Sy) (Q:VK) (t0 t1 t2 t3:Value) (H:AH):Prop :=
 opt (lenStr t0) fun v1=>opt (binInt .add v1 (.int .i64 1)) fun v2=>opt (fold2 min2 [t3,v2]) fun v3=>mk (makeS 1 16 #[(.string ⟨#[]⟩)] v3 v3) H fun v4 H1=>opt (binInt .sub v3 (.int .i64 1)) fun v5=>LoopL (fun l H X0=>F.f100_l1 E Q (nth l 0) (nth l 1) (nth l 2) (nth l 3) (nth l 4) (nth l 5) H X0) [t0,t1,t2,v5,v4,(.int .i64 0)] H1
def F.f100 (E:Sy) (x0 x1 x2 x3:Value) (H:AH) (Q:VK):Prop :=
 opt (binInt .eql x3 (.int .i64 0)) fun v1=>ifB v1 (
 Q (.slice none 0 0) H) (
 opt (binStr .eql x1 (.string ⟨#[]⟩)) fun v2=>ifB v2 (
 E.call (E.fid i.f99) [x0,x3] H fun v3 H1=>Q v3 H1) (
 opt (binInt .lss x3 (.int .i64 0)) fun v4=>ifB v4 (
 E.call (E.fid i.f93) [x0,x1] H fun v5 H2=>opt (binInt .add v5 (.int .i64 1)) fun v6=>F.f100_j1 E Q x0 x1 x2 v6 H2) (
 F.f100_j1 E Q x0 x1 x2 x3 H)))

def F.f101_l1 (E:Sy) (Q:VK) (t1 t2 t10:Value) (H:AH) (X0:LK):Prop :=
 opt2 (nextS t10 H) fun v1 H1=>opt (ext v1 0) fun v2=>ifB v2 (
 opt (ext v1 1) fun v3=>opt (ext v1 2) fun v4=>callV E.call t1 [v4] H1 fun v5 H2=>opt (binBool .eql v5 t2) fun v6=>ifB v6 (
 Q v3 H2) (
 X0 [t1,t2,t10] H2)) (
 Q (.int .i64 (-1)) H1)
def F.f101 (E:Sy) (x0 x1 x2:Value) (H:AH) (Q:VK):Prop :=
 mk (rangeS x0) H fun v1 H1=>LoopL (fun l H X0=>F.f101_l1 E Q (nth l 0) (nth l 1) (nth l 2) H X0) [x1,x2,v1] H1

def F.f14_l1 (E:Sy) (Q:VK) (t0 t2 t7 t11:Value) (H:AH) (X0:LK):Prop :=
 opt (binInt .lss t11 (.int .i64 18)) fun v1=>ifB v1 (
 opt (binNil eqPtr .eql t7 (.pointer none)) fun v2=>gd v2 false (fun k=>k t7 H) H fun v3 H1=>gd v2 false (fun k=>opt (nilCk v3) fun v=>k v H1) H1 fun v4 H2=>gd v2 false (fun k=>opt (addOff v4 1) fun v=>k v H2) H2 fun v5 H3=>gd v2 false (fun k=>opt (load1 v5 H3) fun v=>k v H3) H3 fun v6 H4=>gd v2 false (fun k=>opt (binInt .neq v6 (.int .u8 2)) fun v=>k v H4) H4 fun v7 H5=>opt (pick v2 (.bool true) v7) fun v8=>ifB v8 (
 Q (.bool false) H5) (
 opt (nilCk t7) fun v9=>opt (addOff v9 0) fun v10=>opt (load1 v10 H5) fun v11=>opt (binInt .eql v11 t2) fun v12=>ifB v12 (
 Q (.bool true) H5) (
 opt (nilCk t7) fun v13=>opt (addOff v13 4) fun v14=>opt (load1 v14 H5) fun v15=>opt (nilCk t7) fun v16=>opt (addOff v16 0) fun v17=>opt (load1 v17 H5) fun v18=>opt (binInt .eql v15 v18) fun v19=>ifB v19 (
 Q (.bool false) H5) (
 opt (nilCk t0) fun v20=>opt (addOff v20 0) fun v21=>opt (load1 v21 H5) fun v22=>opt (nilCk t7) fun v23=>opt (addOff v23 4) fun v24=>opt (load1 v24 H5) fun v25=>opt (look 0 (.pointer none) false v22 v25 H5) fun v26=>opt (binInt .add t11 (.int .i64 1)) fun v27=>X0 [t0,t2,v26,v27] H5)))) (
 Q (.bool false) H)
def F.f14 (E:Sy) (x0 x1 x2:Value) (H:AH) (Q:VK):Prop :=
 E.call (E.fid i.f9) [x0,x1] H fun v1 H1=>LoopL (fun l H X0=>F.f14_l1 E Q (nth l 0) (nth l 1) (nth l 2) (nth l 3) H X0) [x0,x2,v1,(.int .i64 0)] H1

def F.f20_l1 (E:Sy) (Q:VK) (t0 t5 t17:Value) (H:AH) (X0:LK):Prop :=
 nextM t17 H fun v1 H1=>opt (ext v1 0) fun v2=>ifB v2 (
 opt (entryR t17 H1) fun v3=>opt (ext v3 1) fun v4=>opt (nilCk t0) fun v5=>opt (addOff v5 0) fun v6=>opt (load1 v6 H1) fun v7=>opt (look 0 (.pointer none) false v7 v4 H1) fun v8=>opt (nilCk v8) fun v9=>opt (addOff v9 1) fun v10=>opt (load1 v10 H1) fun v11=>opt (binInt .eql v11 (.int .u8 2)) fun v12=>ifB v12 (
 E.call (E.fid i.f20) [t0,v4] H1 fun v13 H2=>opt (fold2 max2 [t5,v13]) fun v14=>X0 [t0,v14,t17] H2) (
 X0 [t0,t5,t17] H1)) (
 opt (binInt .add t5 (.int .i64 1)) fun v15=>Q v15 H1)
def F.f20 (E:Sy) (x0 x1:Value) (H:AH) (Q:VK):Prop :=
 opt (nilCk x0) fun v1=>opt (addOff v1 0) fun v2=>opt (load1 v2 H) fun v3=>opt (look 0 (.pointer none) false v3 x1 H) fun v4=>opt (nilCk v4) fun v5=>opt (addOff v5 3) fun v6=>opt (load1 v6 H) fun v7=>mk (rangeM v7 H) H fun v8 H1=>LoopL (fun l H X0=>F.f20_l1 E Q (nth l 0) (nth l 1) (nth l 2) H X0) [x0,(.int .i64 0),v8] H1

def F.f32_j3 (E:Sy) (Q:VK) (t0 t2:Value) (H:AH):Prop :=
 opt (convInt .u8 t0) fun v1=>opt (ixStr (.string ⟨#[0,1,2,2,3,3,3,3,4,4,4,4,4,4,4,4,5,5,5,5,5,5,5,5,5,5,5,5,5,5,5,5,6,6,6,6,6,6,6,6,6,6,6,6,6,6,6,6,6,6,6,6,6,6,6,6,6,6,6,6,6,6,6,6,7,7,7,7,7,7,7,7,7,7,7,7,7,7,7,7,7,7,7,7,7,7,7,7,7,7,7,7,7,7,7,7,7,7,7,7,7,7,7,7,7,7,7,7,7,7,7,7,7,7,7,7,7,7,7,7,7,7,7,7,7,7,7,7,8,8,8,8,8,8,8,8,8,8,8,8,8,8,8,8,8,8,8,8,8,8,8,8,8,8,8,8,8,8,8,8,8,8,8,8,8,8,8,8,8,8,8,8,8,8,8,8,8,8,8,8,8,8,8,8,8,8,8,8,8,8,8,8,8,8,8,8,8,8,8,8,8,8,8,8,8,8,8,8,8,8,8,8,8,8,8,8,8,8,8,8,8,8,8,8,8,8,8,8,8,8,8,8,8,8,8,8,8,8,8,8,8,8,8,8,8,8,8,8,8,8,8,8,8,8,8,8]⟩) v1) fun v2=>opt (convInt .i64 v2) fun v3=>opt (binInt .add t2 v3) fun v4=>Q v4 H
def F.f32_j2 (E:Sy) (Q:VK) (t0 t2:Value) (H:AH):Prop :=
 opt (binInt .geq t0 (.int .u64 256)) fun v1=>ifB v1 (
 opt (binInt .shr t0 (.int .u64 8)) fun v2=>opt (binInt .add t2 (.int .i64 8)) fun v3=>F.f32_j3 E Q v2 v3 H) (
 F.f32_j3 E Q t0 t2 H)
def F.f32_j1 (E:Sy) (Q:VK) (t0 t2:Value) (H:AH):Prop :=
 opt (binInt .geq t0 (.int .u64 65536)) fun v1=>ifB v1 (
 opt (binInt .shr t0 (.int .u64 16)) fun v2=>opt (binInt .add t2 (.int .i64 16)) fun v3=>F.f32_j2 E Q v2 v3 H) (
 F.f32_j2 E Q t0 t2 H)
def F.f32 (E:Sy) (x0:Value) (H:AH) (Q:VK):Prop :=
 opt (binInt .geq x0 (.int .u64 4294967296)) fun v1=>ifB v1 (
 opt (binInt .shr x0 (.int .u64 32)) fun v2=>F.f32_j1 E Q v2 (.int .i64 32) H) (
 F.f32_j1 E Q x0 (.int .i64 0) H)

def F.f81_l2 (E:Sy) (Q:VK) (X0:LK) (t0 t1 t2 t6 t7:Value) (H:AH) (X1:LK):Prop :=
 opt (binInt .gtr t7 t1) fun v1=>gd v1 true (fun k=>k t0 H) H fun v2 H1=>gd v1 true (fun k=>k t7 H1) H1 fun v3 H2=>gd v1 true (fun k=>opt (ixSlc 1 v2 v3) fun v=>k v H2) H2 fun v4 H3=>gd v1 true (fun k=>opt (load1 v4 H3) fun v=>k v H3) H3 fun v5 H4=>gd v1 true (fun k=>k t0 H4) H4 fun v6 H5=>gd v1 true (fun k=>k t7 H5) H5 fun v7 H6=>gd v1 true (fun k=>opt (binInt .sub v7 (.int .i64 1)) fun v=>k v H6) H6 fun v8 H7=>gd v1 true (fun k=>opt (ixSlc 1 v6 v8) fun v=>k v H7) H7 fun v9 H8=>gd v1 true (fun k=>opt (load1 v9 H8) fun v=>k v H8) H8 fun v10 H9=>gd v1 true (fun k=>E.call (E.fid i.f0) [v5,v10] H9 fun v h=>k v h) H9 fun v11 H10=>opt (pick v1 v11 (.bool false)) fun v12=>ifB v12 (
 opt (binInt .sub t7 (.int .i64 1)) fun v13=>opt (binInt .sub t7 (.int .i64 1)) fun v14=>opt (ixSlc 1 t0 v14) fun v15=>opt (load1 v15 H10) fun v16=>opt (ixSlc 1 t0 t7) fun v17=>opt (load1 v17 H10) fun v18=>opt (ixSlc 1 t0 t7) fun v19=>opt (store1 v19 v16 H10) fun H11=>opt (ixSlc 1 t0 v13) fun v20=>opt (store1 v20 v18 H11) fun H12=>opt (binInt .sub t7 (.int .i64 1)) fun v21=>X1 [t0,t1,t2,t6,v21] H12) (
 opt (binInt .add t6 (.int .i64 1)) fun v22=>X0 [t0,t1,t2,v22] H10)
def F.f81_l1 (E:Sy) (Q:VK) (t0 t1 t2 t6:Value) (H:AH) (X0:LK):Prop :=
 opt (binInt .lss t6 t2) fun v1=>ifB v1 (
 LoopL (fun l H X1=>F.f81_l2 E Q X0 (nth l 0) (nth l 1) (nth l 2) (nth l 3) (nth l 4) H X1) [t0,t1,t2,t6,t6] H) (
 Q (.tuple #[]) H)
def F.f81 (E:Sy) (x0 x1 x2:Value) (H:AH) (Q:VK):Prop :=
 opt (binInt .add x1 (.int .i64 1)) fun v1=>LoopL (fun l H X0=>F.f81_l1 E Q (nth l 0) (nth l 1) (nth l 2) (nth l 3) H X0) [x0,x1,x2,v1] H

def F.f80_l2 (E:Sy) (Q:VK) (t0 t6 t7 t10:Value) (H:AH) (X0:LK):Prop :=
 opt (binInt .geq t10 (.int .i64 0)) fun v1=>ifB v1 (
 opt (binInt .add t6 t10) fun v2=>opt (binInt .add t6 t10) fun v3=>opt (ixSlc 1 t0 v3) fun v4=>opt (load1 v4 H) fun v5=>opt (ixSlc 1 t0 t6) fun v6=>opt (load1 v6 H) fun v7=>opt (ixSlc 1 t0 t6) fun v8=>opt (store1 v8 v5 H) fun H1=>opt (ixSlc 1 t0 v2) fun v9=>opt (store1 v9 v7 H1) fun H2=>E.call (E.fid i.f91) [t0,t7,t10,t6] H2 fun v10 H3=>opt (binInt .sub t10 (.int .i64 1)) fun v11=>X0 [t0,t6,t7,v11] H3) (
 Q (.tuple #[]) H)
def F.f80_l1 (E:Sy) (Q:VK) (t0 t6 t7 t8 t9:Value) (H:AH) (X0:LK):Prop :=
 opt (binInt .geq t9 (.int .i64 0)) fun v1=>ifB v1 (
 E.call (E.fid i.f91) [t0,t9,t8,t6] H fun v2 H1=>opt (binInt .sub t9 (.int .i64 1)) fun v3=>X0 [t0,t6,t7,t8,v3] H1) (
 opt (binInt .sub t8 (.int .i64 1)) fun v4=>LoopL (fun l H X0=>F.f80_l2 E Q (nth l 0) (nth l 1) (nth l 2) (nth l 3) H X0) [t0,t6,t7,v4] H)
def F.f80 (E:Sy) (x0 x1 x2:Value) (H:AH) (Q:VK):Prop :=
 opt (binInt .sub x2 x1) fun v1=>opt (binInt .sub v1 (.int .i64 1)) fun v2=>opt (binInt .quo v2 (.int .i64 2)) fun v3=>LoopL (fun l H X0=>F.f80_l1 E Q (nth l 0) (nth l 1) (nth l 2) (nth l 3) (nth l 4) H X0) [x0,x1,(.int .i64 0),v1,v3] H

def F.f78_j1 (E:Sy) (Q:VK) (X0:LK) (t0 t1 t6 t7 t8 t9 t10:Value) (H:AH):Prop :=
 opt (binInt .add t1 t10) fun v1=>opt (binInt .add t1 t10) fun v2=>opt (ixSlc 1 t0 v2) fun v3=>opt (load1 v3 H) fun v4=>opt (ixSlc 1 t0 t9) fun v5=>opt (load1 v5 H) fun v6=>opt (ixSlc 1 t0 t9) fun v7=>opt (store1 v7 v4 H) fun H1=>opt (ixSlc 1 t0 v1) fun v8=>opt (store1 v8 v6 H1) fun H2=>opt (binInt .add t9 (.int .i64 1)) fun v9=>X0 [t0,t1,t6,t7,t8,v9] H2
def F.f78_l1 (E:Sy) (Q:VK) (t0 t1 t6 t7 t8 t9:Value) (H:AH) (X0:LK):Prop :=
 opt (binInt .quo t6 (.int .i64 4)) fun v1=>opt (binInt .mul v1 (.int .i64 2)) fun v2=>opt (binInt .add t1 v2) fun v3=>opt (binInt .add v3 (.int .i64 1)) fun v4=>opt (binInt .leq t9 v4) fun v5=>ifB v5 (
 E.call (E.fid i.f92) [t7] H fun v6 H1=>opt (binInt .sub t8 (.int .u64 1)) fun v7=>opt (binInt .and v6 v7) fun v8=>opt (convInt .i64 v8) fun v9=>opt (binInt .geq v9 t6) fun v10=>ifB v10 (
 opt (binInt .sub v9 t6) fun v11=>F.f78_j1 E Q X0 t0 t1 t6 t7 t8 t9 v11 H1) (
 F.f78_j1 E Q X0 t0 t1 t6 t7 t8 t9 v9 H1)) (
 Q (.tuple #[]) H)
def F.f78 (E:Sy) (x0 x1 x2:Value) (H:AH) (Q:VK):Prop :=
 opt (binInt .sub x2 x1) fun v1=>opt (binInt .geq v1 (.int .i64 8)) fun v2=>ifB v2 (
 opt (convInt .u64 v1) fun v3=>allocW [(.int .u64 0)] H fun v4 H1=>opt (store1 v4 v3 H1) fun H2=>E.call (E.fid i.f84) [v1] H2 fun v5 H3=>opt (binInt .quo v1 (.int .i64 4)) fun v6=>opt (binInt .mul v6 (.int .i64 2)) fun v7=>opt (binInt .add x1 v7) fun v8=>opt (binInt .sub v8 (.int .i64 1)) fun v9=>LoopL (fun l H X0=>F.f78_l1 E Q (nth l 0) (nth l 1) (nth l 2) (nth l 3) (nth l 4) (nth l 5) H X0) [x0,x1,v1,v4,v5,v9] H3) (
 Q (.tuple #[]) H)

def F.f79_j1 (E:Sy) (Q:VK) (t9 t11:Value) (H:AH):Prop :=
 opt (load1 t9 H) fun v1=>opt (binInt .eql v1 (.int .i64 0)) fun v2=>ifB v2 (
 Q (.tuple #[t11,(.int .i64 1)]) H) (
 opt (binInt .eql v1 (.int .i64 12)) fun v3=>ifB v3 (
 Q (.tuple #[t11,(.int .i64 2)]) H) (
 Q (.tuple #[t11,(.int .i64 0)]) H))
def F.f79_j2 (E:Sy) (Q:VK) (t0 t9 t10 t11 t12:Value) (H:AH):Prop :=
 E.call (E.fid i.f83) [t0,t10,t11,t12,t9] H fun v1 H1=>F.f79_j1 E Q t9 v1 H1
def F.f79 (E:Sy) (x0 x1 x2:Value) (H:AH) (Q:VK):Prop :=
 opt (binInt .sub x2 x1) fun v1=>allocW [(.int .i64 0)] H fun v2 H1=>opt (binInt .quo v1 (.int .i64 4)) fun v3=>opt (binInt .mul v3 (.int .i64 1)) fun v4=>opt (binInt .add x1 v4) fun v5=>opt (binInt .quo v1 (.int .i64 4)) fun v6=>opt (binInt .mul v6 (.int .i64 2)) fun v7=>opt (binInt .add x1 v7) fun v8=>opt (binInt .quo v1 (.int .i64 4)) fun v9=>opt (binInt .mul v9 (.int .i64 3)) fun v10=>opt (binInt .add x1 v10) fun v11=>opt (binInt .geq v1 (.int .i64 8)) fun v12=>ifB v12 (
 opt (binInt .geq v1 (.int .i64 50)) fun v13=>ifB v13 (
 E.call (E.fid i.f82) [x0,v5,v2] H1 fun v14 H2=>E.call (E.fid i.f82) [x0,v8,v2] H2 fun v15 H3=>E.call (E.fid i.f82) [x0,v11,v2] H3 fun v16 H4=>F.f79_j2 E Q x0 v2 v14 v15 v16 H4) (
 F.f79_j2 E Q x0 v2 v5 v8 v11 H1)) (
 F.f79_j1 E Q v2 v8 H1)

def F.f90_l1 (E:Sy) (Q:VK) (t0 t6 t7:Value) (H:AH) (X0:LK):Prop :=
 opt (binInt .lss t6 t7) fun v1=>ifB v1 (
 opt (ixSlc 1 t0 t7) fun v2=>opt (load1 v2 H) fun v3=>opt (ixSlc 1 t0 t6) fun v4=>opt (load1 v4 H) fun v5=>opt (ixSlc 1 t0 t6) fun v6=>opt (store1 v6 v3 H) fun H1=>opt (ixSlc 1 t0 t7) fun v7=>opt (store1 v7 v5 H1) fun H2=>opt (binInt .add t6 (.int .i64 1)) fun v8=>opt (binInt .sub t7 (.int .i64 1)) fun v9=>X0 [t0,v8,v9] H2) (
 Q (.tuple #[]) H)
def F.f90 (E:Sy) (x0 x1 x2:Value) (H:AH) (Q:VK):Prop :=
 opt (binInt .sub x2 (.int .i64 1)) fun v1=>LoopL (fun l H X0=>F.f90_l1 E Q (nth l 0) (nth l 1) (nth l 2) H X0) [x0,x1,v1] H

def F.f86_l3 (E:Sy) (Q:VK) (X0:LK) (t0 t1 t2 t7 t8 t10:Value) (H:AH) (X1:LK):Prop :=
 opt (binInt .lss t10 t2) fun v1=>ifB v1 (
 opt (ixSlc 1 t0 t10) fun v2=>opt (load1 v2 H) fun v3=>opt (binInt .sub t10 (.int .i64 1)) fun v4=>opt (ixSlc 1 t0 v4) fun v5=>opt (load1 v5 H) fun v6=>E.call (E.fid i.f0) [v3,v6] H fun v7 H1=>opt (un .not v7) fun v8=>ifB v8 (
 opt (binInt .add t8 (.int .i64 1)) fun v9=>X0 [t0,t1,t2,t7,v9] H1) (
 opt (binInt .sub t10 (.int .i64 1)) fun v10=>opt (binInt .sub t10 (.int .i64 1)) fun v11=>opt (ixSlc 1 t0 v11) fun v12=>opt (load1 v12 H1) fun v13=>opt (ixSlc 1 t0 t10) fun v14=>opt (load1 v14 H1) fun v15=>opt (ixSlc 1 t0 t10) fun v16=>opt (store1 v16 v13 H1) fun H2=>opt (ixSlc 1 t0 v10) fun v17=>opt (store1 v17 v15 H2) fun H3=>opt (binInt .add t10 (.int .i64 1)) fun v18=>X1 [t0,t1,t2,t7,t8,v18] H3)) (
 opt (binInt .add t8 (.int .i64 1)) fun v19=>X0 [t0,t1,t2,t7,v19] H)
def F.f86_j1 (E:Sy) (Q:VK) (X0:LK) (t0 t1 t2 t7 t8:Value) (H:AH):Prop :=
 opt (binInt .sub t2 t7) fun v1=>opt (binInt .geq v1 (.int .i64 2)) fun v2=>ifB v2 (
 opt (binInt .add t7 (.int .i64 1)) fun v3=>LoopL (fun l H X1=>F.f86_l3 E Q X0 (nth l 0) (nth l 1) (nth l 2) (nth l 3) (nth l 4) (nth l 5) H X1) [t0,t1,t2,t7,t8,v3] H) (
 opt (binInt .add t8 (.int .i64 1)) fun v4=>X0 [t0,t1,t2,t7,v4] H)
def F.f86_l4 (E:Sy) (Q:VK) (X0:LK) (t0 t1 t2 t7 t8 t9:Value) (H:AH) (X1:LK):Prop :=
 opt (binInt .geq t9 (.int .i64 1)) fun v1=>ifB v1 (
 opt (ixSlc 1 t0 t9) fun v2=>opt (load1 v2 H) fun v3=>opt (binInt .sub t9 (.int .i64 1)) fun v4=>opt (ixSlc 1 t0 v4) fun v5=>opt (load1 v5 H) fun v6=>E.call (E.fid i.f0) [v3,v6] H fun v7 H1=>opt (un .not v7) fun v8=>ifB v8 (
 F.f86_j1 E Q X0 t0 t1 t2 t7 t8 H1) (
 opt (binInt .sub t9 (.int .i64 1)) fun v9=>opt (binInt .sub t9 (.int .i64 1)) fun v10=>opt (ixSlc 1 t0 v10) fun v11=>opt (load1 v11 H1) fun v12=>opt (ixSlc 1 t0 t9) fun v13=>opt (load1 v13 H1) fun v14=>opt (ixSlc 1 t0 t9) fun v15=>opt (store1 v15 v12 H1) fun H2=>opt (ixSlc 1 t0 v9) fun v16=>opt (store1 v16 v14 H2) fun H3=>opt (binInt .sub t9 (.int .i64 1)) fun v17=>X1 [t0,t1,t2,t7,t8,v17] H3)) (
 F.f86_j1 E Q X0 t0 t1 t2 t7 t8 H)
def F.f86_l2 (E:Sy) (Q:VK) (X0:LK) (t0 t1 t2 t7 t8:Value) (H:AH) (X1:LK):Prop :=
 opt (binInt .lss t7 t2) fun v1=>gd v1 true (fun k=>k t0 H) H fun v2 H1=>gd v1 true (fun k=>k t7 H1) H1 fun v3 H2=>gd v1 true (fun k=>opt (ixSlc 1 v2 v3) fun v=>k v H2) H2 fun v4 H3=>gd v1 true (fun k=>opt (load1 v4 H3) fun v=>k v H3) H3 fun v5 H4=>gd v1 true (fun k=>k t0 H4) H4 fun v6 H5=>gd v1 true (fun k=>k t7 H5) H5 fun v7 H6=>gd v1 true (fun k=>opt (binInt .sub v7 (.int .i64 1)) fun v=>k v H6) H6 fun v8 H7=>gd v1 true (fun k=>opt (ixSlc 1 v6 v8) fun v=>k v H7) H7 fun v9 H8=>gd v1 true (fun k=>opt (load1 v9 H8) fun v=>k v H8) H8 fun v10 H9=>gd v1 true (fun k=>E.call (E.fid i.f0) [v5,v10] H9 fun v h=>k v h) H9 fun v11 H10=>gd v1 true (fun k=>opt (un .not v11) fun v=>k v H10) H10 fun v12 H11=>opt (pick v1 v12 (.bool false)) fun v13=>ifB v13 (
 opt (binInt .add t7 (.int .i64 1)) fun v14=>X1 [t0,t1,t2,v14,t8] H11) (
 opt (binInt .eql t7 t2) fun v15=>ifB v15 (
 Q (.bool true) H11) (
 opt (binInt .sub t2 t1) fun v16=>opt (binInt .lss v16 (.int .i64 50)) fun v17=>ifB v17 (
 Q (.bool false) H11) (
 opt (binInt .sub t7 (.int .i64 1)) fun v18=>opt (binInt .sub t7 (.int .i64 1)) fun v19=>opt (ixSlc 1 t0 v19) fun v20=>opt (load1 v20 H11) fun v21=>opt (ixSlc 1 t0 t7) fun v22=>opt (load1 v22 H11) fun v23=>opt (ixSlc 1 t0 t7) fun v24=>opt (store1 v24 v21 H11) fun H12=>opt (ixSlc 1 t0 v18) fun v25=>opt (store1 v25 v23 H12) fun H13=>opt (binInt .sub t7 t1) fun v26=>opt (binInt .geq v26 (.int .i64 2)) fun v27=>ifB v27 (
 opt (binInt .sub t7 (.int .i64 1)) fun v28=>LoopL (fun l H X1=>F.f86_l4 E Q X0 (nth l 0) (nth l 1) (nth l 2) (nth l 3) (nth l 4) (nth l 5) H X1) [t0,t1,t2,t7,t8,v28] H13) (
 F.f86_j1 E Q X0 t0 t1 t2 t7 t8 H13))))
def F.f86_l1 (E:Sy) (Q:VK) (t0 t1 t2 t7 t8:Value) (H:AH) (X0:LK):Prop :=
 opt (binInt .lss t8 (.int .i64 5)) fun v1=>ifB v1 (
 LoopL (fun l H X1=>F.f86_l2 E Q X0 (nth l 0) (nth l 1) (nth l 2) (nth l 3) (nth l 4) H X1) [t0,t1,t2,t7,t8] H) (
 Q (.bool false) H)
def F.f86 (E:Sy) (x0 x1 x2:Value) (H:AH) (Q:VK):Prop :=
 opt (binInt .add x1 (.int .i64 1)) fun v1=>LoopL (fun l H X0=>F.f86_l1 E Q (nth l 0) (nth l 1) (nth l 2) (nth l 3) (nth l 4) H X0) [x0,x1,x2,v1,(.int .i64 0)] H

def F.f0 (E:Sy) (x0 x1:Value) (H:AH) (Q:VK):Prop :=
 E.call (E.fid i.f1) [x0] H fun v1 H1=>gd v1 true (fun k=>k x1 H1) H1 fun v2 H2=>gd v1 true (fun k=>E.call (E.fid i.f1) [v2] H2 fun v h=>k v h) H2 fun v3 H3=>gd v1 true (fun k=>opt (un .not v3) fun v=>k v H3) H3 fun v4 H4=>opt (pick v1 v4 (.bool false)) fun v5=>gd v5 false (fun k=>k x0 H4) H4 fun v6 H5=>gd v5 false (fun k=>k x1 H5) H5 fun v7 H6=>gd v5 false (fun k=>opt (binStr .lss v6 v7) fun v=>k v H6) H6 fun v8 H7=>opt (pick v5 (.bool true) v8) fun v9=>Q v9 H7

def F.f87_l3 (E:Sy) (Q:VK) (X0:LK) (t0 t1 t9 t10:Value) (H:AH) (X1:LK):Prop :=
 opt (binInt .leq t9 t10) fun v1=>gd v1 true (fun k=>k t0 H) H fun v2 H1=>gd v1 true (fun k=>k t1 H1) H1 fun v3 H2=>gd v1 true (fun k=>opt (ixSlc 1 v2 v3) fun v=>k v H2) H2 fun v4 H3=>gd v1 true (fun k=>opt (load1 v4 H3) fun v=>k v H3) H3 fun v5 H4=>gd v1 true (fun k=>k t0 H4) H4 fun v6 H5=>gd v1 true (fun k=>k t10 H5) H5 fun v7 H6=>gd v1 true (fun k=>opt (ixSlc 1 v6 v7) fun v=>k v H6) H6 fun v8 H7=>gd v1 true (fun k=>opt (load1 v8 H7) fun v=>k v H7) H7 fun v9 H8=>gd v1 true (fun k=>E.call (E.fid i.f0) [v5,v9] H8 fun v h=>k v h) H8 fun v10 H9=>opt (pick v1 v10 (.bool false)) fun v11=>ifB v11 (
 opt (binInt .sub t10 (.int .i64 1)) fun v12=>X1 [t0,t1,t9,v12] H9) (
 opt (binInt .gtr t9 t10) fun v13=>ifB v13 (
 Q t9 H9) (
 opt (ixSlc 1 t0 t10) fun v14=>opt (load1 v14 H9) fun v15=>opt (ixSlc 1 t0 t9) fun v16=>opt (load1 v16 H9) fun v17=>opt (ixSlc 1 t0 t9) fun v18=>opt (store1 v18 v15 H9) fun H10=>opt (ixSlc 1 t0 t10) fun v19=>opt (store1 v19 v17 H10) fun H11=>opt (binInt .add t9 (.int .i64 1)) fun v20=>opt (binInt .sub t10 (.int .i64 1)) fun v21=>X0 [t0,t1,v20,v21] H11))
def F.f87_l2 (E:Sy) (Q:VK) (X0:LK) (t0 t1 t9 t10:Value) (H:AH) (X1:LK):Prop :=
 opt (binInt .leq t9 t10) fun v1=>gd v1 true (fun k=>k t0 H) H fun v2 H1=>gd v1 true (fun k=>k t1 H1) H1 fun v3 H2=>gd v1 true (fun k=>opt (ixSlc 1 v2 v3) fun v=>k v H2) H2 fun v4 H3=>gd v1 true (fun k=>opt (load1 v4 H3) fun v=>k v H3) H3 fun v5 H4=>gd v1 true (fun k=>k t0 H4) H4 fun v6 H5=>gd v1 true (fun k=>k t9 H5) H5 fun v7 H6=>gd v1 true (fun k=>opt (ixSlc 1 v6 v7) fun v=>k v H6) H6 fun v8 H7=>gd v1 true (fun k=>opt (load1 v8 H7) fun v=>k v H7) H7 fun v9 H8=>gd v1 true (fun k=>E.call (E.fid i.f0) [v5,v9] H8 fun v h=>k v h) H8 fun v10 H9=>gd v1 true (fun k=>opt (un .not v10) fun v=>k v H9) H9 fun v11 H10=>opt (pick v1 v11 (.bool false)) fun v12=>ifB v12 (
 opt (binInt .add t9 (.int .i64 1)) fun v13=>X1 [t0,t1,v13,t10] H10) (
 LoopL (fun l H X1=>F.f87_l3 E Q X0 (nth l 0) (nth l 1) (nth l 2) (nth l 3) H X1) [t0,t1,t9,t10] H10)
def F.f87_l1 (E:Sy) (Q:VK) (t0 t1 t9 t10:Value) (H:AH) (X0:LK):Prop :=
 LoopL (fun l H X1=>F.f87_l2 E Q X0 (nth l 0) (nth l 1) (nth l 2) (nth l 3) H X1) [t0,t1,t9,t10] H
def F.f87 (E:Sy) (x0 x1 x2 x3:Value) (H:AH) (Q:VK):Prop :=
 opt (ixSlc 1 x0 x3) fun v1=>opt (load1 v1 H) fun v2=>opt (ixSlc 1 x0 x1) fun v3=>opt (load1 v3 H) fun v4=>opt (ixSlc 1 x0 x1) fun v5=>opt (store1 v5 v2 H) fun H1=>opt (ixSlc 1 x0 x3) fun v6=>opt (store1 v6 v4 H1) fun H2=>opt (binInt .add x1 (.int .i64 1)) fun v7=>opt (binInt .sub x2 (.int .i64 1)) fun v8=>LoopL (fun l H X0=>F.f87_l1 E Q (nth l 0) (nth l 1) (nth l 2) (nth l 3) H X0) [x0,x1,v7,v8] H2

def F.f88_l5 (E:Sy) (Q:VK) (X0:LK) (t0 t1 t10 t11:Value) (H:AH) (X1:LK):Prop :=
 opt (binInt .leq t10 t11) fun v1=>gd v1 true (fun k=>k t0 H) H fun v2 H1=>gd v1 true (fun k=>k t11 H1) H1 fun v3 H2=>gd v1 true (fun k=>opt (ixSlc 1 v2 v3) fun v=>k v H2) H2 fun v4 H3=>gd v1 true (fun k=>opt (load1 v4 H3) fun v=>k v H3) H3 fun v5 H4=>gd v1 true (fun k=>k t0 H4) H4 fun v6 H5=>gd v1 true (fun k=>k t1 H5) H5 fun v7 H6=>gd v1 true (fun k=>opt (ixSlc 1 v6 v7) fun v=>k v H6) H6 fun v8 H7=>gd v1 true (fun k=>opt (load1 v8 H7) fun v=>k v H7) H7 fun v9 H8=>gd v1 true (fun k=>E.call (E.fid i.f0) [v5,v9] H8 fun v h=>k v h) H8 fun v10 H9=>gd v1 true (fun k=>opt (un .not v10) fun v=>k v H9) H9 fun v11 H10=>opt (pick v1 v11 (.bool false)) fun v12=>ifB v12 (
 opt (binInt .sub t11 (.int .i64 1)) fun v13=>X1 [t0,t1,t10,v13] H10) (
 opt (binInt .gtr t10 t11) fun v14=>ifB v14 (
 opt (ixSlc 1 t0 t1) fun v15=>opt (load1 v15 H10) fun v16=>opt (ixSlc 1 t0 t11) fun v17=>opt (load1 v17 H10) fun v18=>opt (ixSlc 1 t0 t11) fun v19=>opt (store1 v19 v16 H10) fun H11=>opt (ixSlc 1 t0 t1) fun v20=>opt (store1 v20 v18 H11) fun H12=>Q (.tuple #[t11,(.bool false)]) H12) (
 opt (ixSlc 1 t0 t11) fun v21=>opt (load1 v21 H10) fun v22=>opt (ixSlc 1 t0 t10) fun v23=>opt (load1 v23 H10) fun v24=>opt (ixSlc 1 t0 t10) fun v25=>opt (store1 v25 v22 H10) fun H13=>opt (ixSlc 1 t0 t11) fun v26=>opt (store1 v26 v24 H13) fun H14=>opt (binInt .add t10 (.int .i64 1)) fun v27=>opt (binInt .sub t11 (.int .i64 1)) fun v28=>X0 [t0,t1,v27,v28] H14))
def F.f88_l4 (E:Sy) (Q:VK) (X0:LK) (t0 t1 t10 t11:Value) (H:AH) (X1:LK):Prop :=
 opt (binInt .leq t10 t11) fun v1=>gd v1 true (fun k=>k t0 H) H fun v2 H1=>gd v1 true (fun k=>k t10 H1) H1 fun v3 H2=>gd v1 true (fun k=>opt (ixSlc 1 v2 v3) fun v=>k v H2) H2 fun v4 H3=>gd v1 true (fun k=>opt (load1 v4 H3) fun v=>k v H3) H3 fun v5 H4=>gd v1 true (fun k=>k t0 H4) H4 fun v6 H5=>gd v1 true (fun k=>k t1 H5) H5 fun v7 H6=>gd v1 true (fun k=>opt (ixSlc 1 v6 v7) fun v=>k v H6) H6 fun v8 H7=>gd v1 true (fun k=>opt (load1 v8 H7) fun v=>k v H7) H7 fun v9 H8=>gd v1 true (fun k=>E.call (E.fid i.f0) [v5,v9] H8 fun v h=>k v h) H8 fun v10 H9=>opt (pick v1 v10 (.bool false)) fun v11=>ifB v11 (
 opt (binInt .add t10 (.int .i64 1)) fun v12=>X1 [t0,t1,v12,t11] H9) (
 LoopL (fun l H X1=>F.f88_l5 E Q X0 (nth l 0) (nth l 1) (nth l 2) (nth l 3) H X1) [t0,t1,t10,t11] H9)
def F.f88_l3 (E:Sy) (Q:VK) (t0 t1 t10 t11:Value) (H:AH) (X0:LK):Prop :=
 LoopL (fun l H X1=>F.f88_l4 E Q X0 (nth l 0) (nth l 1) (nth l 2) (nth l 3) H X1) [t0,t1,t10,t11] H
def F.f88_l2 (E:Sy) (Q:VK) (t0 t1 t10 t11:Value) (H:AH) (X0:LK):Prop :=
 opt (binInt .leq t10 t11) fun v1=>gd v1 true (fun k=>k t0 H) H fun v2 H1=>gd v1 true (fun k=>k t11 H1) H1 fun v3 H2=>gd v1 true (fun k=>opt (ixSlc 1 v2 v3) fun v=>k v H2) H2 fun v4 H3=>gd v1 true (fun k=>opt (load1 v4 H3) fun v=>k v H3) H3 fun v5 H4=>gd v1 true (fun k=>k t0 H4) H4 fun v6 H5=>gd v1 true (fun k=>k t1 H5) H5 fun v7 H6=>gd v1 true (fun k=>opt (ixSlc 1 v6 v7) fun v=>k v H6) H6 fun v8 H7=>gd v1 true (fun k=>opt (load1 v8 H7) fun v=>k v H7) H7 fun v9 H8=>gd v1 true (fun k=>E.call (E.fid i.f0) [v5,v9] H8 fun v h=>k v h) H8 fun v10 H9=>gd v1 true (fun k=>opt (un .not v10) fun v=>k v H9) H9 fun v11 H10=>opt (pick v1 v11 (.bool false)) fun v12=>ifB v12 (
 opt (binInt .sub t11 (.int .i64 1)) fun v13=>X0 [t0,t1,t10,v13] H10) (
 opt (binInt .gtr t10 t11) fun v14=>ifB v14 (
 opt (ixSlc 1 t0 t1) fun v15=>opt (load1 v15 H10) fun v16=>opt (ixSlc 1 t0 t11) fun v17=>opt (load1 v17 H10) fun v18=>opt (ixSlc 1 t0 t11) fun v19=>opt (store1 v19 v16 H10) fun H11=>opt (ixSlc 1 t0 t1) fun v20=>opt (store1 v20 v18 H11) fun H12=>Q (.tuple #[t11,(.bool true)]) H12) (
 opt (ixSlc 1 t0 t11) fun v21=>opt (load1 v21 H10) fun v22=>opt (ixSlc 1 t0 t10) fun v23=>opt (load1 v23 H10) fun v24=>opt (ixSlc 1 t0 t10) fun v25=>opt (store1 v25 v22 H10) fun H13=>opt (ixSlc 1 t0 t11) fun v26=>opt (store1 v26 v24 H13) fun H14=>opt (binInt .add t10 (.int .i64 1)) fun v27=>opt (binInt .sub t11 (.int .i64 1)) fun v28=>LoopL (fun l H X0=>F.f88_l3 E Q (nth l 0) (nth l 1) (nth l 2) (nth l 3) H X0) [t0,t1,v27,v28] H14))
def F.f88_l1 (E:Sy) (Q:VK) (t0 t1 t10 t11:Value) (H:AH) (X0:LK):Prop :=
 opt (binInt .leq t10 t11) fun v1=>gd v1 true (fun k=>k t0 H) H fun v2 H1=>gd v1 true (fun k=>k t10 H1) H1 fun v3 H2=>gd v1 true (fun k=>opt (ixSlc 1 v2 v3) fun v=>k v H2) H2 fun v4 H3=>gd v1 true (fun k=>opt (load1 v4 H3) fun v=>k v H3) H3 fun v5 H4=>gd v1 true (fun k=>k t0 H4) H4 fun v6 H5=>gd v1 true (fun k=>k t1 H5) H5 fun v7 H6=>gd v1 true (fun k=>opt (ixSlc 1 v6 v7) fun v=>k v H6) H6 fun v8 H7=>gd v1 true (fun k=>opt (load1 v8 H7) fun v=>k v H7) H7 fun v9 H8=>gd v1 true (fun k=>E.call (E.fid i.f0) [v5,v9] H8 fun v h=>k v h) H8 fun v10 H9=>opt (pick v1 v10 (.bool false)) fun v11=>ifB v11 (
 opt (binInt .add t10 (.int .i64 1)) fun v12=>X0 [t0,t1,v12,t11] H9) (
 LoopL (fun l H X0=>F.f88_l2 E Q (nth l 0) (nth l 1) (nth l 2) (nth l 3) H X0) [t0,t1,t10,t11] H9)
def F.f88 (E:Sy) (x0 x1 x2 x3:Value) (H:AH) (Q:VK):Prop :=
 opt (ixSlc 1 x0 x3) fun v1=>opt (load1 v1 H) fun v2=>opt (ixSlc 1 x0 x1) fun v3=>opt (load1 v3 H) fun v4=>opt (ixSlc 1 x0 x1) fun v5=>opt (store1 v5 v2 H) fun H1=>opt (ixSlc 1 x0 x3) fun v6=>opt (store1 v6 v4 H1) fun H2=>opt (binInt .add x1 (.int .i64 1)) fun v7=>opt (binInt .sub x2 (.int .i64 1)) fun v8=>LoopL (fun l H X0=>F.f88_l1 E Q (nth l 0) (nth l 1) (nth l 2) (nth l 3) H X0) [x0,x1,v7,v8] H2

def F.f93_l1 (E:Sy) (Q:VK) (t0 t1 t5:Value) (H:AH) (X0:LK):Prop :=
 E.call (E.fid i.f95) [t0,t1] H fun v1 H1=>opt (binInt .eql v1 (.int .i64 (-1))) fun v2=>ifB v2 (
 Q t5 H1) (
 opt (binInt .add t5 (.int .i64 1)) fun v3=>opt (lenStr t1) fun v4=>opt (binInt .add v1 v4) fun v5=>opt (slStr t0 (some v5) none) fun v6=>X0 [v6,t1,v3] H1)
def F.f93 (E:Sy) (x0 x1:Value) (H:AH) (Q:VK):Prop :=
 opt (lenStr x1) fun v1=>opt (binInt .eql v1 (.int .i64 0)) fun v2=>ifB v2 (
 E.call (E.fid i.f104) [x0] H fun v3 H1=>opt (binInt .add v3 (.int .i64 1)) fun v4=>Q v4 H1) (
 opt (lenStr x1) fun v5=>opt (binInt .eql v5 (.int .i64 1)) fun v6=>ifB v6 (
 opt (ixStr x1 (.int .i64 0)) fun v7=>E.call (E.fid i.f22) [x0,v7] H fun v8 H2=>Q v8 H2) (
 LoopL (fun l H X0=>F.f93_l1 E Q (nth l 0) (nth l 1) (nth l 2) H X0) [x0,x1,(.int .i64 0)] H))

def F.f95 (E:Sy) (x0 x1:Value) (H:AH) (Q:VK):Prop :=
 E.call (E.fid i.f28) [x0,x1] H fun v1 H1=>Q v1 H1

def F.f91_j1 (E:Sy) (Q:VK) (X0:LK) (t0 t2 t3 t8 t9:Value) (H:AH):Prop :=
 opt (binInt .add t3 t8) fun v1=>opt (ixSlc 1 t0 v1) fun v2=>opt (load1 v2 H) fun v3=>opt (binInt .add t3 t9) fun v4=>opt (ixSlc 1 t0 v4) fun v5=>opt (load1 v5 H) fun v6=>E.call (E.fid i.f0) [v3,v6] H fun v7 H1=>opt (un .not v7) fun v8=>ifB v8 (
 Q (.tuple #[]) H1) (
 opt (binInt .add t3 t8) fun v9=>opt (binInt .add t3 t9) fun v10=>opt (binInt .add t3 t9) fun v11=>opt (ixSlc 1 t0 v11) fun v12=>opt (load1 v12 H1) fun v13=>opt (binInt .add t3 t8) fun v14=>opt (ixSlc 1 t0 v14) fun v15=>opt (load1 v15 H1) fun v16=>opt (ixSlc 1 t0 v9) fun v17=>opt (store1 v17 v13 H1) fun H2=>opt (ixSlc 1 t0 v10) fun v18=>opt (store1 v18 v16 H2) fun H3=>X0 [t0,t2,t3,t9] H3)
def F.f91_l1 (E:Sy) (Q:VK) (t0 t2 t3 t8:Value) (H:AH) (X0:LK):Prop :=
 opt (binInt .mul (.int .i64 2) t8) fun v1=>opt (binInt .add v1 (.int .i64 1)) fun v2=>opt (binInt .geq v2 t2) fun v3=>ifB v3 (
 Q (.tuple #[]) H) (
 opt (binInt .add v2 (.int .i64 1)) fun v4=>opt (binInt .lss v4 t2) fun v5=>gd v5 true (fun k=>k t0 H) H fun v6 H1=>gd v5 true (fun k=>k t3 H1) H1 fun v7 H2=>gd v5 true (fun k=>k v2 H2) H2 fun v8 H3=>gd v5 true (fun k=>opt (binInt .add v7 v8) fun v=>k v H3) H3 fun v9 H4=>gd v5 true (fun k=>opt (ixSlc 1 v6 v9) fun v=>k v H4) H4 fun v10 H5=>gd v5 true (fun k=>opt (load1 v10 H5) fun v=>k v H5) H5 fun v11 H6=>gd v5 true (fun k=>k t0 H6) H6 fun v12 H7=>gd v5 true (fun k=>k t3 H7) H7 fun v13 H8=>gd v5 true (fun k=>k v2 H8) H8 fun v14 H9=>gd v5 true (fun k=>opt (binInt .add v13 v14) fun v=>k v H9) H9 fun v15 H10=>gd v5 true (fun k=>opt (binInt .add v15 (.int .i64 1)) fun v=>k v H10) H10 fun v16 H11=>gd v5 true (fun k=>opt (ixSlc 1 v12 v16) fun v=>k v H11) H11 fun v17 H12=>gd v5 true (fun k=>opt (load1 v17 H12) fun v=>k v H12) H12 fun v18 H13=>gd v5 true (fun k=>E.call (E.fid i.f0) [v11,v18] H13 fun v h=>k v h) H13 fun v19 H14=>opt (pick v5 v19 (.bool false)) fun v20=>ifB v20 (
 opt (binInt .add v2 (.int .i64 1)) fun v21=>F.f91_j1 E Q X0 t0 t2 t3 t8 v21 H14) (
 F.f91_j1 E Q X0 t0 t2 t3 t8 v2 H14))
def F.f91 (E:Sy) (x0 x1 x2 x3:Value) (H:AH) (Q:VK):Prop :=
 LoopL (fun l H X0=>F.f91_l1 E Q (nth l 0) (nth l 1) (nth l 2) (nth l 3) H X0) [x0,x2,x3,x1] H

def F.f84 (E:Sy) (x0:Value) (H:AH) (Q:VK):Prop :=
 opt (convInt .u64 x0) fun v1=>E.call (E.fid i.f30) [v1] H fun v2 H1=>opt (binInt .shl (.int .u64 1) v2) fun v3=>Q v3 H1

def F.f92 (E:Sy) (x0:Value) (H:AH) (Q:VK):Prop :=
 opt (nilCk x0) fun v1=>opt (load1 v1 H) fun v2=>opt (nilCk x0) fun v3=>opt (load1 v3 H) fun v4=>opt (binInt .shl v4 (.int .u64 13)) fun v5=>opt (binInt .xor v2 v5) fun v6=>opt (nilCk x0) fun v7=>opt (store1 v7 v6 H) fun H1=>opt (nilCk x0) fun v8=>opt (load1 v8 H1) fun v9=>opt (nilCk x0) fun v10=>opt (load1 v10 H1) fun v11=>opt (binInt .shr v11 (.int .u64 7)) fun v12=>opt (binInt .xor v9 v12) fun v13=>opt (nilCk x0) fun v14=>opt (store1 v14 v13 H1) fun H2=>opt (nilCk x0) fun v15=>opt (load1 v15 H2) fun v16=>opt (nilCk x0) fun v17=>opt (load1 v17 H2) fun v18=>opt (binInt .shl v18 (.int .u64 17)) fun v19=>opt (binInt .xor v16 v19) fun v20=>opt (nilCk x0) fun v21=>opt (store1 v21 v20 H2) fun H3=>opt (nilCk x0) fun v22=>opt (load1 v22 H3) fun v23=>Q v23 H3

def F.f82 (E:Sy) (x0 x1 x2:Value) (H:AH) (Q:VK):Prop :=
 opt (binInt .sub x1 (.int .i64 1)) fun v1=>opt (binInt .add x1 (.int .i64 1)) fun v2=>E.call (E.fid i.f83) [x0,v1,x1,v2,x2] H fun v3 H1=>Q v3 H1

def F.f83 (E:Sy) (x0 x1 x2 x3 x4:Value) (H:AH) (Q:VK):Prop :=
 E.call (E.fid i.f85) [x0,x1,x2,x4] H fun v1 H1=>opt (ext v1 0) fun v2=>opt (ext v1 1) fun v3=>E.call (E.fid i.f85) [x0,v3,x3,x4] H1 fun v4 H2=>opt (ext v4 0) fun v5=>opt (ext v4 1) fun v6=>E.call (E.fid i.f85) [x0,v2,v5,x4] H2 fun v7 H3=>opt (ext v7 0) fun v8=>opt (ext v7 1) fun v9=>Q v9 H3

def F.f1 (E:Sy) (x0:Value) (H:AH) (Q:VK):Prop :=
 opt (binStr .neq x0 x0) fun v1=>Q v1 H

def F.f28_j1 (E:Sy) (Q:VK) (X0:LK) (t0 t1 t5 t6 t7 t8 t9 t10:Value) (H:AH):Prop :=
 opt (binInt .add t8 (.int .i64 1)) fun v1=>opt (ixStr t0 v1) fun v2=>opt (binInt .eql v2 t7) fun v3=>gd v3 true (fun k=>k t0 H) H fun v4 H1=>gd v3 true (fun k=>k t8 H1) H1 fun v5 H2=>gd v3 true (fun k=>k t8 H2) H2 fun v6 H3=>gd v3 true (fun k=>k t5 H3) H3 fun v7 H4=>gd v3 true (fun k=>opt (binInt .add v6 v7) fun v=>k v H4) H4 fun v8 H5=>gd v3 true (fun k=>opt (slStr v4 (some v5) (some v8)) fun v=>k v H5) H5 fun v9 H6=>gd v3 true (fun k=>k t1 H6) H6 fun v10 H7=>gd v3 true (fun k=>opt (binStr .eql v9 v10) fun v=>k v H7) H7 fun v11 H8=>opt (pick v3 v11 (.bool false)) fun v12=>ifB v12 (
 Q t8 H8) (
 opt (binInt .add t8 (.int .i64 1)) fun v13=>opt (binInt .add t10 (.int .i64 1)) fun v14=>opt (load1 (.pointer (some ⟨E.gid 0,0,none⟩)) H8) fun v15=>opt (binInt .leq t5 v15) fun v16=>gd v16 true (fun k=>k v14 H8) H8 fun v17 H9=>gd v16 true (fun k=>k v13 H9) H9 fun v18 H10=>gd v16 true (fun k=>E.call (E.fid i.f23) [v18] H10 fun v h=>k v h) H10 fun v19 H11=>gd v16 true (fun k=>opt (binInt .gtr v17 v19) fun v=>k v H11) H11 fun v20 H12=>opt (pick v16 v20 (.bool false)) fun v21=>ifB v21 (
 opt (slStr t0 (some v13) none) fun v22=>E.call (E.fid i.f26) [v22,t1] H12 fun v23 H13=>opt (binInt .geq v23 (.int .i64 0)) fun v24=>ifB v24 (
 opt (binInt .add v23 v13) fun v25=>Q v25 H13) (
 Q (.int .i64 (-1)) H13)) (
 opt (load1 (.pointer (some ⟨E.gid 0,0,none⟩)) H12) fun v26=>opt (binInt .gtr t5 v26) fun v27=>gd v27 true (fun k=>k v14 H12) H12 fun v28 H14=>gd v27 true (fun k=>k v13 H14) H14 fun v29 H15=>gd v27 true (fun k=>opt (binInt .shr v29 (.int .u64 4)) fun v=>k v H15) H15 fun v30 H16=>gd v27 true (fun k=>opt (binInt .add (.int .i64 4) v30) fun v=>k v H16) H16 fun v31 H17=>gd v27 true (fun k=>opt (binInt .geq v28 v31) fun v=>k v H17) H17 fun v32 H18=>opt (pick v27 v32 (.bool false)) fun v33=>gd v33 true (fun k=>k v13 H18) H18 fun v34 H19=>gd v33 true (fun k=>k t9 H19) H19 fun v35 H20=>gd v33 true (fun k=>opt (binInt .lss v34 v35) fun v=>k v H20) H20 fun v36 H21=>opt (pick v33 v36 (.bool false)) fun v37=>ifB v37 (
 opt (slStr t0 (some v13) none) fun v38=>E.call (E.fid i.f25) [v38,t1] H21 fun v39 H22=>opt (binInt .lss v39 (.int .i64 0)) fun v40=>ifB v40 (
 Q (.int .i64 (-1)) H22) (
 opt (binInt .add v13 v39) fun v41=>Q v41 H22)) (
 X0 [t0,t1,t5,t6,t7,v13,t9,v14] H21)))
def F.f28_l1 (E:Sy) (Q:VK) (t0 t1 t5 t6 t7 t8 t9 t10:Value) (H:AH) (X0:LK):Prop :=
 opt (binInt .lss t8 t9) fun v1=>ifB v1 (
 opt (ixStr t0 t8) fun v2=>opt (binInt .neq v2 t6) fun v3=>ifB v3 (
 opt (binInt .add t8 (.int .i64 1)) fun v4=>opt (slStr t0 (some v4) (some t9)) fun v5=>E.call (E.fid i.f29) [v5,t6] H fun v6 H1=>opt (binInt .lss v6 (.int .i64 0)) fun v7=>ifB v7 (
 Q (.int .i64 (-1)) H1) (
 opt (binInt .add v6 (.int .i64 1)) fun v8=>opt (binInt .add t8 v8) fun v9=>F.f28_j1 E Q X0 t0 t1 t5 t6 t7 v9 t9 t10 H1)) (
 F.f28_j1 E Q X0 t0 t1 t5 t6 t7 t8 t9 t10 H)) (
 Q (.int .i64 (-1)) H)
def F.f28 (E:Sy) (x0 x1:Value) (H:AH) (Q:VK):Prop :=
 opt (lenStr x1) fun v1=>opt (binInt .eql v1 (.int .i64 0)) fun v2=>gd v2 false (fun k=>k x1 H) H fun v3 H1=>gd v2 false (fun k=>k x0 H1) H1 fun v4 H2=>gd v2 false (fun k=>opt (binStr .eql v3 v4) fun v=>k v H2) H2 fun v5 H3=>opt (pick v2 (.bool true) v5) fun v6=>ifB v6 (
 Q (.int .i64 0) H3) (
 opt (binInt .eql v1 (.int .i64 1)) fun v7=>ifB v7 (
 opt (ixStr x1 (.int .i64 0)) fun v8=>E.call (E.fid i.f29) [x0,v8] H3 fun v9 H4=>Q v9 H4) (
 opt (lenStr x0) fun v10=>opt (binInt .geq v1 v10) fun v11=>ifB v11 (
 Q (.int .i64 (-1)) H3) (
 opt (load1 (.pointer (some ⟨E.gid 0,0,none⟩)) H3) fun v12=>opt (binInt .leq v1 v12) fun v13=>gd v13 true (fun k=>k x0 H3) H3 fun v14 H5=>gd v13 true (fun k=>opt (lenStr v14) fun v=>k v H5) H5 fun v15 H6=>gd v13 true (fun k=>opt (binInt .leq v15 (.int .i64 64)) fun v=>k v H6) H6 fun v16 H7=>opt (pick v13 v16 (.bool false)) fun v17=>ifB v17 (
 E.call (E.fid i.f26) [x0,x1] H7 fun v18 H8=>Q v18 H8) (
 opt (ixStr x1 (.int .i64 0)) fun v19=>opt (ixStr x1 (.int .i64 1)) fun v20=>opt (lenStr x0) fun v21=>opt (binInt .sub v21 v1) fun v22=>opt (binInt .add v22 (.int .i64 1)) fun v23=>LoopL (fun l H X0=>F.f28_l1 E Q (nth l 0) (nth l 1) (nth l 2) (nth l 3) (nth l 4) (nth l 5) (nth l 6) (nth l 7) H X0) [x0,x1,v1,v19,v20,(.int .i64 0),v23,(.int .i64 0)] H7))))

def F.f85 (E:Sy) (x0 x1 x2 x3:Value) (H:AH) (Q:VK):Prop :=
 opt (ixSlc 1 x0 x2) fun v1=>opt (load1 v1 H) fun v2=>opt (ixSlc 1 x0 x1) fun v3=>opt (load1 v3 H) fun v4=>E.call (E.fid i.f0) [v2,v4] H fun v5 H1=>ifB v5 (
 opt (nilCk x3) fun v6=>opt (load1 v6 H1) fun v7=>opt (binInt .add v7 (.int .i64 1)) fun v8=>opt (nilCk x3) fun v9=>opt (store1 v9 v8 H1) fun H2=>Q (.tuple #[x2,x1]) H2) (
 Q (.tuple #[x1,x2]) H1)

def F.f29 (E:Sy) (x0 x1:Value) (H:AH) (Q:VK):Prop :=
 E.call (E.fid i.f24) [x0,x1] H fun v1 H1=>Q v1 H1
structure Fold (E:Sy):Prop where
  mono:MonoC E.call
  f49:∀ x0 x1 H Q,F.f49 E x0 x1 H Q->E.call (E.fid i.f49) [x0,x1] H Q
  f45:∀ H Q,F.f45 E H Q->E.call (E.fid i.f45) [] H Q
  f47:∀ x0 H Q,F.f47 E x0 H Q->E.call (E.fid i.f47) [x0] H Q
  f46:∀ x0 H Q,F.f46 E x0 H Q->E.call (E.fid i.f46) [x0] H Q
  f37:∀ x0 x1 H Q,F.f37 E x0 x1 H Q->E.call (E.fid i.f37) [x0,x1] H Q
  f109:∀ x0 x1 H Q,F.f109 E x0 x1 H Q->E.call (E.fid i.f109) [x0,x1] H Q
  f106:∀ x0 x1 H Q,F.f106 E x0 x1 H Q->E.call (E.fid i.f106) [x0,x1] H Q
  f51:∀ x0 x1 x2 H Q,F.f51 E x0 x1 x2 H Q->E.call (E.fid i.f51) [x0,x1,x2] H Q
  f41:∀ H Q,F.f41 E H Q->E.call (E.fid i.f41) [] H Q
  f108:∀ x0 x1 x2 x3 H Q,F.f108 E x0 x1 x2 x3 H Q->E.call (E.fid i.f108) [x0,x1,x2,x3] H Q
  f105:∀ x0 H Q,F.f105 E x0 H Q->E.call (E.fid i.f105) [x0] H Q
  f12:∀ x0 x1 x2 x3 x4 H Q,F.f12 E x0 x1 x2 x3 x4 H Q->E.call (E.fid i.f12) [x0,x1,x2,x3,x4] H Q
  f53:∀ x0 H Q,F.f53 E x0 H Q->E.call (E.fid i.f53) [x0] H Q
  f48:∀ x0 x1 x2 H Q,F.f48 E x0 x1 x2 H Q->E.call (E.fid i.f48) [x0,x1,x2] H Q
  f38:∀ x0 x1 H Q,F.f38 E x0 x1 H Q->E.call (E.fid i.f38) [x0,x1] H Q
  f76:∀ x0 x1 H Q,F.f76 E x0 x1 H Q->E.call (E.fid i.f76) [x0,x1] H Q
  f111:∀ x0 x1 x2 H Q,F.f111 E x0 x1 x2 H Q->E.call (E.fid i.f111) [x0,x1,x2] H Q
  f107:∀ x0 x1 H Q,F.f107 E x0 x1 H Q->E.call (E.fid i.f107) [x0,x1] H Q
  f35:∀ x0 x1 H Q,F.f35 E x0 x1 H Q->E.call (E.fid i.f35) [x0,x1] H Q
  f9:∀ x0 x1 H Q,F.f9 E x0 x1 H Q->E.call (E.fid i.f9) [x0,x1] H Q
  f112:∀ x0 x1 x2 H Q,F.f112 E x0 x1 x2 H Q->E.call (E.fid i.f112) [x0,x1,x2] H Q
  f94:∀ x0 x1 H Q,F.f94 E x0 x1 H Q->E.call (E.fid i.f94) [x0,x1] H Q
  f116:∀ x0 x1 H Q,F.f116 E x0 x1 H Q->E.call (E.fid i.f116) [x0,x1] H Q
  f4:∀ x0 H Q,F.f4 E x0 H Q->E.call (E.fid i.f4) [x0] H Q
  f33:∀ H Q,F.f33 E H Q->E.call (E.fid i.f33) [] H Q
  f19:∀ x0 x1 x2 H Q,F.f19 E x0 x1 x2 H Q->E.call (E.fid i.f19) [x0,x1,x2] H Q
  f16:∀ x0 x1 H Q,F.f16 E x0 x1 H Q->E.call (E.fid i.f16) [x0,x1] H Q
  f103:∀ x0 x1 H Q,F.f103 E x0 x1 H Q->E.call (E.fid i.f103) [x0,x1] H Q
  f50:∀ H Q,F.f50 E H Q->E.call (E.fid i.f50) [] H Q
  f42:∀ x0 x1 x2 H Q,F.f42 E x0 x1 x2 H Q->E.call (E.fid i.f42) [x0,x1,x2] H Q
  f34:∀ x0 x1 x2 H Q,F.f34 E x0 x1 x2 H Q->E.call (E.fid i.f34) [x0,x1,x2] H Q
  f44:∀ x0 H Q,F.f44 E x0 H Q->E.call (E.fid i.f44) [x0] H Q
  f55:∀ x0 x1 x2 H Q,F.f55 E x0 x1 x2 H Q->E.call (E.fid i.f55) [x0,x1,x2] H Q
  f10:∀ x0 x1 x2 H Q,F.f10 E x0 x1 x2 H Q->E.call (E.fid i.f10) [x0,x1,x2] H Q
  f58:∀ x0 x1 x2 H Q,F.f58 E x0 x1 x2 H Q->E.call (E.fid i.f58) [x0,x1,x2] H Q
  f8:∀ x0 x1 H Q,F.f8 E x0 x1 H Q->E.call (E.fid i.f8) [x0,x1] H Q
  f11:∀ x0 x1 x2 H Q,F.f11 E x0 x1 x2 H Q->E.call (E.fid i.f11) [x0,x1,x2] H Q
  f113:∀ x0 H Q,F.f113 E x0 H Q->E.call (E.fid i.f113) [x0] H Q
  f36:∀ x0 x1 H Q,F.f36 E x0 x1 H Q->E.call (E.fid i.f36) [x0,x1] H Q
  f114:∀ x0 H Q,F.f114 E x0 H Q->E.call (E.fid i.f114) [x0] H Q
  f27:∀ x0 x1 H Q,F.f27 E x0 x1 H Q->E.call (E.fid i.f27) [x0,x1] H Q
  f110:∀ x0 x1 H Q,F.f110 E x0 x1 H Q->E.call (E.fid i.f110) [x0,x1] H Q
  f115:∀ x0 x1 H Q,F.f115 E x0 x1 H Q->E.call (E.fid i.f115) [x0,x1] H Q
  f17:∀ x0 x1 H Q,F.f17 E x0 x1 H Q->E.call (E.fid i.f17) [x0,x1] H Q
  f2:∀ x0 H Q,F.f2 E x0 H Q->E.call (E.fid i.f2) [x0] H Q
  f43:∀ H Q,F.f43 E H Q->E.call (E.fid i.f43) [] H Q
  f61:∀ x0 x1 x2 x3 x4 H Q,F.f61 E x0 x1 x2 x3 x4 H Q->E.call (E.fid i.f61) [x0,x1,x2,x3,x4] H Q
  f5:∀ x0 x1 x2 x3 H Q,F.f5 E x0 x1 x2 x3 H Q->E.call (E.fid i.f5) [x0,x1,x2,x3] H Q
  f54:∀ x0 x1 x2 x3 H Q,F.f54 E x0 x1 x2 x3 H Q->E.call (E.fid i.f54) [x0,x1,x2,x3] H Q
  f7:∀ x0 x1 x2 x3 H Q,F.f7 E x0 x1 x2 x3 H Q->E.call (E.fid i.f7) [x0,x1,x2,x3] H Q
  f57:∀ x0 x1 x2 x3 H Q,F.f57 E x0 x1 x2 x3 H Q->E.call (E.fid i.f57) [x0,x1,x2,x3] H Q
  f13:∀ x0 x1 x2 x3 x4 H Q,F.f13 E x0 x1 x2 x3 x4 H Q->E.call (E.fid i.f13) [x0,x1,x2,x3,x4] H Q
  f62:∀ x0 x1 x2 x3 x4 H Q,F.f62 E x0 x1 x2 x3 x4 H Q->E.call (E.fid i.f62) [x0,x1,x2,x3,x4] H Q
  f15:∀ x0 x1 x2 x3 H Q,F.f15 E x0 x1 x2 x3 H Q->E.call (E.fid i.f15) [x0,x1,x2,x3] H Q
  f66:∀ x0 x1 x2 x3 H Q,F.f66 E x0 x1 x2 x3 H Q->E.call (E.fid i.f66) [x0,x1,x2,x3] H Q
  f6:∀ x0 x1 x2 H Q,F.f6 E x0 x1 x2 H Q->E.call (E.fid i.f6) [x0,x1,x2] H Q
  f56:∀ x0 x1 x2 H Q,F.f56 E x0 x1 x2 H Q->E.call (E.fid i.f56) [x0,x1,x2] H Q
  f60:∀ x0 x1 x2 H Q,F.f60 E x0 x1 x2 H Q->E.call (E.fid i.f60) [x0,x1,x2] H Q
  f39:∀ x0 x1 H Q,F.f39 E x0 x1 H Q->E.call (E.fid i.f39) [x0,x1] H Q
  f69:∀ x0 x1 H Q,F.f69 E x0 x1 H Q->E.call (E.fid i.f69) [x0,x1] H Q
  f64:∀ x0 x1 H Q,F.f64 E x0 x1 H Q->E.call (E.fid i.f64) [x0,x1] H Q
  f21:∀ x0 x1 H Q,F.f21 E x0 x1 H Q->E.call (E.fid i.f21) [x0,x1] H Q
  f63:∀ x0 x1 H Q,F.f63 E x0 x1 H Q->E.call (E.fid i.f63) [x0,x1] H Q
  f72:∀ x0 x1 H Q,F.f72 E x0 x1 H Q->E.call (E.fid i.f72) [x0,x1] H Q
  f77:∀ x0 H Q,F.f77 E x0 H Q->E.call (E.fid i.f77) [x0] H Q
  f98:∀ x0 x1 H Q,F.f98 E x0 x1 H Q->E.call (E.fid i.f98) [x0,x1] H Q
  f96:∀ x0 x1 H Q,F.f96 E x0 x1 H Q->E.call (E.fid i.f96) [x0,x1] H Q
  f3:∀ x0 H Q,F.f3 E x0 H Q->E.call (E.fid i.f3) [x0] H Q
  f70:∀ x0 x1 x2 H Q,F.f70 E x0 x1 x2 H Q->E.call (E.fid i.f70) [x0,x1,x2] H Q
  f59:∀ x0 H Q,F.f59 E x0 H Q->E.call (E.fid i.f59) [x0] H Q
  f67:∀ x0 x1 H Q,F.f67 E x0 x1 H Q->E.call (E.fid i.f67) [x0,x1] H Q
  f74:∀ x0 x1 H Q,F.f74 E x0 x1 H Q->E.call (E.fid i.f74) [x0,x1] H Q
  f73:∀ x0 x1 H Q,F.f73 E x0 x1 H Q->E.call (E.fid i.f73) [x0,x1] H Q
  f75:∀ x0 x1 H Q,F.f75 E x0 x1 H Q->E.call (E.fid i.f75) [x0,x1] H Q
  f18:∀ x0 x1 x2 x3 x4 x5 H Q,F.f18 E x0 x1 x2 x3 x4 x5 H Q->E.call (E.fid i.f18) [x0,x1,x2,x3,x4,x5] H Q
  f68:∀ x0 x1 H Q,F.f68 E x0 x1 H Q->E.call (E.fid i.f68) [x0,x1] H Q
  f52:∀ x0 H Q,F.f52 E x0 H Q->E.call (E.fid i.f52) [x0] H Q
  f65:∀ x0 x1 x2 H Q,F.f65 E x0 x1 x2 H Q->E.call (E.fid i.f65) [x0,x1,x2] H Q
  f71:∀ x0 x1 H Q,F.f71 E x0 x1 H Q->E.call (E.fid i.f71) [x0,x1] H Q
  f40:∀ x0 x1 H Q,F.f40 E x0 x1 H Q->E.call (E.fid i.f40) [x0,x1] H Q
  f30:∀ x0 H Q,F.f30 E x0 H Q->E.call (E.fid i.f30) [x0] H Q
  f89:∀ x0 x1 x2 x3 H Q,F.f89 E x0 x1 x2 x3 H Q->E.call (E.fid i.f89) [x0,x1,x2,x3] H Q
  f100:∀ x0 x1 x2 x3 H Q,F.f100 E x0 x1 x2 x3 H Q->E.call (E.fid i.f100) [x0,x1,x2,x3] H Q
  f101:∀ x0 x1 x2 H Q,F.f101 E x0 x1 x2 H Q->E.call (E.fid i.f101) [x0,x1,x2] H Q
  f14:∀ x0 x1 x2 H Q,F.f14 E x0 x1 x2 H Q->E.call (E.fid i.f14) [x0,x1,x2] H Q
  f20:∀ x0 x1 H Q,F.f20 E x0 x1 H Q->E.call (E.fid i.f20) [x0,x1] H Q
  f32:∀ x0 H Q,F.f32 E x0 H Q->E.call (E.fid i.f32) [x0] H Q
  f81:∀ x0 x1 x2 H Q,F.f81 E x0 x1 x2 H Q->E.call (E.fid i.f81) [x0,x1,x2] H Q
  f80:∀ x0 x1 x2 H Q,F.f80 E x0 x1 x2 H Q->E.call (E.fid i.f80) [x0,x1,x2] H Q
  f78:∀ x0 x1 x2 H Q,F.f78 E x0 x1 x2 H Q->E.call (E.fid i.f78) [x0,x1,x2] H Q
  f79:∀ x0 x1 x2 H Q,F.f79 E x0 x1 x2 H Q->E.call (E.fid i.f79) [x0,x1,x2] H Q
  f90:∀ x0 x1 x2 H Q,F.f90 E x0 x1 x2 H Q->E.call (E.fid i.f90) [x0,x1,x2] H Q
  f86:∀ x0 x1 x2 H Q,F.f86 E x0 x1 x2 H Q->E.call (E.fid i.f86) [x0,x1,x2] H Q
  f0:∀ x0 x1 H Q,F.f0 E x0 x1 H Q->E.call (E.fid i.f0) [x0,x1] H Q
  f87:∀ x0 x1 x2 x3 H Q,F.f87 E x0 x1 x2 x3 H Q->E.call (E.fid i.f87) [x0,x1,x2,x3] H Q
  f88:∀ x0 x1 x2 x3 H Q,F.f88 E x0 x1 x2 x3 H Q->E.call (E.fid i.f88) [x0,x1,x2,x3] H Q
  f93:∀ x0 x1 H Q,F.f93 E x0 x1 H Q->E.call (E.fid i.f93) [x0,x1] H Q
  f95:∀ x0 x1 H Q,F.f95 E x0 x1 H Q->E.call (E.fid i.f95) [x0,x1] H Q
  f91:∀ x0 x1 x2 x3 H Q,F.f91 E x0 x1 x2 x3 H Q->E.call (E.fid i.f91) [x0,x1,x2,x3] H Q
  f84:∀ x0 H Q,F.f84 E x0 H Q->E.call (E.fid i.f84) [x0] H Q
  f92:∀ x0 H Q,F.f92 E x0 H Q->E.call (E.fid i.f92) [x0] H Q
  f82:∀ x0 x1 x2 H Q,F.f82 E x0 x1 x2 H Q->E.call (E.fid i.f82) [x0,x1,x2] H Q
  f83:∀ x0 x1 x2 x3 x4 H Q,F.f83 E x0 x1 x2 x3 x4 H Q->E.call (E.fid i.f83) [x0,x1,x2,x3,x4] H Q
  f1:∀ x0 H Q,F.f1 E x0 H Q->E.call (E.fid i.f1) [x0] H Q
  f28:∀ x0 x1 H Q,F.f28 E x0 x1 H Q->E.call (E.fid i.f28) [x0,x1] H Q
  f85:∀ x0 x1 x2 x3 H Q,F.f85 E x0 x1 x2 x3 H Q->E.call (E.fid i.f85) [x0,x1,x2,x3] H Q
  f29:∀ x0 x1 H Q,F.f29 E x0 x1 H Q->E.call (E.fid i.f29) [x0,x1] H Q
  f97:∀ x0 x1 H Q,strJoin x0 x1 H Q->E.call (E.fid i.f97) [x0,x1] H Q
  f102:∀ x0 x1 H Q,atomicAdd x0 x1 H Q->E.call (E.fid i.f102) [x0,x1] H Q
  f22:∀ x0 x1 H Q,byteCount x0 x1 H Q->E.call (E.fid i.f22) [x0,x1] H Q
  f24:∀ x0 x1 H Q,byteIndex x0 x1 H Q->E.call (E.fid i.f24) [x0,x1] H Q
end Go.AM
