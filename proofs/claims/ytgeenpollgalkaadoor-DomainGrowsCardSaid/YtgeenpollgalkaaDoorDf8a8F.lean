/- THE FUNCTIONS, AS THE ABSTRACT MACHINE SEES THEM: written by program (gen2.py). -/
import Derived.Test.YtgeenpollgalkaaDoorDf8a8A1
set_option linter.all false
set_option linter.unusedVariables false
namespace Go.AM
abbrev LK:=List Value->AH->Prop
abbrev VK:=Value->AH->Prop
def i.f40:Nat:=12
def i.f33:Nat:=43
def i.f31:Nat:=54
def i.f39:Nat:=60
def i.f30:Nat:=61
def i.f34:Nat:=62
def i.f32:Nat:=63
def i.f35:Nat:=65
def i.f22:Nat:=68
def i.f25:Nat:=69
def i.f23:Nat:=70
def i.f29:Nat:=76
def i.f24:Nat:=84
def i.f26:Nat:=88
def i.f47:Nat:=89
def i.f27:Nat:=90
def i.f28:Nat:=97
def i.f7:Nat:=100
def i.f10:Nat:=101
def i.f8:Nat:=104
def i.f5:Nat:=112
def i.f9:Nat:=121
def i.f13:Nat:=130
def i.f11:Nat:=131
def i.f57:Nat:=132
def i.f12:Nat:=134
def i.f6:Nat:=139
def i.f51:Nat:=140
def i.f56:Nat:=154
def i.f55:Nat:=159
def i.f36:Nat:=197
def i.f59:Nat:=198
def i.f42:Nat:=199
def i.f38:Nat:=201
def i.f37:Nat:=202
def i.f4:Nat:=203
def i.f3:Nat:=204
def i.f2:Nat:=205
def i.f0:Nat:=206
def i.f46:Nat:=210
def i.f43:Nat:=211
def i.f45:Nat:=212
def i.f44:Nat:=213
def i.f62:Nat:=218
def i.f41:Nat:=232
def i.f1:Nat:=233
def i.f64:Nat:=236
def i.f49:Nat:=237
def i.f68:Nat:=238
def i.f61:Nat:=239
def i.f60:Nat:=241
def i.f66:Nat:=244
def i.f65:Nat:=245
def i.f19:Nat:=246
def i.f63:Nat:=247
def i.f67:Nat:=248
def i.f52:Nat:=252
def i.f54:Nat:=254
def i.f53:Nat:=256
def i.f50:Nat:=257
def i.f48:Nat:=258
def i.f58:Nat:=261
def i.f14:Nat:=263
def i.f20:Nat:=264
def i.f21:Nat:=266
def i.f18:Nat:=267
def i.f15:Nat:=268
def i.f17:Nat:=269
def i.f16:Nat:=270
def F.f38_l3 (E:Sy) (Q:VK) (X0:LK) (t1 t6 t7 t13 t14 t78 t79 t80 t96 t97 t98:Value) (H:AH) (X1:LK):Prop :=
 opt (binInt .lss t98 t97) fun v1=>ifB v1 (
 opt (ixSlc 1 t96 t98) fun v2=>opt (load1 v2 H) fun v3=>E.call (E.fid i.f0) [t14,v3] H fun v4 H1=>opt (binInt .leq t98 t13) fun v5=>opt (binBool .neq v4 v5) fun v6=>ifB v6 (
 Q (.bool false) H1) (
 opt (binInt .add t98 (.int .i64 1)) fun v7=>X1 [t1,t6,t7,t13,t14,t78,t79,t80,t96,t97,v7] H1)) (
 opt (binInt .add t80 (.int .i64 1)) fun v8=>X0 [t1,t6,t7,t78,t79,v8] H)
def F.f38_l5 (E:Sy) (Q:VK) (t7 t135 t136 t137:Value) (H:AH) (X0:LK):Prop :=
 opt (binInt .lss t137 t136) fun v1=>ifB v1 (
 opt (ixSlc 1 t135 t137) fun v2=>opt (load1 v2 H) fun v3=>opt (binNil eqPtr .eql v3 (.pointer none)) fun v4=>ifB v4 (
 Q (.bool false) H) (
 opt (binInt .add t137 (.int .i64 1)) fun v5=>X0 [t7,t135,t136,v5] H)) (
 E.call (E.fid i.f4) [t7,(.pointer none)] H fun v6 H1=>opt (ext v6 0) fun v7=>opt (ext v6 1) fun v8=>opt (binInt .eql v8 (.int .i64 201)) fun v9=>Q v9 H1)
def F.f38_l4 (E:Sy) (Q:VK) (t6 t7 t17 t18 t123 t124:Value) (H:AH) (X0:LK):Prop :=
 opt (binInt .lss t124 t123) fun v1=>ifB v1 (
 opt (ixSlc 1 t18 t124) fun v2=>opt (store1 v2 (.pointer none) H) fun H1=>opt (binInt .add t124 (.int .i64 1)) fun v3=>X0 [t6,t7,t17,t18,t123,v3] H1) (
 opt (ixSlc 1 t6 t17) fun v4=>opt (load1 v4 H) fun v5=>E.call (E.fid i.f2) [v5] H fun v6 H2=>opt (lenSlc v6) fun v7=>LoopL (fun l H X0=>F.f38_l5 E Q (nth l 0) (nth l 1) (nth l 2) (nth l 3) H X0) [t7,v6,v7,(.int .i64 0)] H2)
def F.f38_l2 (E:Sy) (Q:VK) (t1 t6 t7 t78 t79 t80:Value) (H:AH) (X0:LK):Prop :=
 opt (binInt .lss t80 t79) fun v1=>ifB v1 (
 opt (ixSlc 1 t78 t80) fun v2=>opt (load1 v2 H) fun v3=>E.call (E.fid i.f3) [v3] H fun v4 H1=>opt (binInt .neq v4 t80) fun v5=>gd v5 false (fun k=>k v3 H1) H1 fun v6 H2=>gd v5 false (fun k=>E.call (E.fid i.f2) [v6] H2 fun v h=>k v h) H2 fun v7 H3=>gd v5 false (fun k=>opt (lenSlc v7) fun v=>k v H3) H3 fun v8 H4=>gd v5 false (fun k=>k t80 H4) H4 fun v9 H5=>gd v5 false (fun k=>opt (binInt .neq v8 v9) fun v=>k v H5) H5 fun v10 H6=>opt (pick v5 (.bool true) v10) fun v11=>ifB v11 (
 Q (.bool false) H6) (
 opt (lenSlc t6) fun v12=>LoopL (fun l H X1=>F.f38_l3 E Q X0 (nth l 0) (nth l 1) (nth l 2) (nth l 3) (nth l 4) (nth l 5) (nth l 6) (nth l 7) (nth l 8) (nth l 9) (nth l 10) H X1) [t1,t6,t7,t80,v3,t78,t79,t80,t6,v12,(.int .i64 0)] H6)) (
 opt (convInt .i64 t1) fun v13=>opt (lenSlc t6) fun v14=>opt (binInt .rem v13 v14) fun v15=>opt (ixSlc 1 t6 v15) fun v16=>opt (load1 v16 H) fun v17=>E.call (E.fid i.f2) [v17] H fun v18 H7=>opt (lenSlc v18) fun v19=>LoopL (fun l H X0=>F.f38_l4 E Q (nth l 0) (nth l 1) (nth l 2) (nth l 3) (nth l 4) (nth l 5) H X0) [t6,t7,v15,v18,v19,(.int .i64 0)] H7)
def F.f38_l1 (E:Sy) (Q:VK) (t1 t5 t6 t7 t33 t34:Value) (H:AH) (X0:LK):Prop :=
 opt (binInt .lss t34 t33) fun v1=>ifB v1 (
 opt (convInt .u16 t34) fun v2=>opt (buildV [(0,1),(1,1),(2,1),(3,1),(4,1),(5,1),(6,1),(7,1)] #[(.int .u8 0),(.int .u8 0),(.int .u8 0),(.slice none 0 0),(.int .u16 0),(.slice none 0 0),(.slice none 0 0),(.slice none 0 0)] [(4,v2)]) fun v3=>E.call (E.fid i.f33) [v3] H fun v4 H1=>E.call (E.fid i.f29) [] H1 fun v5 H2=>E.call (E.fid i.f42) [v4,t5,v5] H2 fun v6 H3=>opt (ext v6 0) fun v7=>opt (ext v6 1) fun v8=>E.call (E.fid i.f4) [t7,v7] H3 fun v9 H4=>opt (ext v9 0) fun v10=>opt (ext v9 1) fun v11=>opt (binInt .eql v11 (.int .i64 0)) fun v12=>opt (binInt .lss t34 (.int .i64 16)) fun v13=>opt (binBool .neq v12 v13) fun v14=>gd v14 false (fun k=>k v11 H4) H4 fun v15 H5=>gd v14 false (fun k=>opt (binInt .neq v15 (.int .i64 0)) fun v=>k v H5) H5 fun v16 H6=>gd v14 false (fun k=>k v16 H6) H6 fun v17 H7=>gd v17 true (fun k=>k v11 H7) H7 fun v18 H8=>gd v17 true (fun k=>opt (binInt .neq v18 (.int .i64 27)) fun v=>k v H8) H8 fun v19 H9=>gd v17 true (fun k=>k v19 H9) H9 fun v20 H10=>gd v20 false (fun k=>k v10 H10) H10 fun v21 H11=>gd v20 false (fun k=>opt (binNil eqPtr .neq v21 (.pointer none)) fun v=>k v H11) H11 fun v22 H12=>gd v17 true (fun k=>opt (pick v20 (.bool true) v22) fun v=>k v H12) H12 fun v23 H13=>gd v14 false (fun k=>opt (pick v17 v23 (.bool false)) fun v=>k v H13) H13 fun v24 H14=>opt (pick v14 (.bool true) v24) fun v25=>ifB v25 (
 Q (.bool false) H14) (
 opt (binInt .eql v11 (.int .i64 0)) fun v26=>ifB v26 (
 mk (buildS 1 1 #[(.pointer none)] [(0,v10)]) H14 fun v27 H15=>opt2 (app 1 8 t6 v27 H15) fun v28 H16=>opt (binInt .add t34 (.int .i64 1)) fun v29=>X0 [t1,t5,v28,v10,t33,v29] H16) (
 opt (binInt .add t34 (.int .i64 1)) fun v30=>X0 [t1,t5,t6,t7,t33,v30] H14))) (
 opt (lenSlc t6) fun v31=>LoopL (fun l H X0=>F.f38_l2 E Q (nth l 0) (nth l 1) (nth l 2) (nth l 3) (nth l 4) (nth l 5) H X0) [t1,t6,t7,t6,v31,(.int .i64 0)] H)
def F.f38 (E:Sy) (x0 x1:Value) (H:AH) (Q:VK):Prop :=
 E.call (E.fid i.f37) [] H fun v1 H1=>opt (un .not v1) fun v2=>ifB v2 (
 Q (.bool false) H1) (
 E.call (E.fid i.f59) [(.int .i64 5)] H1 fun v3 H2=>mk (buildS 1 1 #[(.pointer none)] [(0,(.pointer none))]) H2 fun v4 H3=>opt2 (app 1 8 (.slice none 0 0) v4 H3) fun v5 H4=>opt (binInt .rem x0 (.int .u8 20)) fun v6=>opt (convInt .i64 v6) fun v7=>LoopL (fun l H X0=>F.f38_l1 E Q (nth l 0) (nth l 1) (nth l 2) (nth l 3) (nth l 4) (nth l 5) H X0) [x1,v3,v5,(.pointer none),v7,(.int .i64 0)] H4)

def F.f37_l1 (E:Sy) (Q:VK) (t1 t2 t10 t11 t12:Value) (H:AH) (X0:LK):Prop :=
 opt (binInt .lss t12 t11) fun v1=>ifB v1 (
 opt (ixSlc 1 t10 t12) fun v2=>opt (load1 v2 H) fun v3=>opt (buildV [(0,1),(1,1),(2,1),(3,1),(4,1),(5,1),(6,1),(7,1)] #[(.int .u8 0),(.int .u8 0),(.int .u8 0),(.slice none 0 0),(.int .u16 0),(.slice none 0 0),(.slice none 0 0),(.slice none 0 0)] [(4,v3)]) fun v4=>E.call (E.fid i.f33) [v4] H fun v5 H1=>E.call (E.fid i.f29) [] H1 fun v6 H2=>E.call (E.fid i.f42) [v5,t1,v6] H2 fun v7 H3=>opt (ext v7 0) fun v8=>opt (ext v7 1) fun v9=>E.call (E.fid i.f4) [t2,v8] H3 fun v10 H4=>opt (ext v10 0) fun v11=>opt (ext v10 1) fun v12=>opt (binInt .add t12 (.int .i64 1)) fun v13=>X0 [t1,v11,t10,t11,v13] H4) (
 E.call (E.fid i.f3) [t2] H fun v14 H5=>opt (binInt .eql v14 (.int .i64 2)) fun v15=>gd v15 true (fun k=>k t2 H5) H5 fun v16 H6=>gd v15 true (fun k=>k t1 H6) H6 fun v17 H7=>gd v15 true (fun k=>E.call (E.fid i.f29) [] H7 fun v h=>k v h) H7 fun v18 H8=>gd v15 true (fun k=>E.call (E.fid i.f1) [v16,v17,(.int .u16 7),(.int .u16 1),v18] H8 fun v h=>k v h) H8 fun v19 H9=>gd v15 true (fun k=>opt (binInt .eql v19 (.int .u16 6)) fun v=>k v H9) H9 fun v20 H10=>opt (pick v15 v20 (.bool false)) fun v21=>Q v21 H10)
def F.f37 (E:Sy) (H:AH) (Q:VK):Prop :=
 E.call (E.fid i.f36) [] H fun v1 H1=>opt (un .not v1) fun v2=>ifB v2 (
 Q (.bool false) H1) (
 E.call (E.fid i.f59) [(.int .i64 9)] H1 fun v3 H2=>mk (buildS 2 1 #[(.int .u16 0)] [(0,(.int .u16 4)),(1,(.int .u16 2))]) H2 fun v4 H3=>opt (lenSlc v4) fun v5=>LoopL (fun l H X0=>F.f37_l1 E Q (nth l 0) (nth l 1) (nth l 2) (nth l 3) (nth l 4) H X0) [v3,(.pointer none),v4,v5,(.int .i64 0)] H3)

def F.f59 (E:Sy) (x0:Value) (H:AH) (Q:VK):Prop :=
 E.call (E.fid i.f7) [x0] H fun v1 H1=>E.call (E.fid i.f22) [] H1 fun v2 H2=>opt (buildV [(0,1),(1,1)] #[(.pointer none),(.pointer none)] [(0,v1),(1,v2)]) fun v3=>mk (boxO v3) H2 fun v4 H3=>Q v4 H3

def F.f33_l2 (E:Sy) (Q:VK) (t2 t4 t11 t16 t131 t132 t133:Value) (H:AH) (X0:LK):Prop :=
 opt (binInt .lss t133 t132) fun v1=>ifB v1 (
 opt (ixSlc 1 t131 t133) fun v2=>opt (load1 v2 H) fun v3=>opt (binInt .rem v3 (.int .u8 4)) fun v4=>opt (binInt .add (.int .u8 80) v4) fun v5=>opt (convInt .u16 v5) fun v6=>callV E.call t11 [t133,(.int .u16 49152)] H fun v7 H1=>opt (look 0 (.bool false) false t16 v6 H1) fun v8=>opt (un .not v8) fun v9=>gd v9 true (fun k=>k v7 H1) H1 fun v10 H2=>gd v9 true (fun k=>opt (binInt .neq v10 (.int .u16 0)) fun v=>k v H2) H2 fun v11 H3=>opt (pick v9 v11 (.bool false)) fun v12=>ifB v12 (
 opt (setMap 0 t16 v6 (.bool true) H3) fun H4=>opt (addOff t4 5) fun v13=>opt (load1 v13 H4) fun v14=>opt (buildV [(0,1),(1,1)] #[(.int .u16 0),(.int .u16 0)] [(0,v6),(1,v7)]) fun v15=>mk (buildS 1 2 #[(.int .u16 0),(.int .u16 0)] [(0,v15)]) H4 fun v16 H5=>opt2 (app 2 4 v14 v16 H5) fun v17 H6=>opt (addOff t4 5) fun v18=>opt (store1 v18 v17 H6) fun H7=>opt (binInt .add t133 (.int .i64 1)) fun v19=>X0 [t2,t4,t11,t16,t131,t132,v19] H7) (
 opt (binInt .add t133 (.int .i64 1)) fun v20=>X0 [t2,t4,t11,t16,t131,t132,v20] H3)) (
 opt (loadN 6 t4 H) fun v21=>opt (storeN 6 t2 v21 H) fun H8=>opt (loadN 6 t2 H8) fun v22=>Q v22 H8)
def F.f33_l1 (E:Sy) (Q:VK) (t1 t2 t4 t10 t11 t92 t93 t94:Value) (H:AH) (X0:LK):Prop :=
 opt (binInt .lss t94 t93) fun v1=>ifB v1 (
 opt (ixSlc 1 t92 t94) fun v2=>opt (load1 v2 H) fun v3=>E.call (E.fid i.f32) [] H fun v4 H1=>opt (convInt .i64 v3) fun v5=>E.call (E.fid i.f32) [] H1 fun v6 H2=>opt (lenSlc v6) fun v7=>opt (binInt .rem v5 v7) fun v8=>opt (ixSlc 1 v4 v8) fun v9=>opt (load1 v9 H2) fun v10=>callV E.call t11 [t94,(.int .u16 2047)] H2 fun v11 H3=>opt (look 1 (.bool false) false t10 v10 H3) fun v12=>opt (un .not v12) fun v13=>gd v13 true (fun k=>k v11 H3) H3 fun v14 H4=>gd v13 true (fun k=>opt (binInt .neq v14 (.int .u16 0)) fun v=>k v H4) H4 fun v15 H5=>opt (pick v13 v15 (.bool false)) fun v16=>ifB v16 (
 opt (setMap 1 t10 v10 (.bool true) H5) fun H6=>opt (addOff t4 4) fun v17=>opt (load1 v17 H6) fun v18=>opt (buildV [(0,1),(1,1)] #[(.string ⟨#[]⟩),(.int .u16 0)] [(0,v10),(1,v11)]) fun v19=>mk (buildS 1 2 #[(.string ⟨#[]⟩),(.int .u16 0)] [(0,v19)]) H6 fun v20 H7=>opt2 (app 2 24 v18 v20 H7) fun v21 H8=>opt (addOff t4 4) fun v22=>opt (store1 v22 v21 H8) fun H9=>opt (binInt .add t94 (.int .i64 1)) fun v23=>X0 [t1,t2,t4,t10,t11,t92,t93,v23] H9) (
 opt (binInt .add t94 (.int .i64 1)) fun v24=>X0 [t1,t2,t4,t10,t11,t92,t93,v24] H5)) (
 mapW H fun v25 H10=>opt (addOff t1 7) fun v26=>opt (load1 v26 H10) fun v27=>opt (lenSlc v27) fun v28=>LoopL (fun l H X0=>F.f33_l2 E Q (nth l 0) (nth l 1) (nth l 2) (nth l 3) (nth l 4) (nth l 5) (nth l 6) H X0) [t2,t4,t11,v25,v27,v28,(.int .i64 0)] H10)
def F.f33_j1 (E:Sy) (Q:VK) (t1 t2 t4:Value) (H:AH):Prop :=
 mapW H fun v1 H1=>opt (some (.func (.func (E.fid i.f34)) #[] #[t1,t4])) fun v2=>opt (addOff t1 5) fun v3=>opt (load1 v3 H1) fun v4=>opt (lenSlc v4) fun v5=>LoopL (fun l H X0=>F.f33_l1 E Q (nth l 0) (nth l 1) (nth l 2) (nth l 3) (nth l 4) (nth l 5) (nth l 6) (nth l 7) H X0) [t1,t2,t4,v1,v2,v4,v5,(.int .i64 0)] H1
def F.f33_l4 (E:Sy) (Q:VK) (X0:LK) (t1 t2 t3 t4 t7 t38 t39 t40 t65 t66 t67:Value) (H:AH) (X1:LK):Prop :=
 opt (binInt .lss t67 t66) fun v1=>ifB v1 (
 opt (ixSlc 4 t65 t67) fun v2=>opt (loadN 4 v2 H) fun v3=>allocW [(.int .u8 0),(.int .u8 0),(.int .u8 0),(.int .u8 0)] H fun v4 H1=>opt (storeN 4 v4 v3 H1) fun H2=>opt (binInt .lss t67 (.int .i64 4)) fun v5=>ifB v5 (
 opt (addOff t7 2) fun v6=>opt (load1 v6 H2) fun v7=>opt (loadN 4 v4 H2) fun v8=>E.call (E.fid i.f31) [v8] H2 fun v9 H3=>load1 v6 H3=load1 v6 H2 /\
 mk (buildS 1 4 #[(.int .i64 0),(.int .u8 0),(.int .u64 0),(.int .u64 0)] [(0,v9)]) H3 fun v10 H4=>opt2 (app 4 32 v7 v10 H4) fun v11 H5=>opt (addOff t7 2) fun v12=>opt (store1 v12 v11 H5) fun H6=>opt (binInt .add t67 (.int .i64 1)) fun v13=>X1 [t1,t2,t3,t4,t7,t38,t39,t40,t65,t66,v13] H6) (
 opt (binInt .add t67 (.int .i64 1)) fun v14=>X1 [t1,t2,t3,t4,t7,t38,t39,t40,t65,t66,v14] H2)) (
 opt (addOff t4 2) fun v15=>opt (load1 v15 H) fun v16=>opt (loadN 3 t7 H) fun v17=>mk (buildS 1 3 #[(.int .u32 0),(.int .u32 0),(.slice none 0 0)] [(0,v17)]) H fun v18 H7=>opt2 (app 3 32 v16 v18 H7) fun v19 H8=>opt (addOff t4 2) fun v20=>opt (store1 v20 v19 H8) fun H9=>opt (binInt .add t40 (.int .i64 1)) fun v21=>X0 [t1,t2,t3,t4,t38,t39,v21] H9)
def F.f33_l3 (E:Sy) (Q:VK) (t1 t2 t3 t4 t38 t39 t40:Value) (H:AH) (X0:LK):Prop :=
 opt (binInt .lss t40 t39) fun v1=>ifB v1 (
 opt (ixSlc 4 t38 t40) fun v2=>opt (loadN 4 v2 H) fun v3=>allocW [(.int .u8 0),(.int .u8 0),(.int .u8 0),(.slice none 0 0)] H fun v4 H1=>opt (storeN 4 v4 v3 H1) fun H2=>opt (binInt .geq t40 (.int .i64 12)) fun v5=>ifB v5 (
 F.f33_j1 E Q t1 t2 t4 H2) (
 opt (addOff v4 0) fun v6=>opt (load1 v6 H2) fun v7=>opt (convInt .i64 v7) fun v8=>opt (lenSlc t3) fun v9=>opt (binInt .rem v8 v9) fun v10=>opt (ixSlc 3 t3 v10) fun v11=>opt (addOff v11 0) fun v12=>opt (load1 v12 H2) fun v13=>opt (convInt .u32 v13) fun v14=>opt (addOff v4 1) fun v15=>opt (load1 v15 H2) fun v16=>opt (addOff v4 2) fun v17=>opt (load1 v17 H2) fun v18=>allocW [(.int .u32 0),(.int .u32 0),(.slice none 0 0)] H2 fun v19 H3=>E.call (E.fid i.f30) [v16,v18] H3 fun v20 H4=>H4.get H2.next=H3.get H2.next /\
 load1 v12 H4=load1 v12 H2 /\
 load1 v6 H4=load1 v6 H2 /\
 opt (buildV [(0,1),(1,1),(2,1)] #[(.int .u32 0),(.int .u32 0),(.slice none 0 0)] [(0,v14),(1,v20)]) fun v21=>opt (storeN 3 v19 v21 H4) fun H5=>opt (addOff v4 3) fun v22=>opt (load1 v22 H5) fun v23=>opt (lenSlc v23) fun v24=>LoopL (fun l H X1=>F.f33_l4 E Q X0 (nth l 0) (nth l 1) (nth l 2) (nth l 3) (nth l 4) (nth l 5) (nth l 6) (nth l 7) (nth l 8) (nth l 9) (nth l 10) H X1) [t1,t2,t3,t4,v19,t38,t39,t40,v23,v24,(.int .i64 0)] H5)) (
 F.f33_j1 E Q t1 t2 t4 H)
def F.f33 (E:Sy) (x0:Value) (H:AH) (Q:VK):Prop :=
 mk (boxO x0) H fun v1 H1=>allocW [(.string ⟨#[]⟩),(.int .u32 0),(.slice none 0 0),(.int .u16 0),(.slice none 0 0),(.slice none 0 0)] H1 fun v2 H2=>E.call (E.fid i.f39) [] H2 fun v3 H3=>mk (buildS 3 1 #[(.string ⟨#[]⟩)] [(0,(.string ⟨#[112]⟩)),(1,(.string ⟨#[112,111,108,45,49]⟩)),(2,(.string ⟨#[120,95,121]⟩))]) H3 fun v4 H4=>opt (addOff v1 0) fun v5=>opt (load1 v5 H4) fun v6=>opt (binInt .rem v6 (.int .u8 3)) fun v7=>opt (ixSlc 1 v4 v7) fun v8=>opt (load1 v8 H4) fun v9=>opt (addOff v1 1) fun v10=>opt (load1 v10 H4) fun v11=>opt (addOff v1 2) fun v12=>opt (load1 v12 H4) fun v13=>opt (addOff v1 4) fun v14=>opt (load1 v14 H4) fun v15=>opt (binInt .and v15 (.int .u16 51199)) fun v16=>allocW [(.string ⟨#[]⟩),(.int .u32 0),(.slice none 0 0),(.int .u16 0),(.slice none 0 0),(.slice none 0 0)] H4 fun v17 H5=>E.call (E.fid i.f30) [v11,v13] H5 fun v18 H6=>H6.get H4.next=H5.get H4.next /\
 load1 v14 H6=load1 v14 H4 /\
 load1 v8 H6=load1 v8 H4 /\
 load1 v5 H6=load1 v5 H4 /\
 H6.get H3.next=H4.get H3.next /\
 opt (buildV [(0,1),(1,1),(2,1),(3,1),(4,1),(5,1)] #[(.string ⟨#[]⟩),(.int .u32 0),(.slice none 0 0),(.int .u16 0),(.slice none 0 0),(.slice none 0 0)] [(0,v9),(1,v18),(3,v16)]) fun v19=>opt (storeN 6 v17 v19 H6) fun H7=>opt (addOff v1 3) fun v20=>opt (load1 v20 H7) fun v21=>opt (lenSlc v21) fun v22=>LoopL (fun l H X0=>F.f33_l3 E Q (nth l 0) (nth l 1) (nth l 2) (nth l 3) (nth l 4) (nth l 5) (nth l 6) H X0) [v1,v2,v3,v17,v21,v22,(.int .i64 0)] H7

def F.f29 (E:Sy) (H:AH) (Q:VK):Prop :=
 allocW [(.int .i64 0),(.int .u16 0)] H fun v1 H1=>opt (buildV [(0,1),(1,1)] #[(.int .i64 0),(.int .u16 0)] [(0,(.int .i64 0)),(1,(.int .u16 1))]) fun v2=>opt (storeN 2 v1 v2 H1) fun H2=>opt (loadN 2 v1 H2) fun v3=>Q v3 H2

def F.f42_l2 (E:Sy) (Q:VK) (t8 t72 t73 t74:Value) (H:AH) (X0:LK):Prop :=
 opt (binInt .lss t74 t73) fun v1=>ifB v1 (
 opt (ixSlc 2 t72 t74) fun v2=>opt (loadN 2 v2 H) fun v3=>allocW [(.int .u16 0),(.int .u16 0)] H fun v4 H1=>opt (storeN 2 v4 v3 H1) fun H2=>opt (nilCk t8) fun v5=>opt (addOff v5 2) fun v6=>opt (load1 v6 H2) fun v7=>opt (addOff v4 0) fun v8=>opt (load1 v8 H2) fun v9=>opt (look 0 (.int .u16 0) false v7 v9 H2) fun v10=>opt (addOff v4 1) fun v11=>opt (load1 v11 H2) fun v12=>opt (binInt .or v10 v12) fun v13=>opt (setMap 0 v7 v9 v13 H2) fun H3=>opt (binInt .add t74 (.int .i64 1)) fun v14=>X0 [t8,t72,t73,v14] H3) (
 Q (.tuple #[t8,(.int .i64 0)]) H)
def F.f42_l1 (E:Sy) (Q:VK) (t1 t3 t5 t8 t25 t26 t27:Value) (H:AH) (X0:LK):Prop :=
 opt (binInt .lss t27 t26) fun v1=>ifB v1 (
 opt (ixSlc 2 t25 t27) fun v2=>opt (loadN 2 v2 H) fun v3=>allocW [(.string ⟨#[]⟩),(.int .u16 0)] H fun v4 H1=>opt (storeN 2 v4 v3 H1) fun H2=>opt (loadN 2 t5 H2) fun v5=>opt (addOff v4 0) fun v6=>opt (load1 v6 H2) fun v7=>E.call (E.fid i.f62) [t1,v5,v7,(.bool true)] H2 fun v8 H3=>opt (ext v8 0) fun v9=>opt (ext v8 1) fun v10=>allocW [(.int .i64 0),(.int .u16 0)] H3 fun v11 H4=>opt (storeN 2 v11 v9 H4) fun H5=>opt (binInt .neq v10 (.int .i64 0)) fun v12=>ifB v12 (
 Q (.tuple #[(.pointer none),v10]) H5) (
 opt (nilCk t1) fun v13=>opt (addOff v13 0) fun v14=>opt (load1 v14 H5) fun v15=>opt (addOff v11 1) fun v16=>opt (load1 v16 H5) fun v17=>E.call (E.fid i.f8) [v15,v17] H5 fun v18 H6=>opt (nilCk v18) fun v19=>opt (addOff v19 1) fun v20=>opt (load1 v20 H6) fun v21=>opt (binInt .eql v21 (.int .u8 2)) fun v22=>opt (addOff v4 1) fun v23=>opt (load1 v23 H6) fun v24=>opt (addOff v4 1) fun v25=>opt (load1 v25 H6) fun v26=>E.call (E.fid i.f41) [v24,v22] H6 fun v27 H7=>load1 v25 H7=load1 v25 H6 /\
 opt (binInt .neq v27 v26) fun v28=>ifB v28 (
 Q (.tuple #[(.pointer none),(.int .i64 22)]) H7) (
 opt (nilCk t8) fun v29=>opt (addOff v29 1) fun v30=>opt (load1 v30 H7) fun v31=>opt (addOff v11 1) fun v32=>opt (load1 v32 H7) fun v33=>opt (look 0 (.int .u16 0) false v31 v33 H7) fun v34=>opt (addOff v4 1) fun v35=>opt (load1 v35 H7) fun v36=>opt (binInt .or v34 v36) fun v37=>opt (setMap 0 v31 v33 v37 H7) fun H8=>opt (binInt .add t27 (.int .i64 1)) fun v38=>X0 [t1,t3,t5,t8,t25,t26,v38] H8))) (
 opt (addOff t3 5) fun v39=>opt (load1 v39 H) fun v40=>opt (lenSlc v40) fun v41=>LoopL (fun l H X0=>F.f42_l2 E Q (nth l 0) (nth l 1) (nth l 2) (nth l 3) H X0) [t8,v40,v41,(.int .i64 0)] H)
def F.f42 (E:Sy) (x0 x1 x2:Value) (H:AH) (Q:VK):Prop :=
 mk (boxO x0) H fun v1 H1=>mk (boxO x2) H1 fun v2 H2=>opt (binNil eqPtr .eql x1 (.pointer none)) fun v3=>ifB v3 (
 Q (.tuple #[(.pointer none),(.int .i64 201)]) H2) (
 opt (addOff v1 3) fun v4=>opt (load1 v4 H2) fun v5=>mapW H2 fun v6 H3=>mapW H3 fun v7 H4=>opt (buildV [(0,1),(1,1),(2,1)] #[(.int .u16 0),(.map none),(.map none)] [(0,v5),(1,v6),(2,v7)]) fun v8=>mk (boxO v8) H4 fun v9 H5=>opt (addOff v1 4) fun v10=>opt (load1 v10 H5) fun v11=>opt (lenSlc v11) fun v12=>LoopL (fun l H X0=>F.f42_l1 E Q (nth l 0) (nth l 1) (nth l 2) (nth l 3) (nth l 4) (nth l 5) (nth l 6) H X0) [x1,v1,v2,v9,v11,v12,(.int .i64 0)] H5)

def F.f4 (E:Sy) (x0 x1:Value) (H:AH) (Q:VK):Prop :=
 opt (binNil eqPtr .eql x1 (.pointer none)) fun v1=>ifB v1 (
 Q (.tuple #[(.pointer none),(.int .i64 201)]) H) (
 E.call (E.fid i.f3) [x0] H fun v2 H1=>opt (binInt .geq v2 (.int .i64 16)) fun v3=>ifB v3 (
 Q (.tuple #[(.pointer none),(.int .i64 27)]) H1) (
 E.call (E.fid i.f2) [x0] H1 fun v4 H2=>mk (buildS 1 1 #[(.pointer none)] [(0,x1)]) H2 fun v5 H3=>opt2 (app 1 8 v4 v5 H3) fun v6 H4=>opt (buildV [(0,1)] #[(.slice none 0 0)] [(0,v6)]) fun v7=>mk (boxO v7) H4 fun v8 H5=>Q (.tuple #[v8,(.int .i64 0)]) H5))

def F.f3 (E:Sy) (x0:Value) (H:AH) (Q:VK):Prop :=
 opt (binNil eqPtr .eql x0 (.pointer none)) fun v1=>ifB v1 (
 Q (.int .i64 0) H) (
 opt (nilCk x0) fun v2=>opt (addOff v2 0) fun v3=>opt (load1 v3 H) fun v4=>opt (lenSlc v4) fun v5=>Q v5 H)

def F.f2 (E:Sy) (x0:Value) (H:AH) (Q:VK):Prop :=
 opt (binNil eqPtr .eql x0 (.pointer none)) fun v1=>ifB v1 (
 Q (.slice none 0 0) H) (
 mk (buildS 0 1 #[(.pointer none)] []) H fun v2 H1=>opt (nilCk x0) fun v3=>opt (addOff v3 0) fun v4=>opt (load1 v4 H1) fun v5=>opt2 (app 1 8 v2 v5 H1) fun v6 H2=>Q v6 H2)

def F.f0_l1 (E:Sy) (Q:VK) (t0 t13 t14 t15:Value) (H:AH) (X0:LK):Prop :=
 opt (binInt .lss t15 t14) fun v1=>ifB v1 (
 opt (ixSlc 1 t13 t15) fun v2=>opt (load1 v2 H) fun v3=>opt (nilCk t0) fun v4=>opt (addOff v4 0) fun v5=>opt (load1 v5 H) fun v6=>opt (ixSlc 1 v6 t15) fun v7=>opt (load1 v7 H) fun v8=>opt (binNil eqPtr .neq v8 v3) fun v9=>ifB v9 (
 Q (.bool false) H) (
 opt (binInt .add t15 (.int .i64 1)) fun v10=>X0 [t0,t13,t14,v10] H)) (
 Q (.bool true) H)
def F.f0 (E:Sy) (x0 x1:Value) (H:AH) (Q:VK):Prop :=
 E.call (E.fid i.f3) [x0] H fun v1 H1=>E.call (E.fid i.f3) [x1] H1 fun v2 H2=>opt (binInt .lss v1 v2) fun v3=>ifB v3 (
 Q (.bool false) H2) (
 E.call (E.fid i.f2) [x1] H2 fun v4 H3=>opt (lenSlc v4) fun v5=>LoopL (fun l H X0=>F.f0_l1 E Q (nth l 0) (nth l 1) (nth l 2) (nth l 3) H X0) [x0,v4,v5,(.int .i64 0)] H3)

def F.f36 (E:Sy) (H:AH) (Q:VK):Prop :=
 E.call (E.fid i.f59) [(.int .i64 9)] H fun v1 H1=>opt (binNil eqPtr .eql v1 (.pointer none)) fun v2=>ifB v2 (
 Q (.bool false) H1) (
 opt (nilCk v1) fun v3=>opt (addOff v3 0) fun v4=>opt (load1 v4 H1) fun v5=>E.call (E.fid i.f10) [v5,(.int .u16 1),(.string ⟨#[97]⟩),(.int .u8 2),(.string ⟨#[]⟩)] H1 fun v6 H2=>opt (ext v6 0) fun v7=>opt (ext v6 1) fun v8=>opt (buildV [(0,1),(1,1)] #[(.string ⟨#[]⟩),(.int .u16 0)] [(0,(.string ⟨#[47,97]⟩)),(1,(.int .u16 4))]) fun v9=>mk (buildS 1 2 #[(.string ⟨#[]⟩),(.int .u16 0)] [(0,v9)]) H2 fun v10 H3=>opt (buildV [(0,1),(1,1),(2,1),(3,1),(4,1),(5,1)] #[(.string ⟨#[]⟩),(.int .u32 0),(.slice none 0 0),(.int .u16 0),(.slice none 0 0),(.slice none 0 0)] [(3,(.int .u16 4)),(4,v10)]) fun v11=>E.call (E.fid i.f29) [] H3 fun v12 H4=>E.call (E.fid i.f42) [v11,v1,v12] H4 fun v13 H5=>opt (ext v13 0) fun v14=>opt (ext v13 1) fun v15=>opt (binInt .eql v15 (.int .i64 0)) fun v16=>gd v16 true (fun k=>k v14 H5) H5 fun v17 H6=>gd v16 true (fun k=>k v7 H6) H6 fun v18 H7=>gd v16 true (fun k=>E.call (E.fid i.f43) [v17,v18] H7 fun v h=>k v h) H7 fun v19 H8=>gd v16 true (fun k=>opt (binInt .eql v19 (.int .u16 4)) fun v=>k v H8) H8 fun v20 H9=>opt (pick v16 v20 (.bool false)) fun v21=>gd v21 true (fun k=>k v14 H9) H9 fun v22 H10=>gd v21 true (fun k=>E.call (E.fid i.f29) [] H10 fun v h=>k v h) H10 fun v23 H11=>gd v21 true (fun k=>mk (buildS 1 2 #[(.int .i64 0),(.int .u16 0)] [(0,v23)]) H11 fun v h=>k v h) H11 fun v24 H12=>gd v21 true (fun k=>E.call (E.fid i.f44) [v22,(.int .u16 4),(.int .u16 7),v24] H12 fun v h=>k v h) H12 fun v25 H13=>gd v21 true (fun k=>opt (binInt .eql v25 (.int .u16 4)) fun v=>k v H13) H13 fun v26 H14=>opt (pick v21 v26 (.bool false)) fun v27=>gd v27 true (fun k=>k v14 H14) H14 fun v28 H15=>gd v27 true (fun k=>k v7 H15) H15 fun v29 H16=>gd v27 true (fun k=>opt (buildV [(0,1),(1,1)] #[(.int .i64 0),(.int .u16 0)] [(1,v29)]) fun v=>k v H16) H16 fun v30 H17=>gd v27 true (fun k=>mk (buildS 1 2 #[(.int .i64 0),(.int .u16 0)] [(0,v30)]) H17 fun v h=>k v h) H17 fun v31 H18=>gd v27 true (fun k=>E.call (E.fid i.f44) [v28,(.int .u16 4),(.int .u16 7),v31] H18 fun v h=>k v h) H18 fun v32 H19=>gd v27 true (fun k=>opt (binInt .eql v32 (.int .u16 0)) fun v=>k v H19) H19 fun v33 H20=>opt (pick v27 v33 (.bool false)) fun v34=>Q v34 H20)

def F.f1_l1 (E:Sy) (Q:VK) (t2 t3 t11 t12 t24 t25 t26:Value) (H:AH) (X0:LK):Prop :=
 opt (binInt .lss t26 t25) fun v1=>ifB v1 (
 opt (ixSlc 1 t24 t26) fun v2=>opt (load1 v2 H) fun v3=>E.call (E.fid i.f44) [v3,t2,t3,t11] H fun v4 H1=>opt (binInt .or t12 v4) fun v5=>opt (binInt .add t26 (.int .i64 1)) fun v6=>X0 [t2,t3,t11,v5,t24,t25,v6] H1) (
 Q t12 H)
def F.f1 (E:Sy) (x0 x1 x2 x3 x4:Value) (H:AH) (Q:VK):Prop :=
 mk (boxO x4) H fun v1 H1=>E.call (E.fid i.f3) [x0] H1 fun v2 H2=>opt (binInt .eql v2 (.int .i64 0)) fun v3=>ifB v3 (
 Q (.int .u16 0) H2) (
 opt (loadN 2 v1 H2) fun v4=>E.call (E.fid i.f60) [x1,v4] H2 fun v5 H3=>opt (nilCk x0) fun v6=>opt (addOff v6 0) fun v7=>opt (load1 v7 H3) fun v8=>opt (lenSlc v8) fun v9=>LoopL (fun l H X0=>F.f1_l1 E Q (nth l 0) (nth l 1) (nth l 2) (nth l 3) (nth l 4) (nth l 5) (nth l 6) H X0) [x2,x3,v5,(.int .u16 0),v8,v9,(.int .i64 0)] H3)

def F.f7 (E:Sy) (x0:Value) (H:AH) (Q:VK):Prop :=
 mapW H fun v1 H1=>opt (fold2 max2 [x0,(.int .i64 1)]) fun v2=>opt (fold2 min2 [v2,(.int .i64 256)]) fun v3=>opt (buildV [(0,1),(1,1),(2,1)] #[(.map none),(.int .i64 0),(.int .i64 0)] [(0,v1),(1,v3)]) fun v4=>mk (boxO v4) H1 fun v5 H2=>opt (nilCk v5) fun v6=>opt (addOff v6 0) fun v7=>opt (load1 v7 H2) fun v8=>mapW H2 fun v9 H3=>opt (buildV [(0,1),(1,1),(2,1),(3,1),(4,1),(5,1),(6,1),(7,1)] #[(.int .u16 0),(.int .u8 0),(.slice none 0 0),(.map none),(.int .u16 0),(.string ⟨#[]⟩),(.int .i64 0),(.int .i64 0)] [(0,(.int .u16 1)),(1,(.int .u8 2)),(3,v9),(4,(.int .u16 1)),(6,(.int .i64 1))]) fun v10=>mk (boxO v10) H3 fun v11 H4=>opt (setMap 0 v8 (.int .u16 1) v11 H4) fun H5=>Q v5 H5

def F.f22 (E:Sy) (H:AH) (Q:VK):Prop :=
 opt (buildV [(0,1),(1,2),(3,1),(4,1)] #[(.int .i64 0),(.int .i64 0),(.int .u16 0),(.int .u16 0),(.int .i64 0)] [(2,(.int .u16 1))]) fun v1=>mk (buildS 1 5 #[(.int .i64 0),(.int .i64 0),(.int .u16 0),(.int .u16 0),(.int .i64 0)] [(0,v1)]) H fun v2 H1=>opt (buildV [(0,1),(1,1)] #[(.slice none 0 0),(.int .i64 0)] [(0,v2),(1,(.int .i64 1))]) fun v3=>mk (boxO v3) H1 fun v4 H2=>Q v4 H2

def F.f39 (E:Sy) (H:AH) (Q:VK):Prop :=
 opt (buildV [(0,1),(1,1),(2,1)] #[(.int .i64 0),(.string ⟨#[]⟩),(.int .i64 0)] [(0,(.int .i64 0)),(1,(.string ⟨#[114,101,97,100]⟩)),(2,(.int .i64 2))]) fun v1=>opt (buildV [(0,1),(1,1),(2,1)] #[(.int .i64 0),(.string ⟨#[]⟩),(.int .i64 0)] [(0,(.int .i64 1)),(1,(.string ⟨#[119,114,105,116,101]⟩)),(2,(.int .i64 2))]) fun v2=>opt (buildV [(0,1),(1,1),(2,1)] #[(.int .i64 0),(.string ⟨#[]⟩),(.int .i64 0)] [(0,(.int .i64 2)),(1,(.string ⟨#[111,112,101,110]⟩)),(2,(.int .i64 2))]) fun v3=>opt (buildV [(0,1),(1,1),(2,1)] #[(.int .i64 0),(.string ⟨#[]⟩),(.int .i64 0)] [(0,(.int .i64 3)),(1,(.string ⟨#[99,108,111,115,101]⟩)),(2,(.int .i64 1))]) fun v4=>opt (buildV [(0,1),(1,1),(2,1)] #[(.int .i64 0),(.string ⟨#[]⟩),(.int .i64 0)] [(0,(.int .i64 4)),(1,(.string ⟨#[115,116,97,116]⟩)),(2,(.int .i64 1))]) fun v5=>opt (buildV [(0,1),(1,1),(2,1)] #[(.int .i64 0),(.string ⟨#[]⟩),(.int .i64 0)] [(0,(.int .i64 8)),(1,(.string ⟨#[115,101,101,107]⟩)),(2,(.int .i64 2))]) fun v6=>opt (buildV [(0,1),(1,1),(2,1)] #[(.int .i64 0),(.string ⟨#[]⟩),(.int .i64 0)] [(0,(.int .i64 32)),(1,(.string ⟨#[100,117,112]⟩)),(2,(.int .i64 1))]) fun v7=>opt (buildV [(0,1),(1,1),(2,1)] #[(.int .i64 0),(.string ⟨#[]⟩),(.int .i64 0)] [(0,(.int .i64 39)),(1,(.string ⟨#[112,105,100]⟩)),(2,(.int .i64 0))]) fun v8=>opt (buildV [(0,1),(1,1),(2,1)] #[(.int .i64 0),(.string ⟨#[]⟩),(.int .i64 0)] [(0,(.int .i64 41)),(1,(.string ⟨#[115,111,99,107,101,116]⟩)),(2,(.int .i64 0))]) fun v9=>opt (buildV [(0,1),(1,1),(2,1)] #[(.int .i64 0),(.string ⟨#[]⟩),(.int .i64 0)] [(0,(.int .i64 42)),(1,(.string ⟨#[99,111,110,110,101,99,116]⟩)),(2,(.int .i64 2))]) fun v10=>opt (buildV [(0,1),(1,1),(2,1)] #[(.int .i64 0),(.string ⟨#[]⟩),(.int .i64 0)] [(0,(.int .i64 49)),(1,(.string ⟨#[98,105,110,100]⟩)),(2,(.int .i64 2))]) fun v11=>opt (buildV [(0,1),(1,1),(2,1)] #[(.int .i64 0),(.string ⟨#[]⟩),(.int .i64 0)] [(0,(.int .i64 50)),(1,(.string ⟨#[108,105,115,116,101,110]⟩)),(2,(.int .i64 1))]) fun v12=>opt (buildV [(0,1),(1,1),(2,1)] #[(.int .i64 0),(.string ⟨#[]⟩),(.int .i64 0)] [(0,(.int .i64 57)),(1,(.string ⟨#[102,111,114,107]⟩)),(2,(.int .i64 0))]) fun v13=>opt (buildV [(0,1),(1,1),(2,1)] #[(.int .i64 0),(.string ⟨#[]⟩),(.int .i64 0)] [(0,(.int .i64 60)),(1,(.string ⟨#[101,120,105,116]⟩)),(2,(.int .i64 1))]) fun v14=>opt (buildV [(0,1),(1,1),(2,1)] #[(.int .i64 0),(.string ⟨#[]⟩),(.int .i64 0)] [(0,(.int .i64 77)),(1,(.string ⟨#[116,114,117,110,99,97,116,101]⟩)),(2,(.int .i64 2))]) fun v15=>opt (buildV [(0,1),(1,1),(2,1)] #[(.int .i64 0),(.string ⟨#[]⟩),(.int .i64 0)] [(0,(.int .i64 78)),(1,(.string ⟨#[114,101,97,100,100,105,114]⟩)),(2,(.int .i64 1))]) fun v16=>opt (buildV [(0,1),(1,1),(2,1)] #[(.int .i64 0),(.string ⟨#[]⟩),(.int .i64 0)] [(0,(.int .i64 79)),(1,(.string ⟨#[99,119,100]⟩)),(2,(.int .i64 0))]) fun v17=>opt (buildV [(0,1),(1,1),(2,1)] #[(.int .i64 0),(.string ⟨#[]⟩),(.int .i64 0)] [(0,(.int .i64 80)),(1,(.string ⟨#[99,104,100,105,114]⟩)),(2,(.int .i64 1))]) fun v18=>opt (buildV [(0,1),(1,1),(2,1)] #[(.int .i64 0),(.string ⟨#[]⟩),(.int .i64 0)] [(0,(.int .i64 82)),(1,(.string ⟨#[114,101,110,97,109,101]⟩)),(2,(.int .i64 2))]) fun v19=>opt (buildV [(0,1),(1,1),(2,1)] #[(.int .i64 0),(.string ⟨#[]⟩),(.int .i64 0)] [(0,(.int .i64 83)),(1,(.string ⟨#[109,107,100,105,114]⟩)),(2,(.int .i64 1))]) fun v20=>opt (buildV [(0,1),(1,1),(2,1)] #[(.int .i64 0),(.string ⟨#[]⟩),(.int .i64 0)] [(0,(.int .i64 84)),(1,(.string ⟨#[114,109,100,105,114]⟩)),(2,(.int .i64 1))]) fun v21=>opt (buildV [(0,1),(1,1),(2,1)] #[(.int .i64 0),(.string ⟨#[]⟩),(.int .i64 0)] [(0,(.int .i64 86)),(1,(.string ⟨#[108,105,110,107]⟩)),(2,(.int .i64 2))]) fun v22=>opt (buildV [(0,1),(1,1),(2,1)] #[(.int .i64 0),(.string ⟨#[]⟩),(.int .i64 0)] [(0,(.int .i64 87)),(1,(.string ⟨#[117,110,108,105,110,107]⟩)),(2,(.int .i64 1))]) fun v23=>opt (buildV [(0,1),(1,1),(2,1)] #[(.int .i64 0),(.string ⟨#[]⟩),(.int .i64 0)] [(0,(.int .i64 88)),(1,(.string ⟨#[115,121,109,108,105,110,107]⟩)),(2,(.int .i64 2))]) fun v24=>opt (buildV [(0,1),(1,1),(2,1)] #[(.int .i64 0),(.string ⟨#[]⟩),(.int .i64 0)] [(0,(.int .i64 89)),(1,(.string ⟨#[114,101,97,100,108,105,110,107]⟩)),(2,(.int .i64 1))]) fun v25=>opt (buildV [(0,1),(1,1),(2,1)] #[(.int .i64 0),(.string ⟨#[]⟩),(.int .i64 0)] [(0,(.int .i64 157)),(1,(.string ⟨#[112,114,99,116,108]⟩)),(2,(.int .i64 1))]) fun v26=>opt (buildV [(0,1),(1,1),(2,1)] #[(.int .i64 0),(.string ⟨#[]⟩),(.int .i64 0)] [(0,(.int .i64 165)),(1,(.string ⟨#[109,111,117,110,116]⟩)),(2,(.int .i64 2))]) fun v27=>opt (buildV [(0,1),(1,1),(2,1)] #[(.int .i64 0),(.string ⟨#[]⟩),(.int .i64 0)] [(0,(.int .i64 166)),(1,(.string ⟨#[117,109,111,117,110,116]⟩)),(2,(.int .i64 1))]) fun v28=>opt (buildV [(0,1),(1,1),(2,1)] #[(.int .i64 0),(.string ⟨#[]⟩),(.int .i64 0)] [(0,(.int .i64 317)),(1,(.string ⟨#[115,101,99,99,111,109,112]⟩)),(2,(.int .i64 1))]) fun v29=>opt (buildV [(0,1),(1,1),(2,1)] #[(.int .i64 0),(.string ⟨#[]⟩),(.int .i64 0)] [(0,(.int .i64 446)),(1,(.string ⟨#[114,101,115,116,114,105,99,116]⟩)),(2,(.int .i64 1))]) fun v30=>mk (buildS 30 3 #[(.int .i64 0),(.string ⟨#[]⟩),(.int .i64 0)] [(0,v1),(1,v2),(2,v3),(3,v4),(4,v5),(5,v6),(6,v7),(7,v8),(8,v9),(9,v10),(10,v11),(11,v12),(12,v13),(13,v14),(14,v15),(15,v16),(16,v17),(17,v18),(18,v19),(19,v20),(20,v21),(21,v22),(22,v23),(23,v24),(24,v25),(25,v26),(26,v27),(27,v28),(28,v29),(29,v30)]) H fun v31 H1=>Q v31 H1

def F.f30 (E:Sy) (x0 x1:Value) (H:AH) (Q:VK):Prop :=
 opt (binInt .rem x0 (.int .u8 4)) fun v1=>opt (binInt .eql v1 (.int .u8 0)) fun v2=>ifB v2 (
 Q (.int .u32 2147483648) H) (
 opt (binInt .eql v1 (.int .u8 1)) fun v3=>ifB v3 (
 opt (convInt .i64 x1) fun v4=>opt (binInt .add (.int .i64 1) v4) fun v5=>E.call (E.fid i.f40) [v5] H fun v6 H1=>Q v6 H1) (
 opt (binInt .eql v1 (.int .u8 2)) fun v7=>ifB v7 (
 Q (.int .u32 2147221504) H) (
 Q (.int .u32 2147418112) H)))

def F.f31 (E:Sy) (x0:Value) (H:AH) (Q:VK):Prop :=
 mk (boxO x0) H fun v1 H1=>allocW [(.int .i64 0),(.int .u8 0),(.int .u64 0),(.int .u64 0)] H1 fun v2 H2=>E.call (E.fid i.f35) [] H2 fun v3 H3=>opt (addOff v1 0) fun v4=>opt (load1 v4 H3) fun v5=>opt (binInt .rem v5 (.int .u8 6)) fun v6=>opt (convInt .i64 v6) fun v7=>opt (addOff v1 1) fun v8=>opt (load1 v8 H3) fun v9=>opt (binInt .rem v9 (.int .u8 7)) fun v10=>opt (binInt .add (.int .u8 1) v10) fun v11=>opt (addOff v1 3) fun v12=>opt (load1 v12 H3) fun v13=>opt (convInt .i64 v13) fun v14=>opt (lenSlc v3) fun v15=>opt (binInt .rem v14 v15) fun v16=>opt (ixSlc 1 v3 v16) fun v17=>opt (load1 v17 H3) fun v18=>opt (buildV [(0,1),(1,1),(2,1),(3,1)] #[(.int .i64 0),(.int .u8 0),(.int .u64 0),(.int .u64 0)] [(0,v7),(1,v11),(3,v18)]) fun v19=>allocW [(.int .i64 0),(.int .u8 0),(.int .u64 0),(.int .u64 0)] H3 fun v20 H4=>opt (storeN 4 v20 v19 H4) fun H5=>opt (addOff v20 1) fun v21=>opt (load1 v21 H5) fun v22=>opt (binInt .eql v22 (.int .u8 7)) fun v23=>ifB v23 (
 opt (addOff v1 2) fun v24=>opt (load1 v24 H5) fun v25=>opt (convInt .i64 v25) fun v26=>opt (lenSlc v3) fun v27=>opt (binInt .sub v27 (.int .i64 1)) fun v28=>opt (binInt .rem v26 v28) fun v29=>opt (binInt .add (.int .i64 1) v29) fun v30=>opt (ixSlc 1 v3 v30) fun v31=>opt (load1 v31 H5) fun v32=>opt (addOff v20 2) fun v33=>opt (store1 v33 v32 H5) fun H6=>opt (addOff v20 3) fun v34=>opt (load1 v34 H6) fun v35=>opt (addOff v20 2) fun v36=>opt (load1 v36 H6) fun v37=>opt (binInt .and v35 v37) fun v38=>opt (addOff v20 3) fun v39=>opt (store1 v39 v38 H6) fun H7=>opt (loadN 4 v20 H7) fun v40=>opt (storeN 4 v2 v40 H7) fun H8=>opt (loadN 4 v2 H8) fun v41=>Q v41 H8) (
 opt (loadN 4 v20 H5) fun v42=>opt (storeN 4 v2 v42 H5) fun H9=>opt (loadN 4 v2 H9) fun v43=>Q v43 H9)

def F.f34 (E:Sy) (x0 x1 x2 x3:Value) (H:AH) (Q:VK):Prop :=
 opt (addOff x2 6) fun v1=>opt (load1 v1 H) fun v2=>opt (lenSlc v2) fun v3=>opt (binInt .geq x0 v3) fun v4=>ifB v4 (
 opt (addOff x3 3) fun v5=>opt (load1 v5 H) fun v6=>opt (binInt .and v6 x1) fun v7=>Q v7 H) (
 opt (addOff x2 6) fun v8=>opt (load1 v8 H) fun v9=>opt (ixSlc 1 v9 x0) fun v10=>opt (load1 v10 H) fun v11=>opt (addOff x3 3) fun v12=>opt (load1 v12 H) fun v13=>opt (binInt .and v11 v13) fun v14=>opt (binInt .and v14 x1) fun v15=>Q v15 H)

def F.f32 (E:Sy) (H:AH) (Q:VK):Prop :=
 mk (buildS 6 1 #[(.string ⟨#[]⟩)] [(0,(.string ⟨#[47]⟩)),(1,(.string ⟨#[47,97]⟩)),(2,(.string ⟨#[47,97,47,98]⟩)),(3,(.string ⟨#[47,102]⟩)),(4,(.string ⟨#[47,97,47,103]⟩)),(5,(.string ⟨#[47,99]⟩))]) H fun v1 H1=>Q v1 H1

def F.f62_l1 (E:Sy) (Q:VK) (t0 t3 t8 t10 t12:Value) (H:AH) (X0:LK):Prop :=
 opt (addOff t10 3) fun v1=>opt (load1 v1 H) fun v2=>opt (lenSlc v2) fun v3=>opt (binInt .gtr v3 (.int .i64 0)) fun v4=>ifB v4 (
 gd t3 false (fun k=>k t12 H) H fun v5 H1=>opt (pick t3 (.bool true) v5) fun v6=>E.call (E.fid i.f68) [t10,v6] H1 fun v7 H2=>opt (binInt .neq v7 (.int .i64 0)) fun v8=>ifB v8 (
 opt (buildV [(0,1),(1,1)] #[(.int .i64 0),(.int .u16 0)] []) fun v9=>opt (storeN 2 t8 v9 H2) fun H3=>opt (loadN 2 t8 H3) fun v10=>Q (.tuple #[v10,v7]) H3) (
 X0 [t0,t3,t8,t10,t12] H2)) (
 opt (nilCk t0) fun v11=>opt (addOff v11 0) fun v12=>opt (load1 v12 H) fun v13=>opt (addOff t10 1) fun v14=>opt (addOff v14 1) fun v15=>opt (load1 v15 H) fun v16=>E.call (E.fid i.f8) [v13,v16] H fun v17 H4=>opt (binNil eqPtr .eql v17 (.pointer none)) fun v18=>ifB v18 (
 opt (buildV [(0,1),(1,1)] #[(.int .i64 0),(.int .u16 0)] []) fun v19=>opt (storeN 2 t8 v19 H4) fun H5=>opt (loadN 2 t8 H5) fun v20=>Q (.tuple #[v20,(.int .i64 2)]) H5) (
 gd t12 true (fun k=>k t0 H4) H4 fun v21 H6=>gd t12 true (fun k=>opt (addOff t10 1) fun v=>k v H6) H6 fun v22 H7=>gd t12 true (fun k=>opt (loadN 2 v22 H7) fun v=>k v H7) H7 fun v23 H8=>gd t12 true (fun k=>E.call (E.fid i.f61) [v21,v23] H8 fun v h=>k v h) H8 fun v24 H9=>gd t12 true (fun k=>opt (un .not v24) fun v=>k v H9) H9 fun v25 H10=>opt (pick t12 v25 (.bool false)) fun v26=>ifB v26 (
 opt (buildV [(0,1),(1,1)] #[(.int .i64 0),(.int .u16 0)] []) fun v27=>opt (storeN 2 t8 v27 H10) fun H11=>opt (loadN 2 t8 H11) fun v28=>Q (.tuple #[v28,(.int .i64 20)]) H11) (
 opt (addOff t10 1) fun v29=>opt (loadN 2 v29 H10) fun v30=>opt (storeN 2 t8 v30 H10) fun H12=>opt (loadN 2 t8 H12) fun v31=>Q (.tuple #[v31,(.int .i64 0)]) H12)))
def F.f62 (E:Sy) (x0 x1 x2 x3:Value) (H:AH) (Q:VK):Prop :=
 mk (boxO x1) H fun v1 H1=>allocW [(.int .i64 0),(.int .u16 0)] H1 fun v2 H2=>opt (loadN 2 v1 H2) fun v3=>E.call (E.fid i.f64) [x0,v3,x2] H2 fun v4 H3=>opt (ext v4 0) fun v5=>opt (ext v4 1) fun v6=>allocW [(.pointer none),(.int .i64 0),(.int .u16 0),(.slice none 0 0),(.int .i64 0)] H3 fun v7 H4=>opt (storeN 5 v7 v5 H4) fun H5=>opt (binInt .neq v6 (.int .i64 0)) fun v8=>ifB v8 (
 opt (buildV [(0,1),(1,1)] #[(.int .i64 0),(.int .u16 0)] []) fun v9=>opt (storeN 2 v2 v9 H5) fun H6=>opt (loadN 2 v2 H6) fun v10=>Q (.tuple #[v10,v6]) H6) (
 E.call (E.fid i.f49) [x2,(.string ⟨#[47]⟩)] H5 fun v11 H7=>LoopL (fun l H X0=>F.f62_l1 E Q (nth l 0) (nth l 1) (nth l 2) (nth l 3) (nth l 4) H X0) [x0,x3,v2,v7,v11] H7)

def F.f8 (E:Sy) (x0 x1:Value) (H:AH) (Q:VK):Prop :=
 opt (binNil eqPtr .eql x0 (.pointer none)) fun v1=>ifB v1 (
 Q (.pointer none) H) (
 opt (nilCk x0) fun v2=>opt (addOff v2 0) fun v3=>opt (load1 v3 H) fun v4=>opt (look 0 (.pointer none) false v4 x1 H) fun v5=>Q v5 H)

def F.f41 (E:Sy) (x0 x1:Value) (H:AH) (Q:VK):Prop :=
 ifB x1 (
 opt (binInt .and x0 (.int .u16 2047)) fun v1=>Q v1 H) (
 opt (binInt .and x0 (.int .u16 1031)) fun v2=>Q v2 H)

def F.f10_j1 (E:Sy) (Q:VK) (t0 t2 t12 t14 t15:Value) (H:AH):Prop :=
 opt (nilCk t0) fun v1=>opt (addOff v1 0) fun v2=>opt (load1 v2 H) fun v3=>opt (setMap 0 v3 t14 t15 H) fun H1=>opt (nilCk t12) fun v4=>opt (addOff v4 3) fun v5=>opt (load1 v5 H1) fun v6=>opt (setMap 1 v6 t2 t14 H1) fun H2=>opt (nilCk t0) fun v7=>opt (addOff v7 2) fun v8=>E.call (E.fid i.f57) [v8,(.int .i64 1)] H2 fun v9 H3=>Q (.tuple #[t14,(.int .i64 0)]) H3
def F.f10_l1 (E:Sy) (Q:VK) (t0 t1 t2 t3 t4 t12 t14:Value) (H:AH) (X0:LK):Prop :=
 opt (nilCk t0) fun v1=>opt (addOff v1 0) fun v2=>opt (load1 v2 H) fun v3=>opt (look 0 (.pointer none) false v3 t14 H) fun v4=>opt (binNil eqPtr .neq v4 (.pointer none)) fun v5=>ifB v5 (
 opt (binInt .add t14 (.int .u16 1)) fun v6=>X0 [t0,t1,t2,t3,t4,t12,v6] H) (
 opt (buildV [(0,1),(1,1),(2,1),(3,1),(4,1),(5,1),(6,1),(7,1)] #[(.int .u16 0),(.int .u8 0),(.slice none 0 0),(.map none),(.int .u16 0),(.string ⟨#[]⟩),(.int .i64 0),(.int .i64 0)] [(0,t14),(1,t3),(6,(.int .i64 1))]) fun v7=>mk (boxO v7) H fun v8 H1=>opt (binInt .eql t3 (.int .u8 2)) fun v9=>ifB v9 (
 mapW H1 fun v10 H2=>opt (nilCk v8) fun v11=>opt (addOff v11 3) fun v12=>opt (store1 v12 v10 H2) fun H3=>opt (nilCk v8) fun v13=>opt (addOff v13 4) fun v14=>opt (store1 v14 t1 H3) fun H4=>F.f10_j1 E Q t0 t2 t12 t14 v8 H4) (
 opt (binInt .eql t3 (.int .u8 3)) fun v15=>ifB v15 (
 opt (nilCk v8) fun v16=>opt (addOff v16 5) fun v17=>opt (store1 v17 t4 H1) fun H5=>F.f10_j1 E Q t0 t2 t12 t14 v8 H5) (
 F.f10_j1 E Q t0 t2 t12 t14 v8 H1)))
def F.f10 (E:Sy) (x0 x1 x2 x3 x4:Value) (H:AH) (Q:VK):Prop :=
 E.call (E.fid i.f13) [x0,x1,x2] H fun v1 H1=>opt (ext v1 0) fun v2=>opt (ext v1 1) fun v3=>opt (binInt .neq v3 (.int .i64 0)) fun v4=>ifB v4 (
 Q (.tuple #[(.int .u16 0),v3]) H1) (
 opt (binInt .lss x3 (.int .u8 1)) fun v5=>gd v5 false (fun k=>k x3 H1) H1 fun v6 H2=>gd v5 false (fun k=>opt (binInt .gtr v6 (.int .u8 3)) fun v=>k v H2) H2 fun v7 H3=>opt (pick v5 (.bool true) v7) fun v8=>ifB v8 (
 Q (.tuple #[(.int .u16 0),(.int .i64 22)]) H3) (
 opt (binInt .eql x3 (.int .u8 3)) fun v9=>gd v9 true (fun k=>k x4 H3) H3 fun v10 H4=>gd v9 true (fun k=>opt (lenStr v10) fun v=>k v H4) H4 fun v11 H5=>gd v9 true (fun k=>opt (binInt .lss v11 (.int .i64 1)) fun v=>k v H5) H5 fun v12 H6=>gd v9 true (fun k=>k v12 H6) H6 fun v13 H7=>gd v13 false (fun k=>k x4 H7) H7 fun v14 H8=>gd v13 false (fun k=>opt (lenStr v14) fun v=>k v H8) H8 fun v15 H9=>gd v13 false (fun k=>opt (binInt .gtr v15 (.int .i64 120)) fun v=>k v H9) H9 fun v16 H10=>gd v9 true (fun k=>opt (pick v13 (.bool true) v16) fun v=>k v H10) H10 fun v17 H11=>opt (pick v9 v17 (.bool false)) fun v18=>ifB v18 (
 Q (.tuple #[(.int .u16 0),(.int .i64 22)]) H11) (
 opt (nilCk x0) fun v19=>opt (addOff v19 0) fun v20=>opt (load1 v20 H11) fun v21=>opt (lenMap v21 H11) fun v22=>opt (nilCk x0) fun v23=>opt (addOff v23 1) fun v24=>opt (load1 v24 H11) fun v25=>opt (binInt .geq v22 v25) fun v26=>ifB v26 (
 Q (.tuple #[(.int .u16 0),(.int .i64 28)]) H11) (
 opt (binInt .eql x3 (.int .u8 2)) fun v27=>gd v27 true (fun k=>k x0 H11) H11 fun v28 H12=>gd v27 true (fun k=>k x1 H12) H12 fun v29 H13=>gd v27 true (fun k=>E.call (E.fid i.f11) [v28,v29] H13 fun v h=>k v h) H13 fun v30 H14=>gd v27 true (fun k=>opt (binInt .geq v30 (.int .i64 16)) fun v=>k v H14) H14 fun v31 H15=>opt (pick v27 v31 (.bool false)) fun v32=>ifB v32 (
 Q (.tuple #[(.int .u16 0),(.int .i64 28)]) H15) (
 LoopL (fun l H X0=>F.f10_l1 E Q (nth l 0) (nth l 1) (nth l 2) (nth l 3) (nth l 4) (nth l 5) (nth l 6) H X0) [x0,x1,x2,x3,x4,v2,(.int .u16 1)] H15)))))

def F.f43 (E:Sy) (x0 x1:Value) (H:AH) (Q:VK):Prop :=
 opt (binNil eqPtr .eql x0 (.pointer none)) fun v1=>ifB v1 (
 Q (.int .u16 0) H) (
 opt (nilCk x0) fun v2=>opt (addOff v2 1) fun v3=>opt (load1 v3 H) fun v4=>opt (look 0 (.int .u16 0) false v4 x1 H) fun v5=>Q v5 H)

def F.f44 (E:Sy) (x0 x1 x2 x3:Value) (H:AH) (Q:VK):Prop :=
 E.call (E.fid i.f46) [x0] H fun v1 H1=>opt (binInt .and x1 v1) fun v2=>E.call (E.fid i.f45) [x0,x2,x3] H1 fun v3 H2=>opt (binInt .andNot v2 v3) fun v4=>Q v4 H2

def F.f60_l1 (E:Sy) (Q:VK) (t0 t3 t5 t13:Value) (H:AH) (X0:LK):Prop :=
 opt (binInt .lss t13 (.int .i64 289)) fun v1=>ifB v1 (
 opt (loadN 2 t3 H) fun v2=>mk (buildS 1 2 #[(.int .i64 0),(.int .u16 0)] [(0,v2)]) H fun v3 H1=>opt2 (app 2 16 t5 v3 H1) fun v4 H2=>opt (nilCk t0) fun v5=>opt (addOff v5 1) fun v6=>opt (load1 v6 H2) fun v7=>opt (loadN 2 t3 H2) fun v8=>allocW [(.int .i64 0),(.int .u16 0)] H2 fun v9 H3=>E.call (E.fid i.f23) [v7,v8] H3 fun v10 H4=>H4.get H2.next=H3.get H2.next /\
 opt (ext v10 0) fun v11=>opt (ext v10 1) fun v12=>opt (storeN 2 v9 v11 H4) fun H5=>ifB v12 (
 opt (loadN 2 v9 H5) fun v13=>opt (storeN 2 t3 v13 H5) fun H6=>opt (binInt .add t13 (.int .i64 1)) fun v14=>X0 [t0,t3,v4,v14] H6) (
 opt (addOff t3 0) fun v15=>opt (load1 v15 H5) fun v16=>opt (nilCk t0) fun v17=>opt (addOff v17 0) fun v18=>opt (load1 v18 H5) fun v19=>opt (addOff t3 1) fun v20=>opt (load1 v20 H5) fun v21=>allocW [(.int .i64 0),(.int .u16 0)] H5 fun v22 H7=>E.call (E.fid i.f8) [v19,v21] H7 fun v23 H8=>H8.get H5.next=H7.get H5.next /\
 load1 v15 H8=load1 v15 H5 /\
 opt (nilCk v23) fun v24=>opt (addOff v24 4) fun v25=>opt (load1 v25 H8) fun v26=>opt (buildV [(0,1),(1,1)] #[(.int .i64 0),(.int .u16 0)] [(0,v16),(1,v26)]) fun v27=>opt (storeN 2 v22 v27 H8) fun H9=>opt (loadN 2 v22 H9) fun v28=>opt (loadN 2 t3 H9) fun v29=>opt (binAgg [0,0] .eql v28 v29) fun v30=>gd v30 false (fun k=>k t0 H9) H9 fun v31 H10=>gd v30 false (fun k=>opt (nilCk v31) fun v=>k v H10) H10 fun v32 H11=>gd v30 false (fun k=>opt (addOff v32 0) fun v=>k v H11) H11 fun v33 H12=>gd v30 false (fun k=>opt (load1 v33 H12) fun v=>k v H12) H12 fun v34 H13=>gd v30 false (fun k=>opt (addOff v22 1) fun v=>k v H13) H13 fun v35 H14=>gd v30 false (fun k=>opt (load1 v35 H14) fun v=>k v H14) H14 fun v36 H15=>gd v30 false (fun k=>E.call (E.fid i.f8) [v34,v36] H15 fun v h=>k v h) H15 fun v37 H16=>gd v30 false (fun k=>opt (binNil eqPtr .eql v37 (.pointer none)) fun v=>k v H16) H16 fun v38 H17=>opt (pick v30 (.bool true) v38) fun v39=>ifB v39 (
 Q v4 H17) (
 opt (loadN 2 v22 H17) fun v40=>opt (storeN 2 t3 v40 H17) fun H18=>opt (binInt .add t13 (.int .i64 1)) fun v41=>X0 [t0,t3,v4,v41] H18))) (
 Q t5 H)
def F.f60 (E:Sy) (x0 x1:Value) (H:AH) (Q:VK):Prop :=
 mk (boxO x1) H fun v1 H1=>opt (loadN 2 v1 H1) fun v2=>E.call (E.fid i.f61) [x0,v2] H1 fun v3 H2=>opt (un .not v3) fun v4=>ifB v4 (
 Q (.slice none 0 0) H2) (
 LoopL (fun l H X0=>F.f60_l1 E Q (nth l 0) (nth l 1) (nth l 2) (nth l 3) H X0) [x0,v1,(.slice none 0 0),(.int .i64 0)] H2)

def F.f40 (E:Sy) (x0:Value) (H:AH) (Q:VK):Prop :=
 opt (fold2 max2 [x0,(.int .i64 0)]) fun v1=>opt (fold2 min2 [v1,(.int .i64 4095)]) fun v2=>opt (convInt .u32 v2) fun v3=>opt (binInt .or (.int .u32 327680) v3) fun v4=>Q v4 H

def F.f35 (E:Sy) (H:AH) (Q:VK):Prop :=
 mk (buildS 12 1 #[(.int .u64 0)] [(0,(.int .u64 0)),(1,(.int .u64 1)),(2,(.int .u64 2)),(3,(.int .u64 3)),(4,(.int .u64 5)),(5,(.int .u64 255)),(6,(.int .u64 4294967295)),(7,(.int .u64 4294967296)),(8,(.int .u64 4294967297)),(9,(.int .u64 8589934597)),(10,(.int .u64 9223372036854775810)),(11,(.int .u64 18446744073709551615))]) H fun v1 H1=>Q v1 H1

def F.f64_j1 (E:Sy) (Q:VK) (t2 t6 t8:Value) (H:AH):Prop :=
 E.call (E.fid i.f66) [t2] H fun v1 H1=>opt (addOff t8 3) fun v2=>opt (store1 v2 v1 H1) fun H2=>opt (loadN 5 t8 H2) fun v3=>opt (storeN 5 t6 v3 H2) fun H3=>opt (loadN 5 t6 H3) fun v4=>Q (.tuple #[v4,(.int .i64 0)]) H3
def F.f64 (E:Sy) (x0 x1 x2:Value) (H:AH) (Q:VK):Prop :=
 mk (boxO x1) H fun v1 H1=>allocW [(.pointer none),(.int .i64 0),(.int .u16 0),(.slice none 0 0),(.int .i64 0)] H1 fun v2 H2=>opt (loadN 2 v1 H2) fun v3=>opt (buildV [(0,1),(1,2),(3,1),(4,1)] #[(.pointer none),(.int .i64 0),(.int .u16 0),(.slice none 0 0),(.int .i64 0)] [(0,x0),(1,v3)]) fun v4=>allocW [(.pointer none),(.int .i64 0),(.int .u16 0),(.slice none 0 0),(.int .i64 0)] H2 fun v5 H3=>opt (storeN 5 v5 v4 H3) fun H4=>E.call (E.fid i.f65) [x0] H4 fun v6 H5=>opt (un .not v6) fun v7=>ifB v7 (
 opt (loadN 5 v5 H5) fun v8=>opt (storeN 5 v2 v8 H5) fun H6=>opt (loadN 5 v2 H6) fun v9=>Q (.tuple #[v9,(.int .i64 201)]) H6) (
 opt (binStr .eql x2 (.string ⟨#[]⟩)) fun v10=>ifB v10 (
 opt (loadN 5 v5 H5) fun v11=>opt (storeN 5 v2 v11 H5) fun H7=>opt (loadN 5 v2 H7) fun v12=>Q (.tuple #[v12,(.int .i64 2)]) H7) (
 opt (lenStr x2) fun v13=>opt (binInt .gtr v13 (.int .i64 120)) fun v14=>ifB v14 (
 opt (loadN 5 v5 H5) fun v15=>opt (storeN 5 v2 v15 H5) fun H8=>opt (loadN 5 v2 H8) fun v16=>Q (.tuple #[v16,(.int .i64 36)]) H8) (
 opt (ixStr x2 (.int .i64 0)) fun v17=>opt (binInt .eql v17 (.int .u8 47)) fun v18=>ifB v18 (
 opt (nilCk x0) fun v19=>opt (addOff v19 1) fun v20=>opt (load1 v20 H5) fun v21=>E.call (E.fid i.f29) [] H5 fun v22 H9=>load1 v20 H9=load1 v20 H5 /\
 E.call (E.fid i.f25) [v21,v22] H9 fun v23 H10=>opt (addOff v5 1) fun v24=>opt (storeN 2 v24 v23 H10) fun H11=>F.f64_j1 E Q x2 v2 v5 H11) (
 F.f64_j1 E Q x2 v2 v5 H5))))

def F.f49 (E:Sy) (x0 x1:Value) (H:AH) (Q:VK):Prop :=
 E.call (E.fid i.f19) [x0,x1] H fun v1 H1=>Q v1 H1

def F.f68 (E:Sy) (x0 x1:Value) (H:AH) (Q:VK):Prop :=
 opt (nilCk x0) fun v1=>opt (addOff v1 3) fun v2=>opt (load1 v2 H) fun v3=>opt (ixSlc 1 v3 (.int .i64 0)) fun v4=>opt (load1 v4 H) fun v5=>opt (nilCk x0) fun v6=>opt (addOff v6 3) fun v7=>opt (load1 v7 H) fun v8=>opt (slSlc 1 v8 (some (.int .i64 1)) none none H) fun v9=>opt (nilCk x0) fun v10=>opt (addOff v10 3) fun v11=>opt (store1 v11 v9 H) fun H1=>opt (nilCk x0) fun v12=>opt (addOff v12 0) fun v13=>opt (load1 v13 H1) fun v14=>opt (nilCk x0) fun v15=>opt (addOff v15 1) fun v16=>opt (loadN 2 v16 H1) fun v17=>E.call (E.fid i.f61) [v14,v17] H1 fun v18 H2=>opt (un .not v18) fun v19=>ifB v19 (
 Q (.int .i64 20) H2) (
 opt (binStr .eql v5 (.string ⟨#[46,46]⟩)) fun v20=>ifB v20 (
 opt (nilCk x0) fun v21=>opt (addOff v21 0) fun v22=>opt (load1 v22 H2) fun v23=>opt (nilCk x0) fun v24=>opt (addOff v24 1) fun v25=>opt (loadN 2 v25 H2) fun v26=>E.call (E.fid i.f63) [v23,v26] H2 fun v27 H3=>opt (nilCk x0) fun v28=>opt (addOff v28 1) fun v29=>opt (storeN 2 v29 v27 H3) fun H4=>opt (nilCk x0) fun v30=>opt (addOff v30 0) fun v31=>opt (load1 v31 H4) fun v32=>opt (nilCk v32) fun v33=>opt (addOff v33 0) fun v34=>opt (load1 v34 H4) fun v35=>opt (nilCk x0) fun v36=>opt (addOff v36 1) fun v37=>opt (addOff v37 1) fun v38=>opt (load1 v38 H4) fun v39=>E.call (E.fid i.f8) [v35,v39] H4 fun v40 H5=>opt (binNil eqPtr .neq v40 (.pointer none)) fun v41=>gd v41 true (fun k=>k x0 H5) H5 fun v42 H6=>gd v41 true (fun k=>opt (nilCk v42) fun v=>k v H6) H6 fun v43 H7=>gd v41 true (fun k=>opt (addOff v43 0) fun v=>k v H7) H7 fun v44 H8=>gd v41 true (fun k=>opt (load1 v44 H8) fun v=>k v H8) H8 fun v45 H9=>gd v41 true (fun k=>k x0 H9) H9 fun v46 H10=>gd v41 true (fun k=>opt (nilCk v46) fun v=>k v H10) H10 fun v47 H11=>gd v41 true (fun k=>opt (addOff v47 1) fun v=>k v H11) H11 fun v48 H12=>gd v41 true (fun k=>opt (loadN 2 v48 H12) fun v=>k v H12) H12 fun v49 H13=>gd v41 true (fun k=>E.call (E.fid i.f61) [v45,v49] H13 fun v h=>k v h) H13 fun v50 H14=>gd v41 true (fun k=>opt (un .not v50) fun v=>k v H14) H14 fun v51 H15=>opt (pick v41 v51 (.bool false)) fun v52=>ifB v52 (
 Q (.int .i64 2) H15) (
 Q (.int .i64 0) H15)) (
 opt (lenStr v5) fun v53=>opt (binInt .gtr v53 (.int .i64 14)) fun v54=>ifB v54 (
 Q (.int .i64 36) H2) (
 opt (nilCk x0) fun v55=>opt (addOff v55 0) fun v56=>opt (load1 v56 H2) fun v57=>opt (nilCk v57) fun v58=>opt (addOff v58 0) fun v59=>opt (load1 v59 H2) fun v60=>opt (nilCk x0) fun v61=>opt (addOff v61 1) fun v62=>opt (addOff v62 1) fun v63=>opt (load1 v63 H2) fun v64=>E.call (E.fid i.f9) [v60,v64,v5] H2 fun v65 H16=>opt (ext v65 0) fun v66=>opt (ext v65 1) fun v67=>opt (binInt .neq v67 (.int .i64 0)) fun v68=>ifB v68 (
 Q v67 H16) (
 opt (nilCk x0) fun v69=>opt (addOff v69 0) fun v70=>opt (load1 v70 H16) fun v71=>opt (nilCk v71) fun v72=>opt (addOff v72 0) fun v73=>opt (load1 v73 H16) fun v74=>E.call (E.fid i.f8) [v74,v66] H16 fun v75 H17=>opt (nilCk v75) fun v76=>opt (addOff v76 1) fun v77=>opt (load1 v77 H17) fun v78=>opt (binInt .eql v78 (.int .u8 3)) fun v79=>gd v79 true (fun k=>k x1 H17) H17 fun v80 H18=>gd v79 true (fun k=>k v80 H18) H18 fun v81 H19=>gd v81 false (fun k=>k x0 H19) H19 fun v82 H20=>gd v81 false (fun k=>opt (nilCk v82) fun v=>k v H20) H20 fun v83 H21=>gd v81 false (fun k=>opt (addOff v83 3) fun v=>k v H21) H21 fun v84 H22=>gd v81 false (fun k=>opt (load1 v84 H22) fun v=>k v H22) H22 fun v85 H23=>gd v81 false (fun k=>opt (lenSlc v85) fun v=>k v H23) H23 fun v86 H24=>gd v81 false (fun k=>opt (binInt .gtr v86 (.int .i64 0)) fun v=>k v H24) H24 fun v87 H25=>gd v79 true (fun k=>opt (pick v81 (.bool true) v87) fun v=>k v H25) H25 fun v88 H26=>opt (pick v79 v88 (.bool false)) fun v89=>ifB v89 (
 opt (nilCk v75) fun v90=>opt (addOff v90 5) fun v91=>opt (load1 v91 H26) fun v92=>E.call (E.fid i.f67) [x0,v92] H26 fun v93 H27=>Q v93 H27) (
 opt (nilCk x0) fun v94=>opt (addOff v94 1) fun v95=>opt (addOff v95 0) fun v96=>opt (load1 v96 H26) fun v97=>opt (buildV [(0,1),(1,1)] #[(.int .i64 0),(.int .u16 0)] [(0,v97),(1,v66)]) fun v98=>opt (nilCk x0) fun v99=>opt (addOff v99 1) fun v100=>opt (storeN 2 v100 v98 H26) fun H28=>opt (nilCk v75) fun v101=>opt (addOff v101 1) fun v102=>opt (load1 v102 H28) fun v103=>opt (binInt .eql v103 (.int .u8 2)) fun v104=>ifB v104 (
 opt (nilCk x0) fun v105=>opt (addOff v105 0) fun v106=>opt (load1 v106 H28) fun v107=>opt (nilCk v107) fun v108=>opt (addOff v108 1) fun v109=>opt (load1 v109 H28) fun v110=>opt (nilCk x0) fun v111=>opt (addOff v111 1) fun v112=>opt (loadN 2 v112 H28) fun v113=>E.call (E.fid i.f25) [v110,v113] H28 fun v114 H29=>opt (nilCk x0) fun v115=>opt (addOff v115 1) fun v116=>opt (storeN 2 v116 v114 H29) fun H30=>Q (.int .i64 0) H30) (
 Q (.int .i64 0) H28))))))

def F.f61 (E:Sy) (x0 x1:Value) (H:AH) (Q:VK):Prop :=
 mk (boxO x1) H fun v1 H1=>E.call (E.fid i.f65) [x0] H1 fun v2 H2=>opt (un .not v2) fun v3=>ifB v3 (
 Q (.bool false) H2) (
 opt (nilCk x0) fun v4=>opt (addOff v4 0) fun v5=>opt (load1 v5 H2) fun v6=>opt (addOff v1 1) fun v7=>opt (load1 v7 H2) fun v8=>E.call (E.fid i.f8) [v6,v8] H2 fun v9 H3=>opt (nilCk x0) fun v10=>opt (addOff v10 1) fun v11=>opt (load1 v11 H3) fun v12=>opt (addOff v1 0) fun v13=>opt (load1 v13 H3) fun v14=>allocW [(.int .i64 0),(.int .i64 0),(.int .u16 0),(.int .u16 0),(.int .i64 0)] H3 fun v15 H4=>E.call (E.fid i.f24) [v12,v14] H4 fun v16 H5=>H5.get H3.next=H4.get H3.next /\
 opt (ext v16 0) fun v17=>opt (ext v16 1) fun v18=>opt (storeN 5 v15 v17 H5) fun H6=>gd v18 true (fun k=>k v9 H6) H6 fun v19 H7=>gd v18 true (fun k=>opt (binNil eqPtr .neq v19 (.pointer none)) fun v=>k v H7) H7 fun v20 H8=>opt (pick v18 v20 (.bool false)) fun v21=>gd v21 true (fun k=>k v9 H8) H8 fun v22 H9=>gd v21 true (fun k=>opt (nilCk v22) fun v=>k v H9) H9 fun v23 H10=>gd v21 true (fun k=>opt (addOff v23 1) fun v=>k v H10) H10 fun v24 H11=>gd v21 true (fun k=>opt (load1 v24 H11) fun v=>k v H11) H11 fun v25 H12=>gd v21 true (fun k=>opt (binInt .eql v25 (.int .u8 2)) fun v=>k v H12) H12 fun v26 H13=>opt (pick v21 v26 (.bool false)) fun v27=>Q v27 H13)

def F.f13 (E:Sy) (x0 x1 x2:Value) (H:AH) (Q:VK):Prop :=
 E.call (E.fid i.f12) [x0,x1] H fun v1 H1=>opt (ext v1 0) fun v2=>opt (ext v1 1) fun v3=>opt (binInt .neq v3 (.int .i64 0)) fun v4=>ifB v4 (
 Q (.tuple #[(.pointer none),v3]) H1) (
 E.call (E.fid i.f5) [x2] H1 fun v5 H2=>opt (un .not v5) fun v6=>ifB v6 (
 Q (.tuple #[(.pointer none),(.int .i64 22)]) H2) (
 opt (nilCk v2) fun v7=>opt (addOff v7 3) fun v8=>opt (load1 v8 H2) fun v9=>opt (look 1 (.int .u16 0) true v9 x2 H2) fun v10=>opt (ext v10 0) fun v11=>opt (ext v10 1) fun v12=>ifB v12 (
 Q (.tuple #[(.pointer none),(.int .i64 17)]) H2) (
 opt (nilCk v2) fun v13=>opt (addOff v13 6) fun v14=>opt (load1 v14 H2) fun v15=>opt (binInt .eql v15 (.int .i64 0)) fun v16=>ifB v16 (
 Q (.tuple #[(.pointer none),(.int .i64 2)]) H2) (
 opt (nilCk v2) fun v17=>opt (addOff v17 3) fun v18=>opt (load1 v18 H2) fun v19=>opt (lenMap v19 H2) fun v20=>opt (binInt .geq v20 (.int .i64 32)) fun v21=>ifB v21 (
 Q (.tuple #[(.pointer none),(.int .i64 28)]) H2) (
 Q (.tuple #[v2,(.int .i64 0)]) H2)))))

def F.f11_l1 (E:Sy) (Q:VK) (t0 t1 t5:Value) (H:AH) (X0:LK):Prop :=
 opt (binInt .neq t1 (.int .u16 1)) fun v1=>gd v1 true (fun k=>k t5 H) H fun v2 H1=>gd v1 true (fun k=>opt (binInt .leq v2 (.int .i64 16)) fun v=>k v H1) H1 fun v3 H2=>opt (pick v1 v3 (.bool false)) fun v4=>ifB v4 (
 opt (nilCk t0) fun v5=>opt (addOff v5 0) fun v6=>opt (load1 v6 H2) fun v7=>opt (look 0 (.pointer none) false v7 t1 H2) fun v8=>opt (nilCk v8) fun v9=>opt (addOff v9 4) fun v10=>opt (load1 v10 H2) fun v11=>opt (binInt .add t5 (.int .i64 1)) fun v12=>X0 [t0,v11,v12] H2) (
 Q t5 H2)
def F.f11 (E:Sy) (x0 x1:Value) (H:AH) (Q:VK):Prop :=
 LoopL (fun l H X0=>F.f11_l1 E Q (nth l 0) (nth l 1) (nth l 2) H X0) [x0,x1,(.int .i64 0)] H

def F.f57 (E:Sy) (x0 x1:Value) (H:AH) (Q:VK):Prop :=
 opt (nilCk x0) fun v1=>opt (addOff v1 0) fun v2=>E.call (E.fid i.f56) [v2,x1] H fun v3 H1=>Q v3 H1

def F.f46 (E:Sy) (x0:Value) (H:AH) (Q:VK):Prop :=
 opt (binNil eqPtr .eql x0 (.pointer none)) fun v1=>ifB v1 (
 Q (.int .u16 0) H) (
 opt (nilCk x0) fun v2=>opt (addOff v2 0) fun v3=>opt (load1 v3 H) fun v4=>Q v4 H)

def F.f45_l1 (E:Sy) (Q:VK) (t0 t7 t13 t14 t15:Value) (H:AH) (X0:LK):Prop :=
 opt (binInt .lss t15 t14) fun v1=>ifB v1 (
 opt (ixSlc 2 t13 t15) fun v2=>opt (loadN 2 v2 H) fun v3=>allocW [(.int .i64 0),(.int .u16 0)] H fun v4 H1=>opt (storeN 2 v4 v3 H1) fun H2=>opt (addOff v4 1) fun v5=>opt (load1 v5 H2) fun v6=>E.call (E.fid i.f43) [t0,v6] H2 fun v7 H3=>opt (binInt .or t7 v7) fun v8=>opt (binInt .add t15 (.int .i64 1)) fun v9=>X0 [t0,v8,t13,t14,v9] H3) (
 Q t7 H)
def F.f45 (E:Sy) (x0 x1 x2:Value) (H:AH) (Q:VK):Prop :=
 E.call (E.fid i.f43) [x0,x1] H fun v1 H1=>opt (lenSlc x2) fun v2=>LoopL (fun l H X0=>F.f45_l1 E Q (nth l 0) (nth l 1) (nth l 2) (nth l 3) (nth l 4) H X0) [x0,v1,x2,v2,(.int .i64 0)] H1

def F.f23 (E:Sy) (x0 x1:Value) (H:AH) (Q:VK):Prop :=
 mk (boxO x1) H fun v1 H1=>allocW [(.int .i64 0),(.int .u16 0)] H1 fun v2 H2=>opt (addOff v1 0) fun v3=>opt (load1 v3 H2) fun v4=>E.call (E.fid i.f24) [x0,v4] H2 fun v5 H3=>opt (ext v5 0) fun v6=>opt (ext v5 1) fun v7=>allocW [(.int .i64 0),(.int .i64 0),(.int .u16 0),(.int .u16 0),(.int .i64 0)] H3 fun v8 H4=>opt (storeN 5 v8 v6 H4) fun H5=>opt (un .not v7) fun v9=>gd v9 false (fun k=>opt (addOff v8 0) fun v=>k v H5) H5 fun v10 H6=>gd v9 false (fun k=>opt (load1 v10 H6) fun v=>k v H6) H6 fun v11 H7=>gd v9 false (fun k=>opt (binInt .eql v11 (.int .i64 0)) fun v=>k v H7) H7 fun v12 H8=>opt (pick v9 (.bool true) v12) fun v13=>gd v13 false (fun k=>opt (addOff v8 3) fun v=>k v H8) H8 fun v14 H9=>gd v13 false (fun k=>opt (load1 v14 H9) fun v=>k v H9) H9 fun v15 H10=>gd v13 false (fun k=>opt (addOff v1 1) fun v=>k v H10) H10 fun v16 H11=>gd v13 false (fun k=>opt (load1 v16 H11) fun v=>k v H11) H11 fun v17 H12=>gd v13 false (fun k=>opt (binInt .neq v15 v17) fun v=>k v H12) H12 fun v18 H13=>opt (pick v13 (.bool true) v18) fun v19=>ifB v19 (
 opt (buildV [(0,1),(1,1)] #[(.int .i64 0),(.int .u16 0)] []) fun v20=>opt (storeN 2 v2 v20 H13) fun H14=>opt (loadN 2 v2 H14) fun v21=>Q (.tuple #[v21,(.bool false)]) H14) (
 opt (addOff v8 1) fun v22=>opt (loadN 2 v22 H13) fun v23=>opt (storeN 2 v2 v23 H13) fun H15=>opt (loadN 2 v2 H15) fun v24=>Q (.tuple #[v24,(.bool true)]) H15)

def F.f65 (E:Sy) (x0:Value) (H:AH) (Q:VK):Prop :=
 opt (binNil eqPtr .neq x0 (.pointer none)) fun v1=>gd v1 true (fun k=>k x0 H) H fun v2 H1=>gd v1 true (fun k=>opt (nilCk v2) fun v=>k v H1) H1 fun v3 H2=>gd v1 true (fun k=>opt (addOff v3 0) fun v=>k v H2) H2 fun v4 H3=>gd v1 true (fun k=>opt (load1 v4 H3) fun v=>k v H3) H3 fun v5 H4=>gd v1 true (fun k=>opt (binNil eqPtr .neq v5 (.pointer none)) fun v=>k v H4) H4 fun v6 H5=>opt (pick v1 v6 (.bool false)) fun v7=>gd v7 true (fun k=>k x0 H5) H5 fun v8 H6=>gd v7 true (fun k=>opt (nilCk v8) fun v=>k v H6) H6 fun v9 H7=>gd v7 true (fun k=>opt (addOff v9 1) fun v=>k v H7) H7 fun v10 H8=>gd v7 true (fun k=>opt (load1 v10 H8) fun v=>k v H8) H8 fun v11 H9=>gd v7 true (fun k=>opt (binNil eqPtr .neq v11 (.pointer none)) fun v=>k v H9) H9 fun v12 H10=>opt (pick v7 v12 (.bool false)) fun v13=>Q v13 H10

def F.f25_l1 (E:Sy) (Q:VK) (t0 t3 t4:Value) (H:AH) (X0:LK):Prop :=
 opt (nilCk t0) fun v1=>opt (addOff v1 0) fun v2=>opt (load1 v2 H) fun v3=>opt (some (.func (.func (E.fid i.f26)) #[] #[t3])) fun v4=>E.call (E.fid i.f47) [v3,v4] H fun v5 H1=>opt (binInt .lss v5 (.int .i64 0)) fun v6=>ifB v6 (
 opt (loadN 2 t3 H1) fun v7=>opt (storeN 2 t4 v7 H1) fun H2=>opt (loadN 2 t4 H2) fun v8=>Q v8 H2) (
 opt (nilCk t0) fun v9=>opt (addOff v9 0) fun v10=>opt (load1 v10 H1) fun v11=>opt (ixSlc 5 v11 v5) fun v12=>opt (addOff v12 0) fun v13=>opt (load1 v13 H1) fun v14=>opt (nilCk t0) fun v15=>opt (addOff v15 0) fun v16=>opt (load1 v16 H1) fun v17=>opt (ixSlc 5 v17 v5) fun v18=>opt (addOff v18 3) fun v19=>opt (load1 v19 H1) fun v20=>opt (buildV [(0,1),(1,1)] #[(.int .i64 0),(.int .u16 0)] [(0,v14),(1,v20)]) fun v21=>opt (storeN 2 t3 v21 H1) fun H3=>X0 [t0,t3,t4] H3)
def F.f25 (E:Sy) (x0 x1:Value) (H:AH) (Q:VK):Prop :=
 mk (boxO x1) H fun v1 H1=>allocW [(.int .i64 0),(.int .u16 0)] H1 fun v2 H2=>opt (binNil eqPtr .eql x0 (.pointer none)) fun v3=>ifB v3 (
 opt (loadN 2 v1 H2) fun v4=>opt (storeN 2 v2 v4 H2) fun H3=>opt (loadN 2 v2 H3) fun v5=>Q v5 H3) (
 LoopL (fun l H X0=>F.f25_l1 E Q (nth l 0) (nth l 1) (nth l 2) H X0) [x0,v1,v2] H2)

def F.f66_l1 (E:Sy) (Q:VK) (t3 t7 t8 t9:Value) (H:AH) (X0:LK):Prop :=
 opt (binInt .lss t9 t8) fun v1=>ifB v1 (
 opt (ixSlc 1 t7 t9) fun v2=>opt (load1 v2 H) fun v3=>opt (binStr .neq v3 (.string ⟨#[]⟩)) fun v4=>gd v4 true (fun k=>k v3 H) H fun v5 H1=>gd v4 true (fun k=>opt (binStr .neq v5 (.string ⟨#[46]⟩)) fun v=>k v H1) H1 fun v6 H2=>opt (pick v4 v6 (.bool false)) fun v7=>ifB v7 (
 mk (buildS 1 1 #[(.string ⟨#[]⟩)] [(0,v3)]) H2 fun v8 H3=>opt2 (app 1 16 t3 v8 H3) fun v9 H4=>opt (binInt .add t9 (.int .i64 1)) fun v10=>X0 [v9,t7,t8,v10] H4) (
 opt (binInt .add t9 (.int .i64 1)) fun v11=>X0 [t3,t7,t8,v11] H2)) (
 Q t3 H)
def F.f66 (E:Sy) (x0:Value) (H:AH) (Q:VK):Prop :=
 E.call (E.fid i.f52) [x0,(.string ⟨#[47]⟩)] H fun v1 H1=>opt (lenSlc v1) fun v2=>LoopL (fun l H X0=>F.f66_l1 E Q (nth l 0) (nth l 1) (nth l 2) (nth l 3) H X0) [(.slice none 0 0),v1,v2,(.int .i64 0)] H1

def F.f19 (E:Sy) (x0 x1:Value) (H:AH) (Q:VK):Prop :=
 opt (lenStr x0) fun v1=>opt (lenStr x1) fun v2=>opt (binInt .geq v1 v2) fun v3=>gd v3 true (fun k=>k x0 H) H fun v4 H1=>gd v3 true (fun k=>k x0 H1) H1 fun v5 H2=>gd v3 true (fun k=>opt (lenStr v5) fun v=>k v H2) H2 fun v6 H3=>gd v3 true (fun k=>k x1 H3) H3 fun v7 H4=>gd v3 true (fun k=>opt (lenStr v7) fun v=>k v H4) H4 fun v8 H5=>gd v3 true (fun k=>opt (binInt .sub v6 v8) fun v=>k v H5) H5 fun v9 H6=>gd v3 true (fun k=>opt (slStr v4 (some v9) none) fun v=>k v H6) H6 fun v10 H7=>gd v3 true (fun k=>k x1 H7) H7 fun v11 H8=>gd v3 true (fun k=>opt (binStr .eql v10 v11) fun v=>k v H8) H8 fun v12 H9=>opt (pick v3 v12 (.bool false)) fun v13=>Q v13 H9

def F.f63_l1 (E:Sy) (Q:VK) (t0 t3 t4:Value) (H:AH) (X0:LK):Prop :=
 opt (nilCk t0) fun v1=>opt (addOff v1 1) fun v2=>opt (load1 v2 H) fun v3=>opt (loadN 2 t3 H) fun v4=>allocW [(.int .i64 0),(.int .u16 0)] H fun v5 H1=>E.call (E.fid i.f23) [v3,v4] H1 fun v6 H2=>H2.get H.next=H1.get H.next /\
 opt (ext v6 0) fun v7=>opt (ext v6 1) fun v8=>opt (storeN 2 v5 v7 H2) fun H3=>opt (un .not v8) fun v9=>ifB v9 (
 opt (nilCk t0) fun v10=>opt (addOff v10 0) fun v11=>opt (load1 v11 H3) fun v12=>opt (addOff t3 1) fun v13=>opt (load1 v13 H3) fun v14=>E.call (E.fid i.f8) [v12,v14] H3 fun v15 H4=>opt (binNil eqPtr .eql v15 (.pointer none)) fun v16=>ifB v16 (
 E.call (E.fid i.f29) [] H4 fun v17 H5=>opt (storeN 2 t4 v17 H5) fun H6=>opt (loadN 2 t4 H6) fun v18=>Q v18 H6) (
 opt (nilCk t0) fun v19=>opt (addOff v19 1) fun v20=>opt (load1 v20 H4) fun v21=>opt (addOff t3 0) fun v22=>opt (load1 v22 H4) fun v23=>opt (nilCk v15) fun v24=>opt (addOff v24 4) fun v25=>opt (load1 v25 H4) fun v26=>opt (buildV [(0,1),(1,1)] #[(.int .i64 0),(.int .u16 0)] [(0,v23),(1,v26)]) fun v27=>E.call (E.fid i.f25) [v21,v27] H4 fun v28 H7=>opt (storeN 2 t4 v28 H7) fun H8=>opt (loadN 2 t4 H8) fun v29=>Q v29 H8)) (
 opt (loadN 2 v5 H3) fun v30=>opt (storeN 2 t3 v30 H3) fun H9=>X0 [t0,t3,t4] H9)
def F.f63 (E:Sy) (x0 x1:Value) (H:AH) (Q:VK):Prop :=
 mk (boxO x1) H fun v1 H1=>allocW [(.int .i64 0),(.int .u16 0)] H1 fun v2 H2=>opt (loadN 2 v1 H2) fun v3=>E.call (E.fid i.f61) [x0,v3] H2 fun v4 H3=>opt (un .not v4) fun v5=>ifB v5 (
 E.call (E.fid i.f29) [] H3 fun v6 H4=>opt (storeN 2 v2 v6 H4) fun H5=>opt (loadN 2 v2 H5) fun v7=>Q v7 H5) (
 LoopL (fun l H X0=>F.f63_l1 E Q (nth l 0) (nth l 1) (nth l 2) H X0) [x0,v1,v2] H3)

def F.f9 (E:Sy) (x0 x1 x2:Value) (H:AH) (Q:VK):Prop :=
 E.call (E.fid i.f12) [x0,x1] H fun v1 H1=>opt (ext v1 0) fun v2=>opt (ext v1 1) fun v3=>opt (binInt .neq v3 (.int .i64 0)) fun v4=>ifB v4 (
 Q (.tuple #[(.int .u16 0),v3]) H1) (
 opt (nilCk v2) fun v5=>opt (addOff v5 3) fun v6=>opt (load1 v6 H1) fun v7=>opt (look 1 (.int .u16 0) true v7 x2 H1) fun v8=>opt (ext v8 0) fun v9=>opt (ext v8 1) fun v10=>opt (un .not v10) fun v11=>ifB v11 (
 Q (.tuple #[(.int .u16 0),(.int .i64 2)]) H1) (
 Q (.tuple #[v9,(.int .i64 0)]) H1))

def F.f67_j1 (E:Sy) (Q:VK) (t0 t1:Value) (H:AH):Prop :=
 opt (nilCk t0) fun v1=>opt (addOff v1 3) fun v2=>opt (load1 v2 H) fun v3=>E.call (E.fid i.f66) [t1] H fun v4 H1=>load1 v2 H1=load1 v2 H /\
 opt2 (app 1 16 v4 v3 H1) fun v5 H2=>opt (nilCk t0) fun v6=>opt (addOff v6 3) fun v7=>opt (store1 v7 v5 H2) fun H3=>Q (.int .i64 0) H3
def F.f67 (E:Sy) (x0 x1:Value) (H:AH) (Q:VK):Prop :=
 opt (nilCk x0) fun v1=>opt (addOff v1 4) fun v2=>opt (load1 v2 H) fun v3=>opt (binInt .add v3 (.int .i64 1)) fun v4=>opt (nilCk x0) fun v5=>opt (addOff v5 4) fun v6=>opt (store1 v6 v4 H) fun H1=>opt (nilCk x0) fun v7=>opt (addOff v7 4) fun v8=>opt (load1 v8 H1) fun v9=>opt (binInt .gtr v9 (.int .i64 8)) fun v10=>ifB v10 (
 Q (.int .i64 40) H1) (
 opt (ixStr x1 (.int .i64 0)) fun v11=>opt (binInt .eql v11 (.int .u8 47)) fun v12=>ifB v12 (
 opt (nilCk x0) fun v13=>opt (addOff v13 0) fun v14=>opt (load1 v14 H1) fun v15=>opt (nilCk v15) fun v16=>opt (addOff v16 1) fun v17=>opt (load1 v17 H1) fun v18=>E.call (E.fid i.f29) [] H1 fun v19 H2=>load1 v17 H2=load1 v17 H1 /\
 load1 v14 H2=load1 v14 H1 /\
 E.call (E.fid i.f25) [v18,v19] H2 fun v20 H3=>opt (nilCk x0) fun v21=>opt (addOff v21 1) fun v22=>opt (storeN 2 v22 v20 H3) fun H4=>F.f67_j1 E Q x0 x1 H4) (
 F.f67_j1 E Q x0 x1 H1))

def F.f24 (E:Sy) (x0 x1:Value) (H:AH) (Q:VK):Prop :=
 allocW [(.int .i64 0),(.int .i64 0),(.int .u16 0),(.int .u16 0),(.int .i64 0)] H fun v1 H1=>E.call (E.fid i.f27) [x0,x1] H1 fun v2 H2=>opt (binInt .lss v2 (.int .i64 0)) fun v3=>ifB v3 (
 opt (buildV [(0,1),(1,2),(3,1),(4,1)] #[(.int .i64 0),(.int .i64 0),(.int .u16 0),(.int .u16 0),(.int .i64 0)] []) fun v4=>opt (storeN 5 v1 v4 H2) fun H3=>opt (loadN 5 v1 H3) fun v5=>Q (.tuple #[v5,(.bool false)]) H3) (
 opt (nilCk x0) fun v6=>opt (addOff v6 0) fun v7=>opt (load1 v7 H2) fun v8=>opt (ixSlc 5 v8 v2) fun v9=>opt (loadN 5 v9 H2) fun v10=>opt (storeN 5 v1 v10 H2) fun H4=>opt (loadN 5 v1 H4) fun v11=>Q (.tuple #[v11,(.bool true)]) H4)

def F.f12 (E:Sy) (x0 x1:Value) (H:AH) (Q:VK):Prop :=
 E.call (E.fid i.f8) [x0,x1] H fun v1 H1=>opt (binNil eqPtr .eql v1 (.pointer none)) fun v2=>ifB v2 (
 Q (.tuple #[(.pointer none),(.int .i64 2)]) H1) (
 opt (nilCk v1) fun v3=>opt (addOff v3 1) fun v4=>opt (load1 v4 H1) fun v5=>opt (binInt .neq v5 (.int .u8 2)) fun v6=>ifB v6 (
 Q (.tuple #[(.pointer none),(.int .i64 20)]) H1) (
 Q (.tuple #[v1,(.int .i64 0)]) H1))

def F.f5 (E:Sy) (x0:Value) (H:AH) (Q:VK):Prop :=
 opt (lenStr x0) fun v1=>opt (binInt .lss v1 (.int .i64 1)) fun v2=>gd v2 false (fun k=>k x0 H) H fun v3 H1=>gd v2 false (fun k=>opt (lenStr v3) fun v=>k v H1) H1 fun v4 H2=>gd v2 false (fun k=>opt (binInt .gtr v4 (.int .i64 14)) fun v=>k v H2) H2 fun v5 H3=>opt (pick v2 (.bool true) v5) fun v6=>gd v6 false (fun k=>k x0 H3) H3 fun v7 H4=>gd v6 false (fun k=>opt (binStr .eql v7 (.string ⟨#[46]⟩)) fun v=>k v H4) H4 fun v8 H5=>opt (pick v6 (.bool true) v8) fun v9=>gd v9 false (fun k=>k x0 H5) H5 fun v10 H6=>gd v9 false (fun k=>opt (binStr .eql v10 (.string ⟨#[46,46]⟩)) fun v=>k v H6) H6 fun v11 H7=>opt (pick v9 (.bool true) v11) fun v12=>ifB v12 (
 Q (.bool false) H7) (
 E.call (E.fid i.f51) [x0,(.func (.func (E.fid i.f6)) #[] #[])] H7 fun v13 H8=>opt (binInt .lss v13 (.int .i64 0)) fun v14=>Q v14 H8)

def F.f26 (E:Sy) (x0 x1:Value) (H:AH) (Q:VK):Prop :=
 mk (boxO x0) H fun v1 H1=>opt (addOff v1 0) fun v2=>opt (load1 v2 H1) fun v3=>opt (binInt .neq v3 (.int .i64 0)) fun v4=>gd v4 true (fun k=>opt (addOff v1 1) fun v=>k v H1) H1 fun v5 H2=>gd v4 true (fun k=>opt (loadN 2 v5 H2) fun v=>k v H2) H2 fun v6 H3=>gd v4 true (fun k=>opt (loadN 2 x1 H3) fun v=>k v H3) H3 fun v7 H4=>gd v4 true (fun k=>opt (binAgg [0,0] .eql v6 v7) fun v=>k v H4) H4 fun v8 H5=>opt (pick v4 v8 (.bool false)) fun v9=>Q v9 H5

def F.f47_l1 (E:Sy) (Q:VK) (t0 t1 t7 t8:Value) (H:AH) (X0:LK):Prop :=
 opt (binInt .lss t8 t7) fun v1=>ifB v1 (
 opt (ixSlc 5 t0 t8) fun v2=>opt (loadN 5 v2 H) fun v3=>callV E.call t1 [v3] H fun v4 H1=>ifB v4 (
 Q t8 H1) (
 opt (binInt .add t8 (.int .i64 1)) fun v5=>X0 [t0,t1,t7,v5] H1)) (
 Q (.int .i64 (-1)) H)
def F.f47 (E:Sy) (x0 x1:Value) (H:AH) (Q:VK):Prop :=
 opt (lenSlc x0) fun v1=>LoopL (fun l H X0=>F.f47_l1 E Q (nth l 0) (nth l 1) (nth l 2) (nth l 3) H X0) [x0,x1,v1,(.int .i64 0)] H

def F.f52 (E:Sy) (x0 x1:Value) (H:AH) (Q:VK):Prop :=
 E.call (E.fid i.f54) [x0,x1,(.int .i64 0),(.int .i64 (-1))] H fun v1 H1=>Q v1 H1

def F.f27 (E:Sy) (x0 x1:Value) (H:AH) (Q:VK):Prop :=
 mk (boxO x1) H fun v1 H1=>opt (binNil eqPtr .eql x0 (.pointer none)) fun v2=>ifB v2 (
 Q (.int .i64 (-1)) H1) (
 opt (nilCk x0) fun v3=>opt (addOff v3 0) fun v4=>opt (load1 v4 H1) fun v5=>opt (some (.func (.func (E.fid i.f28)) #[] #[v1])) fun v6=>E.call (E.fid i.f47) [v5,v6] H1 fun v7 H2=>Q v7 H2)

def F.f51 (E:Sy) (x0 x1:Value) (H:AH) (Q:VK):Prop :=
 E.call (E.fid i.f55) [x0,x1,(.bool true)] H fun v1 H1=>Q v1 H1

def F.f6 (E:Sy) (x0:Value) (H:AH) (Q:VK):Prop :=
 opt (binInt .lss x0 (.int .i32 33)) fun v1=>gd v1 false (fun k=>k x0 H) H fun v2 H1=>gd v1 false (fun k=>opt (binInt .gtr v2 (.int .i32 126)) fun v=>k v H1) H1 fun v3 H2=>opt (pick v1 (.bool true) v3) fun v4=>gd v4 false (fun k=>k x0 H2) H2 fun v5 H3=>gd v4 false (fun k=>opt (binInt .eql v5 (.int .i32 47)) fun v=>k v H3) H3 fun v6 H4=>opt (pick v4 (.bool true) v6) fun v7=>gd v7 false (fun k=>k x0 H4) H4 fun v8 H5=>gd v7 false (fun k=>opt (binInt .eql v8 (.int .i32 35)) fun v=>k v H5) H5 fun v9 H6=>opt (pick v7 (.bool true) v9) fun v10=>Q v10 H6

def F.f54_j2 (E:Sy) (Q:VK) (t0 t9 t10:Value) (H:AH):Prop :=
 opt (ixSlc 1 t9 t10) fun v1=>opt (store1 v1 t0 H) fun H1=>opt (binInt .add t10 (.int .i64 1)) fun v2=>opt (slSlc 1 t9 none (some v2) none H1) fun v3=>Q v3 H1
def F.f54_l1 (E:Sy) (Q:VK) (t0 t1 t2 t3 t9 t10:Value) (H:AH) (X0:LK):Prop :=
 opt (binInt .lss t10 t3) fun v1=>ifB v1 (
 E.call (E.fid i.f50) [t0,t1] H fun v2 H1=>opt (binInt .lss v2 (.int .i64 0)) fun v3=>ifB v3 (
 F.f54_j2 E Q t0 t9 t10 H1) (
 opt (binInt .add v2 t2) fun v4=>opt (slStr t0 none (some v4)) fun v5=>opt (ixSlc 1 t9 t10) fun v6=>opt (store1 v6 v5 H1) fun H2=>opt (lenStr t1) fun v7=>opt (binInt .add v2 v7) fun v8=>opt (slStr t0 (some v8) none) fun v9=>opt (binInt .add t10 (.int .i64 1)) fun v10=>X0 [v9,t1,t2,t3,t9,v10] H2)) (
 F.f54_j2 E Q t0 t9 t10 H)
def F.f54_j1 (E:Sy) (Q:VK) (t0 t1 t2 t3:Value) (H:AH):Prop :=
 opt (lenStr t0) fun v1=>opt (binInt .add v1 (.int .i64 1)) fun v2=>opt (fold2 min2 [t3,v2]) fun v3=>mk (makeS 1 16 #[(.string ⟨#[]⟩)] v3 v3) H fun v4 H1=>opt (binInt .sub v3 (.int .i64 1)) fun v5=>LoopL (fun l H X0=>F.f54_l1 E Q (nth l 0) (nth l 1) (nth l 2) (nth l 3) (nth l 4) (nth l 5) H X0) [t0,t1,t2,v5,v4,(.int .i64 0)] H1
def F.f54 (E:Sy) (x0 x1 x2 x3:Value) (H:AH) (Q:VK):Prop :=
 opt (binInt .eql x3 (.int .i64 0)) fun v1=>ifB v1 (
 Q (.slice none 0 0) H) (
 opt (binStr .eql x1 (.string ⟨#[]⟩)) fun v2=>ifB v2 (
 E.call (E.fid i.f53) [x0,x3] H fun v3 H1=>Q v3 H1) (
 opt (binInt .lss x3 (.int .i64 0)) fun v4=>ifB v4 (
 E.call (E.fid i.f48) [x0,x1] H fun v5 H2=>opt (binInt .add v5 (.int .i64 1)) fun v6=>F.f54_j1 E Q x0 x1 x2 v6 H2) (
 F.f54_j1 E Q x0 x1 x2 x3 H)))

def F.f28 (E:Sy) (x0 x1:Value) (H:AH) (Q:VK):Prop :=
 mk (boxO x0) H fun v1 H1=>opt (addOff v1 0) fun v2=>opt (load1 v2 H1) fun v3=>opt (load1 x1 H1) fun v4=>opt (binInt .eql v3 v4) fun v5=>Q v5 H1

def F.f55_l1 (E:Sy) (Q:VK) (t1 t2 t10:Value) (H:AH) (X0:LK):Prop :=
 opt2 (nextS t10 H) fun v1 H1=>opt (ext v1 0) fun v2=>ifB v2 (
 opt (ext v1 1) fun v3=>opt (ext v1 2) fun v4=>callV E.call t1 [v4] H1 fun v5 H2=>opt (binBool .eql v5 t2) fun v6=>ifB v6 (
 Q v3 H2) (
 X0 [t1,t2,t10] H2)) (
 Q (.int .i64 (-1)) H1)
def F.f55 (E:Sy) (x0 x1 x2:Value) (H:AH) (Q:VK):Prop :=
 mk (rangeS x0) H fun v1 H1=>LoopL (fun l H X0=>F.f55_l1 E Q (nth l 0) (nth l 1) (nth l 2) H X0) [x1,x2,v1] H1

def F.f48_l1 (E:Sy) (Q:VK) (t0 t1 t5:Value) (H:AH) (X0:LK):Prop :=
 E.call (E.fid i.f50) [t0,t1] H fun v1 H1=>opt (binInt .eql v1 (.int .i64 (-1))) fun v2=>ifB v2 (
 Q t5 H1) (
 opt (binInt .add t5 (.int .i64 1)) fun v3=>opt (lenStr t1) fun v4=>opt (binInt .add v1 v4) fun v5=>opt (slStr t0 (some v5) none) fun v6=>X0 [v6,t1,v3] H1)
def F.f48 (E:Sy) (x0 x1:Value) (H:AH) (Q:VK):Prop :=
 opt (lenStr x1) fun v1=>opt (binInt .eql v1 (.int .i64 0)) fun v2=>ifB v2 (
 E.call (E.fid i.f58) [x0] H fun v3 H1=>opt (binInt .add v3 (.int .i64 1)) fun v4=>Q v4 H1) (
 opt (lenStr x1) fun v5=>opt (binInt .eql v5 (.int .i64 1)) fun v6=>ifB v6 (
 opt (ixStr x1 (.int .i64 0)) fun v7=>E.call (E.fid i.f14) [x0,v7] H fun v8 H2=>Q v8 H2) (
 LoopL (fun l H X0=>F.f48_l1 E Q (nth l 0) (nth l 1) (nth l 2) H X0) [x0,x1,(.int .i64 0)] H))

def F.f50 (E:Sy) (x0 x1:Value) (H:AH) (Q:VK):Prop :=
 E.call (E.fid i.f20) [x0,x1] H fun v1 H1=>Q v1 H1

def F.f20_j1 (E:Sy) (Q:VK) (X0:LK) (t0 t1 t5 t6 t7 t8 t9 t10:Value) (H:AH):Prop :=
 opt (binInt .add t8 (.int .i64 1)) fun v1=>opt (ixStr t0 v1) fun v2=>opt (binInt .eql v2 t7) fun v3=>gd v3 true (fun k=>k t0 H) H fun v4 H1=>gd v3 true (fun k=>k t8 H1) H1 fun v5 H2=>gd v3 true (fun k=>k t8 H2) H2 fun v6 H3=>gd v3 true (fun k=>k t5 H3) H3 fun v7 H4=>gd v3 true (fun k=>opt (binInt .add v6 v7) fun v=>k v H4) H4 fun v8 H5=>gd v3 true (fun k=>opt (slStr v4 (some v5) (some v8)) fun v=>k v H5) H5 fun v9 H6=>gd v3 true (fun k=>k t1 H6) H6 fun v10 H7=>gd v3 true (fun k=>opt (binStr .eql v9 v10) fun v=>k v H7) H7 fun v11 H8=>opt (pick v3 v11 (.bool false)) fun v12=>ifB v12 (
 Q t8 H8) (
 opt (binInt .add t8 (.int .i64 1)) fun v13=>opt (binInt .add t10 (.int .i64 1)) fun v14=>opt (load1 (.pointer (some ⟨E.gid 0,0,none⟩)) H8) fun v15=>opt (binInt .leq t5 v15) fun v16=>gd v16 true (fun k=>k v14 H8) H8 fun v17 H9=>gd v16 true (fun k=>k v13 H9) H9 fun v18 H10=>gd v16 true (fun k=>E.call (E.fid i.f15) [v18] H10 fun v h=>k v h) H10 fun v19 H11=>gd v16 true (fun k=>opt (binInt .gtr v17 v19) fun v=>k v H11) H11 fun v20 H12=>opt (pick v16 v20 (.bool false)) fun v21=>ifB v21 (
 opt (slStr t0 (some v13) none) fun v22=>E.call (E.fid i.f18) [v22,t1] H12 fun v23 H13=>opt (binInt .geq v23 (.int .i64 0)) fun v24=>ifB v24 (
 opt (binInt .add v23 v13) fun v25=>Q v25 H13) (
 Q (.int .i64 (-1)) H13)) (
 opt (load1 (.pointer (some ⟨E.gid 0,0,none⟩)) H12) fun v26=>opt (binInt .gtr t5 v26) fun v27=>gd v27 true (fun k=>k v14 H12) H12 fun v28 H14=>gd v27 true (fun k=>k v13 H14) H14 fun v29 H15=>gd v27 true (fun k=>opt (binInt .shr v29 (.int .u64 4)) fun v=>k v H15) H15 fun v30 H16=>gd v27 true (fun k=>opt (binInt .add (.int .i64 4) v30) fun v=>k v H16) H16 fun v31 H17=>gd v27 true (fun k=>opt (binInt .geq v28 v31) fun v=>k v H17) H17 fun v32 H18=>opt (pick v27 v32 (.bool false)) fun v33=>gd v33 true (fun k=>k v13 H18) H18 fun v34 H19=>gd v33 true (fun k=>k t9 H19) H19 fun v35 H20=>gd v33 true (fun k=>opt (binInt .lss v34 v35) fun v=>k v H20) H20 fun v36 H21=>opt (pick v33 v36 (.bool false)) fun v37=>ifB v37 (
 opt (slStr t0 (some v13) none) fun v38=>E.call (E.fid i.f17) [v38,t1] H21 fun v39 H22=>opt (binInt .lss v39 (.int .i64 0)) fun v40=>ifB v40 (
 Q (.int .i64 (-1)) H22) (
 opt (binInt .add v13 v39) fun v41=>Q v41 H22)) (
 X0 [t0,t1,t5,t6,t7,v13,t9,v14] H21)))
def F.f20_l1 (E:Sy) (Q:VK) (t0 t1 t5 t6 t7 t8 t9 t10:Value) (H:AH) (X0:LK):Prop :=
 opt (binInt .lss t8 t9) fun v1=>ifB v1 (
 opt (ixStr t0 t8) fun v2=>opt (binInt .neq v2 t6) fun v3=>ifB v3 (
 opt (binInt .add t8 (.int .i64 1)) fun v4=>opt (slStr t0 (some v4) (some t9)) fun v5=>E.call (E.fid i.f21) [v5,t6] H fun v6 H1=>opt (binInt .lss v6 (.int .i64 0)) fun v7=>ifB v7 (
 Q (.int .i64 (-1)) H1) (
 opt (binInt .add v6 (.int .i64 1)) fun v8=>opt (binInt .add t8 v8) fun v9=>F.f20_j1 E Q X0 t0 t1 t5 t6 t7 v9 t9 t10 H1)) (
 F.f20_j1 E Q X0 t0 t1 t5 t6 t7 t8 t9 t10 H)) (
 Q (.int .i64 (-1)) H)
def F.f20 (E:Sy) (x0 x1:Value) (H:AH) (Q:VK):Prop :=
 opt (lenStr x1) fun v1=>opt (binInt .eql v1 (.int .i64 0)) fun v2=>gd v2 false (fun k=>k x1 H) H fun v3 H1=>gd v2 false (fun k=>k x0 H1) H1 fun v4 H2=>gd v2 false (fun k=>opt (binStr .eql v3 v4) fun v=>k v H2) H2 fun v5 H3=>opt (pick v2 (.bool true) v5) fun v6=>ifB v6 (
 Q (.int .i64 0) H3) (
 opt (binInt .eql v1 (.int .i64 1)) fun v7=>ifB v7 (
 opt (ixStr x1 (.int .i64 0)) fun v8=>E.call (E.fid i.f21) [x0,v8] H3 fun v9 H4=>Q v9 H4) (
 opt (lenStr x0) fun v10=>opt (binInt .geq v1 v10) fun v11=>ifB v11 (
 Q (.int .i64 (-1)) H3) (
 opt (load1 (.pointer (some ⟨E.gid 0,0,none⟩)) H3) fun v12=>opt (binInt .leq v1 v12) fun v13=>gd v13 true (fun k=>k x0 H3) H3 fun v14 H5=>gd v13 true (fun k=>opt (lenStr v14) fun v=>k v H5) H5 fun v15 H6=>gd v13 true (fun k=>opt (binInt .leq v15 (.int .i64 64)) fun v=>k v H6) H6 fun v16 H7=>opt (pick v13 v16 (.bool false)) fun v17=>ifB v17 (
 E.call (E.fid i.f18) [x0,x1] H7 fun v18 H8=>Q v18 H8) (
 opt (ixStr x1 (.int .i64 0)) fun v19=>opt (ixStr x1 (.int .i64 1)) fun v20=>opt (lenStr x0) fun v21=>opt (binInt .sub v21 v1) fun v22=>opt (binInt .add v22 (.int .i64 1)) fun v23=>LoopL (fun l H X0=>F.f20_l1 E Q (nth l 0) (nth l 1) (nth l 2) (nth l 3) (nth l 4) (nth l 5) (nth l 6) (nth l 7) H X0) [x0,x1,v1,v19,v20,(.int .i64 0),v23,(.int .i64 0)] H7))))

def F.f21 (E:Sy) (x0 x1:Value) (H:AH) (Q:VK):Prop :=
 E.call (E.fid i.f16) [x0,x1] H fun v1 H1=>Q v1 H1
structure Fold (E:Sy):Prop where
  mono:MonoC E.call
  f38:∀ x0 x1 H Q,F.f38 E x0 x1 H Q->E.call (E.fid i.f38) [x0,x1] H Q
  f37:∀ H Q,F.f37 E H Q->E.call (E.fid i.f37) [] H Q
  f59:∀ x0 H Q,F.f59 E x0 H Q->E.call (E.fid i.f59) [x0] H Q
  f33:∀ x0 H Q,F.f33 E x0 H Q->E.call (E.fid i.f33) [x0] H Q
  f29:∀ H Q,F.f29 E H Q->E.call (E.fid i.f29) [] H Q
  f42:∀ x0 x1 x2 H Q,F.f42 E x0 x1 x2 H Q->E.call (E.fid i.f42) [x0,x1,x2] H Q
  f4:∀ x0 x1 H Q,F.f4 E x0 x1 H Q->E.call (E.fid i.f4) [x0,x1] H Q
  f3:∀ x0 H Q,F.f3 E x0 H Q->E.call (E.fid i.f3) [x0] H Q
  f2:∀ x0 H Q,F.f2 E x0 H Q->E.call (E.fid i.f2) [x0] H Q
  f0:∀ x0 x1 H Q,F.f0 E x0 x1 H Q->E.call (E.fid i.f0) [x0,x1] H Q
  f36:∀ H Q,F.f36 E H Q->E.call (E.fid i.f36) [] H Q
  f1:∀ x0 x1 x2 x3 x4 H Q,F.f1 E x0 x1 x2 x3 x4 H Q->E.call (E.fid i.f1) [x0,x1,x2,x3,x4] H Q
  f7:∀ x0 H Q,F.f7 E x0 H Q->E.call (E.fid i.f7) [x0] H Q
  f22:∀ H Q,F.f22 E H Q->E.call (E.fid i.f22) [] H Q
  f39:∀ H Q,F.f39 E H Q->E.call (E.fid i.f39) [] H Q
  f30:∀ x0 x1 H Q,F.f30 E x0 x1 H Q->E.call (E.fid i.f30) [x0,x1] H Q
  f31:∀ x0 H Q,F.f31 E x0 H Q->E.call (E.fid i.f31) [x0] H Q
  f34:∀ x0 x1 x2 x3 H Q,F.f34 E x0 x1 x2 x3 H Q->E.call (E.fid i.f34) [x0,x1,x2,x3] H Q
  f32:∀ H Q,F.f32 E H Q->E.call (E.fid i.f32) [] H Q
  f62:∀ x0 x1 x2 x3 H Q,F.f62 E x0 x1 x2 x3 H Q->E.call (E.fid i.f62) [x0,x1,x2,x3] H Q
  f8:∀ x0 x1 H Q,F.f8 E x0 x1 H Q->E.call (E.fid i.f8) [x0,x1] H Q
  f41:∀ x0 x1 H Q,F.f41 E x0 x1 H Q->E.call (E.fid i.f41) [x0,x1] H Q
  f10:∀ x0 x1 x2 x3 x4 H Q,F.f10 E x0 x1 x2 x3 x4 H Q->E.call (E.fid i.f10) [x0,x1,x2,x3,x4] H Q
  f43:∀ x0 x1 H Q,F.f43 E x0 x1 H Q->E.call (E.fid i.f43) [x0,x1] H Q
  f44:∀ x0 x1 x2 x3 H Q,F.f44 E x0 x1 x2 x3 H Q->E.call (E.fid i.f44) [x0,x1,x2,x3] H Q
  f60:∀ x0 x1 H Q,F.f60 E x0 x1 H Q->E.call (E.fid i.f60) [x0,x1] H Q
  f40:∀ x0 H Q,F.f40 E x0 H Q->E.call (E.fid i.f40) [x0] H Q
  f35:∀ H Q,F.f35 E H Q->E.call (E.fid i.f35) [] H Q
  f64:∀ x0 x1 x2 H Q,F.f64 E x0 x1 x2 H Q->E.call (E.fid i.f64) [x0,x1,x2] H Q
  f49:∀ x0 x1 H Q,F.f49 E x0 x1 H Q->E.call (E.fid i.f49) [x0,x1] H Q
  f68:∀ x0 x1 H Q,F.f68 E x0 x1 H Q->E.call (E.fid i.f68) [x0,x1] H Q
  f61:∀ x0 x1 H Q,F.f61 E x0 x1 H Q->E.call (E.fid i.f61) [x0,x1] H Q
  f13:∀ x0 x1 x2 H Q,F.f13 E x0 x1 x2 H Q->E.call (E.fid i.f13) [x0,x1,x2] H Q
  f11:∀ x0 x1 H Q,F.f11 E x0 x1 H Q->E.call (E.fid i.f11) [x0,x1] H Q
  f57:∀ x0 x1 H Q,F.f57 E x0 x1 H Q->E.call (E.fid i.f57) [x0,x1] H Q
  f46:∀ x0 H Q,F.f46 E x0 H Q->E.call (E.fid i.f46) [x0] H Q
  f45:∀ x0 x1 x2 H Q,F.f45 E x0 x1 x2 H Q->E.call (E.fid i.f45) [x0,x1,x2] H Q
  f23:∀ x0 x1 H Q,F.f23 E x0 x1 H Q->E.call (E.fid i.f23) [x0,x1] H Q
  f65:∀ x0 H Q,F.f65 E x0 H Q->E.call (E.fid i.f65) [x0] H Q
  f25:∀ x0 x1 H Q,F.f25 E x0 x1 H Q->E.call (E.fid i.f25) [x0,x1] H Q
  f66:∀ x0 H Q,F.f66 E x0 H Q->E.call (E.fid i.f66) [x0] H Q
  f19:∀ x0 x1 H Q,F.f19 E x0 x1 H Q->E.call (E.fid i.f19) [x0,x1] H Q
  f63:∀ x0 x1 H Q,F.f63 E x0 x1 H Q->E.call (E.fid i.f63) [x0,x1] H Q
  f9:∀ x0 x1 x2 H Q,F.f9 E x0 x1 x2 H Q->E.call (E.fid i.f9) [x0,x1,x2] H Q
  f67:∀ x0 x1 H Q,F.f67 E x0 x1 H Q->E.call (E.fid i.f67) [x0,x1] H Q
  f24:∀ x0 x1 H Q,F.f24 E x0 x1 H Q->E.call (E.fid i.f24) [x0,x1] H Q
  f12:∀ x0 x1 H Q,F.f12 E x0 x1 H Q->E.call (E.fid i.f12) [x0,x1] H Q
  f5:∀ x0 H Q,F.f5 E x0 H Q->E.call (E.fid i.f5) [x0] H Q
  f26:∀ x0 x1 H Q,F.f26 E x0 x1 H Q->E.call (E.fid i.f26) [x0,x1] H Q
  f47:∀ x0 x1 H Q,F.f47 E x0 x1 H Q->E.call (E.fid i.f47) [x0,x1] H Q
  f52:∀ x0 x1 H Q,F.f52 E x0 x1 H Q->E.call (E.fid i.f52) [x0,x1] H Q
  f27:∀ x0 x1 H Q,F.f27 E x0 x1 H Q->E.call (E.fid i.f27) [x0,x1] H Q
  f51:∀ x0 x1 H Q,F.f51 E x0 x1 H Q->E.call (E.fid i.f51) [x0,x1] H Q
  f6:∀ x0 H Q,F.f6 E x0 H Q->E.call (E.fid i.f6) [x0] H Q
  f54:∀ x0 x1 x2 x3 H Q,F.f54 E x0 x1 x2 x3 H Q->E.call (E.fid i.f54) [x0,x1,x2,x3] H Q
  f28:∀ x0 x1 H Q,F.f28 E x0 x1 H Q->E.call (E.fid i.f28) [x0,x1] H Q
  f55:∀ x0 x1 x2 H Q,F.f55 E x0 x1 x2 H Q->E.call (E.fid i.f55) [x0,x1,x2] H Q
  f48:∀ x0 x1 H Q,F.f48 E x0 x1 H Q->E.call (E.fid i.f48) [x0,x1] H Q
  f50:∀ x0 x1 H Q,F.f50 E x0 x1 H Q->E.call (E.fid i.f50) [x0,x1] H Q
  f20:∀ x0 x1 H Q,F.f20 E x0 x1 H Q->E.call (E.fid i.f20) [x0,x1] H Q
  f21:∀ x0 x1 H Q,F.f21 E x0 x1 H Q->E.call (E.fid i.f21) [x0,x1] H Q
  f56:∀ x0 x1 H Q,atomicAdd x0 x1 H Q->E.call (E.fid i.f56) [x0,x1] H Q
  f14:∀ x0 x1 H Q,byteCount x0 x1 H Q->E.call (E.fid i.f14) [x0,x1] H Q
  f16:∀ x0 x1 H Q,byteIndex x0 x1 H Q->E.call (E.fid i.f16) [x0,x1] H Q
end Go.AM
