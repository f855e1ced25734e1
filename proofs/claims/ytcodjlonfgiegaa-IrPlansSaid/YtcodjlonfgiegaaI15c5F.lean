/- THE FUNCTIONS, AS THE ABSTRACT MACHINE SEES THEM: written by program (gen2.py). -/
import Derived.Test.YtcodjlonfgiegaaI15c5A1
set_option linter.all false
set_option linter.unusedVariables false
namespace Go.AM
abbrev LK:=List Value->AH->Prop
abbrev VK:=Value->AH->Prop
def i.f30:Nat:=9
def i.f31:Nat:=12
def i.f29:Nat:=15
def i.f19:Nat:=42
def i.f20:Nat:=43
def i.f17:Nat:=54
def i.f28:Nat:=60
def i.f16:Nat:=61
def i.f21:Nat:=62
def i.f18:Nat:=63
def i.f22:Nat:=65
def i.f13:Nat:=157
def i.f14:Nat:=164
def i.f15:Nat:=165
def i.f44:Nat:=185
def i.f56:Nat:=186
def i.f4:Nat:=346
def i.f5:Nat:=361
def i.f36:Nat:=362
def i.f9:Nat:=363
def i.f6:Nat:=364
def i.f35:Nat:=365
def i.f53:Nat:=390
def i.f11:Nat:=391
def i.f0:Nat:=392
def i.f12:Nat:=393
def i.f10:Nat:=394
def i.f49:Nat:=395
def i.f1:Nat:=396
def i.f41:Nat:=413
def i.f55:Nat:=414
def i.f34:Nat:=415
def i.f2:Nat:=416
def i.f8:Nat:=417
def i.f32:Nat:=418
def i.f40:Nat:=419
def i.f39:Nat:=420
def i.f38:Nat:=421
def i.f48:Nat:=422
def i.f47:Nat:=423
def i.f46:Nat:=424
def i.f50:Nat:=425
def i.f37:Nat:=426
def i.f3:Nat:=427
def i.f51:Nat:=435
def i.f33:Nat:=436
def i.f52:Nat:=437
def i.f43:Nat:=438
def i.f42:Nat:=439
def i.f54:Nat:=442
def i.f45:Nat:=443
def i.f24:Nat:=472
def i.f23:Nat:=473
def i.f26:Nat:=474
def i.f25:Nat:=475
def i.f7:Nat:=476
def i.f27:Nat:=480
def F.f24_l5 (E:Sy) (Q:VK) (X0 X1 X2:LK) (t6 t7 t8 t9 t10 t14 t15 t16 t42 t43 t44 t68 t69 t70 t101 t102 t103:Value) (H:AH) (X3:LK):Prop :=
 opt (binInt .lss t103 t102) fun v1=>ifB v1 (
 opt (ixSlc 3 t101 t103) fun v2=>opt (loadN 3 v2 H) fun v3=>allocW [(.int .u32 0),(.int .u32 0),(.slice none 0 0)] H fun v4 H1=>opt (storeN 3 v4 v3 H1) fun H2=>opt (addOff v4 0) fun v5=>opt (load1 v5 H2) fun v6=>opt (addOff t14 0) fun v7=>opt (load1 v7 H2) fun v8=>opt (binInt .eql v6 v8) fun v9=>gd v9 true (fun k=>opt (addOff v4 1) fun v=>k v H2) H2 fun v10 H3=>gd v9 true (fun k=>opt (load1 v10 H3) fun v=>k v H3) H3 fun v11 H4=>gd v9 true (fun k=>E.call (E.fid i.f29) [v11] H4 fun v h=>k v h) H4 fun v12 H5=>gd v9 true (fun k=>k t16 H5) H5 fun v13 H6=>gd v9 true (fun k=>opt (binInt .eql v12 v13) fun v=>k v H6) H6 fun v14 H7=>opt (pick v9 v14 (.bool false)) fun v15=>ifB v15 (
 opt (loadN 3 v4 H7) fun v16=>mk (buildS 1 3 #[(.int .u32 0),(.int .u32 0),(.slice none 0 0)] [(0,v16)]) H7 fun v17 H8=>opt2 (app 3 32 t15 v17 H8) fun v18 H9=>opt (binInt .add t103 (.int .i64 1)) fun v19=>X3 [t6,t7,t8,t9,t10,t14,v18,t16,t42,t43,t44,t68,t69,t70,t101,t102,v19] H9) (
 opt (binInt .add t103 (.int .i64 1)) fun v20=>X3 [t6,t7,t8,t9,t10,t14,t15,t16,t42,t43,t44,t68,t69,t70,t101,t102,v20] H7)) (
 opt (binInt .sub t16 (.int .i64 1)) fun v21=>X2 [t6,t7,t8,t9,t10,t14,t15,v21,t42,t43,t44,t68,t69,t70] H)
def F.f24_l8 (E:Sy) (Q:VK) (X0 X1 X2 X3:LK) (t6 t7 t8 t9 t10 t14 t19 t23 t25 t26 t42 t43 t44 t68 t69 t70 t124 t125 t126 t153 t154 t155 t161 t162 t163:Value) (H:AH) (X4:LK):Prop :=
 opt (binInt .lss t163 t162) fun v1=>ifB v1 (
 opt (ixSlc 4 t161 t163) fun v2=>opt (loadN 4 v2 H) fun v3=>allocW [(.int .i64 0),(.int .u8 0),(.int .u64 0),(.int .u64 0)] H fun v4 H1=>opt (storeN 4 v4 v3 H1) fun H2=>gd t26 false (fun k=>opt (loadN 4 t25 H2) fun v=>k v H2) H2 fun v5 H3=>gd t26 false (fun k=>opt (loadN 4 v4 H3) fun v=>k v H3) H3 fun v6 H4=>gd t26 false (fun k=>opt (binAgg [0,0,0,0] .eql v5 v6) fun v=>k v H4) H4 fun v7 H5=>opt (pick t26 (.bool true) v7) fun v8=>opt (binInt .add t163 (.int .i64 1)) fun v9=>X4 [t6,t7,t8,t9,t10,t14,t19,t23,t25,v8,t42,t43,t44,t68,t69,t70,t124,t125,t126,t153,t154,t155,t161,t162,v9] H5) (
 opt (un .not t26) fun v10=>ifB v10 (
 opt (loadN 4 t25 H) fun v11=>mk (buildS 1 4 #[(.int .i64 0),(.int .u8 0),(.int .u64 0),(.int .u64 0)] [(0,v11)]) H fun v12 H6=>opt2 (app 4 32 t23 v12 H6) fun v13 H7=>opt (binInt .add t155 (.int .i64 1)) fun v14=>X3 [t6,t7,t8,t9,t10,t14,t19,v13,t42,t43,t44,t68,t69,t70,t124,t125,t126,t153,t154,v14] H7) (
 opt (binInt .add t155 (.int .i64 1)) fun v15=>X3 [t6,t7,t8,t9,t10,t14,t19,t23,t42,t43,t44,t68,t69,t70,t124,t125,t126,t153,t154,v15] H))
def F.f24_l9 (E:Sy) (Q:VK) (X0 X1 X2:LK) (t6 t7 t8 t9 t10 t14 t19 t23 t29 t42 t43 t44 t68 t69 t70 t124 t125 t126 t193 t194:Value) (H:AH) (X3:LK):Prop :=
 opt (binInt .lss t194 t193) fun v1=>ifB v1 (
 opt (addOff t29 0) fun v2=>opt (load1 v2 H) fun v3=>opt (ixSlc 4 v3 t194) fun v4=>opt (loadN 4 v4 H) fun v5=>opt (ixSlc 4 t23 t194) fun v6=>opt (loadN 4 v6 H) fun v7=>opt (binAgg [0,0,0,0] .neq v5 v7) fun v8=>ifB v8 (
 Q (.bool false) H) (
 opt (binInt .add t194 (.int .i64 1)) fun v9=>X3 [t6,t7,t8,t9,t10,t14,t19,t23,t29,t42,t43,t44,t68,t69,t70,t124,t125,t126,t193,v9] H)) (
 opt (binInt .add t19 (.int .i64 1)) fun v10=>opt (binInt .add t8 (.int .i64 1)) fun v11=>opt (lenSlc t23) fun v12=>opt (binInt .add t9 v12) fun v13=>opt (lenSlc t23) fun v14=>opt (binInt .eql v14 (.int .i64 0)) fun v15=>opt (binInt .add t126 (.int .i64 1)) fun v16=>X2 [t6,t7,v11,v13,t10,t14,v10,v15,t42,t43,t44,t68,t69,t70,t124,t125,v16] H)
def F.f24_l7 (E:Sy) (Q:VK) (X0 X1 X2:LK) (t6 t7 t8 t9 t10 t14 t19 t23 t42 t43 t44 t68 t69 t70 t124 t125 t126 t153 t154 t155:Value) (H:AH) (X3:LK):Prop :=
 opt (binInt .lss t155 t154) fun v1=>ifB v1 (
 opt (ixSlc 4 t153 t155) fun v2=>opt (loadN 4 v2 H) fun v3=>allocW [(.int .i64 0),(.int .u8 0),(.int .u64 0),(.int .u64 0)] H fun v4 H1=>opt (storeN 4 v4 v3 H1) fun H2=>opt (loadN 4 v4 H2) fun v5=>E.call (E.fid i.f25) [v5] H2 fun v6 H3=>opt (lenSlc t23) fun v7=>LoopL (fun l H X4=>F.f24_l8 E Q X0 X1 X2 X3 (nth l 0) (nth l 1) (nth l 2) (nth l 3) (nth l 4) (nth l 5) (nth l 6) (nth l 7) (nth l 8) (nth l 9) (nth l 10) (nth l 11) (nth l 12) (nth l 13) (nth l 14) (nth l 15) (nth l 16) (nth l 17) (nth l 18) (nth l 19) (nth l 20) (nth l 21) (nth l 22) (nth l 23) (nth l 24) H X4) [t6,t7,t8,t9,t10,t14,t19,t23,v4,v6,t42,t43,t44,t68,t69,t70,t124,t125,t126,t153,t154,t155,t23,v7,(.int .i64 0)] H3) (
 opt (addOff t14 1) fun v8=>opt (load1 v8 H) fun v9=>opt (ixSlc 2 v9 t19) fun v10=>opt (loadN 2 v10 H) fun v11=>allocW [(.slice none 0 0),(.int .u32 0)] H fun v12 H4=>opt (storeN 2 v12 v11 H4) fun H5=>opt (addOff v12 0) fun v13=>opt (load1 v13 H5) fun v14=>opt (lenSlc v14) fun v15=>opt (lenSlc t23) fun v16=>opt (binInt .neq v15 v16) fun v17=>ifB v17 (
 Q (.bool false) H5) (
 opt (lenSlc t23) fun v18=>LoopL (fun l H X3=>F.f24_l9 E Q X0 X1 X2 (nth l 0) (nth l 1) (nth l 2) (nth l 3) (nth l 4) (nth l 5) (nth l 6) (nth l 7) (nth l 8) (nth l 9) (nth l 10) (nth l 11) (nth l 12) (nth l 13) (nth l 14) (nth l 15) (nth l 16) (nth l 17) (nth l 18) (nth l 19) H X3) [t6,t7,t8,t9,t10,t14,t19,t23,v12,t42,t43,t44,t68,t69,t70,t124,t125,t126,v18,(.int .i64 0)] H5))
def F.f24_l6 (E:Sy) (Q:VK) (X0 X1:LK) (t6 t7 t8 t9 t10 t14 t19 t20 t42 t43 t44 t68 t69 t70 t124 t125 t126:Value) (H:AH) (X2:LK):Prop :=
 opt (binInt .lss t126 t125) fun v1=>ifB v1 (
 opt (ixSlc 3 t124 t126) fun v2=>opt (loadN 3 v2 H) fun v3=>allocW [(.int .u32 0),(.int .u32 0),(.slice none 0 0)] H fun v4 H1=>opt (storeN 3 v4 v3 H1) fun H2=>gd t20 false (fun k=>opt (addOff v4 2) fun v=>k v H2) H2 fun v5 H3=>gd t20 false (fun k=>opt (load1 v5 H3) fun v=>k v H3) H3 fun v6 H4=>gd t20 false (fun k=>E.call (E.fid i.f26) [v6] H4 fun v h=>k v h) H4 fun v7 H5=>opt (pick t20 (.bool true) v7) fun v8=>ifB v8 (
 opt (binInt .add t126 (.int .i64 1)) fun v9=>X2 [t6,t7,t8,t9,t10,t14,t19,t20,t42,t43,t44,t68,t69,t70,t124,t125,v9] H5) (
 opt (addOff t14 1) fun v10=>opt (load1 v10 H5) fun v11=>opt (lenSlc v11) fun v12=>opt (binInt .geq t19 v12) fun v13=>gd v13 false (fun k=>opt (addOff t14 1) fun v=>k v H5) H5 fun v14 H6=>gd v13 false (fun k=>opt (load1 v14 H6) fun v=>k v H6) H6 fun v15 H7=>gd v13 false (fun k=>k t19 H7) H7 fun v16 H8=>gd v13 false (fun k=>opt (ixSlc 2 v15 v16) fun v=>k v H8) H8 fun v17 H9=>gd v13 false (fun k=>opt (addOff v17 1) fun v=>k v H9) H9 fun v18 H10=>gd v13 false (fun k=>opt (load1 v18 H10) fun v=>k v H10) H10 fun v19 H11=>gd v13 false (fun k=>opt (addOff v4 1) fun v=>k v H11) H11 fun v20 H12=>gd v13 false (fun k=>opt (load1 v20 H12) fun v=>k v H12) H12 fun v21 H13=>gd v13 false (fun k=>opt (binInt .neq v19 v21) fun v=>k v H13) H13 fun v22 H14=>opt (pick v13 (.bool true) v22) fun v23=>ifB v23 (
 Q (.bool false) H14) (
 opt (addOff v4 2) fun v24=>opt (load1 v24 H14) fun v25=>opt (lenSlc v25) fun v26=>LoopL (fun l H X3=>F.f24_l7 E Q X0 X1 X2 (nth l 0) (nth l 1) (nth l 2) (nth l 3) (nth l 4) (nth l 5) (nth l 6) (nth l 7) (nth l 8) (nth l 9) (nth l 10) (nth l 11) (nth l 12) (nth l 13) (nth l 14) (nth l 15) (nth l 16) (nth l 17) (nth l 18) (nth l 19) H X3) [t6,t7,t8,t9,t10,t14,t19,(.slice none 0 0),t42,t43,t44,t68,t69,t70,t124,t125,t126,v25,v26,(.int .i64 0)] H14))) (
 opt (addOff t14 1) fun v27=>opt (load1 v27 H) fun v28=>opt (lenSlc v28) fun v29=>opt (binInt .neq t19 v29) fun v30=>ifB v30 (
 Q (.bool false) H) (
 opt (binInt .add t70 (.int .i64 1)) fun v31=>X1 [t6,t7,t8,t9,t10,t42,t43,t44,t68,t69,v31] H))
def F.f24_l4 (E:Sy) (Q:VK) (X0 X1:LK) (t6 t7 t8 t9 t10 t14 t15 t16 t42 t43 t44 t68 t69 t70:Value) (H:AH) (X2:LK):Prop :=
 opt (binInt .geq t16 (.int .i64 0)) fun v1=>ifB v1 (
 opt (addOff t6 2) fun v2=>opt (load1 v2 H) fun v3=>opt (lenSlc v3) fun v4=>LoopL (fun l H X3=>F.f24_l5 E Q X0 X1 X2 (nth l 0) (nth l 1) (nth l 2) (nth l 3) (nth l 4) (nth l 5) (nth l 6) (nth l 7) (nth l 8) (nth l 9) (nth l 10) (nth l 11) (nth l 12) (nth l 13) (nth l 14) (nth l 15) (nth l 16) H X3) [t6,t7,t8,t9,t10,t14,t15,t16,t42,t43,t44,t68,t69,t70,v3,v4,(.int .i64 0)] H) (
 opt (lenSlc t15) fun v5=>LoopL (fun l H X2=>F.f24_l6 E Q X0 X1 (nth l 0) (nth l 1) (nth l 2) (nth l 3) (nth l 4) (nth l 5) (nth l 6) (nth l 7) (nth l 8) (nth l 9) (nth l 10) (nth l 11) (nth l 12) (nth l 13) (nth l 14) (nth l 15) (nth l 16) H X2) [t6,t7,t8,t9,t10,t14,(.int .i64 0),(.bool false),t42,t43,t44,t68,t69,t70,t15,v5,(.int .i64 0)] H)
def F.f24_l3 (E:Sy) (Q:VK) (X0:LK) (t6 t7 t8 t9 t10 t42 t43 t44 t68 t69 t70:Value) (H:AH) (X1:LK):Prop :=
 opt (binInt .lss t70 t69) fun v1=>ifB v1 (
 opt (ixSlc 2 t68 t70) fun v2=>opt (loadN 2 v2 H) fun v3=>allocW [(.int .u32 0),(.slice none 0 0)] H fun v4 H1=>opt (storeN 2 v4 v3 H1) fun H2=>opt (binInt .gtr t70 (.int .i64 0)) fun v5=>gd v5 true (fun k=>opt (addOff t7 0) fun v=>k v H2) H2 fun v6 H3=>gd v5 true (fun k=>opt (load1 v6 H3) fun v=>k v H3) H3 fun v7 H4=>gd v5 true (fun k=>k t70 H4) H4 fun v8 H5=>gd v5 true (fun k=>opt (binInt .sub v8 (.int .i64 1)) fun v=>k v H5) H5 fun v9 H6=>gd v5 true (fun k=>opt (ixSlc 2 v7 v9) fun v=>k v H6) H6 fun v10 H7=>gd v5 true (fun k=>opt (addOff v10 0) fun v=>k v H7) H7 fun v11 H8=>gd v5 true (fun k=>opt (load1 v11 H8) fun v=>k v H8) H8 fun v12 H9=>gd v5 true (fun k=>opt (addOff v4 0) fun v=>k v H9) H9 fun v13 H10=>gd v5 true (fun k=>opt (load1 v13 H10) fun v=>k v H10) H10 fun v14 H11=>gd v5 true (fun k=>opt (binInt .geq v12 v14) fun v=>k v H11) H11 fun v15 H12=>opt (pick v5 v15 (.bool false)) fun v16=>gd v16 false (fun k=>k t10 H12) H12 fun v17 H13=>gd v16 false (fun k=>opt (addOff v4 0) fun v=>k v H13) H13 fun v18 H14=>gd v16 false (fun k=>opt (load1 v18 H14) fun v=>k v H14) H14 fun v19 H15=>gd v16 false (fun k=>opt (look 0 (.bool false) false v17 v19 H15) fun v=>k v H15) H15 fun v20 H16=>gd v16 false (fun k=>opt (un .not v20) fun v=>k v H16) H16 fun v21 H17=>opt (pick v16 (.bool true) v21) fun v22=>ifB v22 (
 Q (.bool false) H17) (
 LoopL (fun l H X2=>F.f24_l4 E Q X0 X1 (nth l 0) (nth l 1) (nth l 2) (nth l 3) (nth l 4) (nth l 5) (nth l 6) (nth l 7) (nth l 8) (nth l 9) (nth l 10) (nth l 11) (nth l 12) (nth l 13) H X2) [t6,t7,t8,t9,t10,v4,(.slice none 0 0),(.int .i64 3),t42,t43,t44,t68,t69,t70] H17)) (
 opt (loadN 2 t7 H) fun v23=>E.call (E.fid i.f7) [v23] H fun v24 H18=>opt (ext v24 0) fun v25=>opt (ext v24 1) fun v26=>opt (ext v24 2) fun v27=>opt (addOff t7 0) fun v28=>opt (load1 v28 H18) fun v29=>opt (lenSlc v29) fun v30=>opt (lenMap t10 H18) fun v31=>opt (binInt .neq v30 v31) fun v32=>gd v32 false (fun k=>k v25 H18) H18 fun v33 H19=>gd v32 false (fun k=>k t10 H19) H19 fun v34 H20=>gd v32 false (fun k=>opt (lenMap v34 H20) fun v=>k v H20) H20 fun v35 H21=>gd v32 false (fun k=>opt (binInt .neq v33 v35) fun v=>k v H21) H21 fun v36 H22=>opt (pick v32 (.bool true) v36) fun v37=>gd v37 false (fun k=>k v26 H22) H22 fun v38 H23=>gd v37 false (fun k=>k t8 H23) H23 fun v39 H24=>gd v37 false (fun k=>opt (binInt .neq v38 v39) fun v=>k v H24) H24 fun v40 H25=>opt (pick v37 (.bool true) v40) fun v41=>gd v41 false (fun k=>k v27 H25) H25 fun v42 H26=>gd v41 false (fun k=>k t9 H26) H26 fun v43 H27=>gd v41 false (fun k=>opt (binInt .neq v42 v43) fun v=>k v H27) H27 fun v44 H28=>opt (pick v41 (.bool true) v44) fun v45=>ifB v45 (
 Q (.bool false) H28) (
 opt (binInt .add t44 (.int .i64 1)) fun v46=>X0 [t42,t43,v46] H28))
def F.f24_l2 (E:Sy) (Q:VK) (X0:LK) (t6 t7 t8 t9 t10 t42 t43 t44 t57 t58 t59:Value) (H:AH) (X1:LK):Prop :=
 opt (binInt .lss t59 t58) fun v1=>ifB v1 (
 opt (ixSlc 3 t57 t59) fun v2=>opt (loadN 3 v2 H) fun v3=>allocW [(.int .u32 0),(.int .u32 0),(.slice none 0 0)] H fun v4 H1=>opt (storeN 3 v4 v3 H1) fun H2=>opt (addOff v4 0) fun v5=>opt (load1 v5 H2) fun v6=>opt (setMap 0 t10 v6 (.bool true) H2) fun H3=>opt (binInt .add t59 (.int .i64 1)) fun v7=>X1 [t6,t7,t8,t9,t10,t42,t43,t44,t57,t58,v7] H3) (
 opt (addOff t7 0) fun v8=>opt (load1 v8 H) fun v9=>opt (lenSlc v9) fun v10=>LoopL (fun l H X1=>F.f24_l3 E Q X0 (nth l 0) (nth l 1) (nth l 2) (nth l 3) (nth l 4) (nth l 5) (nth l 6) (nth l 7) (nth l 8) (nth l 9) (nth l 10) H X1) [t6,t7,t8,t9,t10,t42,t43,t44,v9,v10,(.int .i64 0)] H)
def F.f24_l1 (E:Sy) (Q:VK) (t42 t43 t44:Value) (H:AH) (X0:LK):Prop :=
 opt (binInt .lss t44 t43) fun v1=>ifB v1 (
 opt (ixSlc 6 t42 t44) fun v2=>opt (loadN 6 v2 H) fun v3=>allocW [(.string ⟨#[]⟩),(.int .u32 0),(.slice none 0 0),(.int .u16 0),(.slice none 0 0),(.slice none 0 0)] H fun v4 H1=>opt (storeN 6 v4 v3 H1) fun H2=>opt (loadN 6 v4 H2) fun v5=>E.call (E.fid i.f4) [v5] H2 fun v6 H3=>allocW [(.slice none 0 0),(.int .u32 0)] H3 fun v7 H4=>opt (storeN 2 v7 v6 H4) fun H5=>opt (addOff v7 1) fun v8=>opt (load1 v8 H5) fun v9=>opt (addOff v4 1) fun v10=>opt (load1 v10 H5) fun v11=>opt (binInt .neq v9 v11) fun v12=>ifB v12 (
 Q (.bool false) H5) (
 mapW H5 fun v13 H6=>opt (addOff v4 2) fun v14=>opt (load1 v14 H6) fun v15=>opt (lenSlc v15) fun v16=>LoopL (fun l H X1=>F.f24_l2 E Q X0 (nth l 0) (nth l 1) (nth l 2) (nth l 3) (nth l 4) (nth l 5) (nth l 6) (nth l 7) (nth l 8) (nth l 9) (nth l 10) H X1) [v4,v7,(.int .i64 0),(.int .i64 0),v13,t42,t43,t44,v15,v16,(.int .i64 0)] H6)) (
 Q (.bool true) H)
def F.f24 (E:Sy) (x0 x1:Value) (H:AH) (Q:VK):Prop :=
 mk (boxO x0) H fun v1 H1=>mk (boxO x1) H1 fun v2 H2=>E.call (E.fid i.f23) [] H2 fun v3 H3=>opt (un .not v3) fun v4=>ifB v4 (
 Q (.bool false) H3) (
 opt (loadN 6 v1 H3) fun v5=>E.call (E.fid i.f19) [v5] H3 fun v6 H4=>opt (un .not v6) fun v7=>ifB v7 (
 Q (.bool true) H4) (
 opt (loadN 6 v1 H4) fun v8=>opt (loadN 8 v2 H4) fun v9=>E.call (E.fid i.f20) [v9] H4 fun v10 H5=>loadN 6 v1 H5=loadN 6 v1 H4 /\
 mk (buildS 2 6 #[(.string ⟨#[]⟩),(.int .u32 0),(.slice none 0 0),(.int .u16 0),(.slice none 0 0),(.slice none 0 0)] [(0,v8),(1,v10)]) H5 fun v11 H6=>opt (lenSlc v11) fun v12=>LoopL (fun l H X0=>F.f24_l1 E Q (nth l 0) (nth l 1) (nth l 2) H X0) [v11,v12,(.int .i64 0)] H6))

def F.f23 (E:Sy) (H:AH) (Q:VK):Prop :=
 opt (buildV [(0,1),(1,1),(2,1),(3,1)] #[(.int .i64 0),(.int .u8 0),(.int .u64 0),(.int .u64 0)] [(0,(.int .i64 0)),(1,(.int .u8 1)),(3,(.int .u64 1))]) fun v1=>allocW [(.int .i64 0),(.int .u8 0),(.int .u64 0),(.int .u64 0)] H fun v2 H1=>opt (storeN 4 v2 v1 H1) fun H2=>opt (buildV [(0,1),(1,1),(2,1)] #[(.int .u32 0),(.int .u32 0),(.slice none 0 0)] [(0,(.int .u32 2)),(1,(.int .u32 2147418112))]) fun v3=>opt (loadN 4 v2 H2) fun v4=>mk (buildS 1 4 #[(.int .i64 0),(.int .u8 0),(.int .u64 0),(.int .u64 0)] [(0,v4)]) H2 fun v5 H3=>opt (buildV [(0,1),(1,1),(2,1)] #[(.int .u32 0),(.int .u32 0),(.slice none 0 0)] [(0,(.int .u32 2)),(1,(.int .u32 2147483648)),(2,v5)]) fun v6=>mk (buildS 2 3 #[(.int .u32 0),(.int .u32 0),(.slice none 0 0)] [(0,v3),(1,v6)]) H3 fun v7 H4=>opt (buildV [(0,1),(1,1),(2,1),(3,1),(4,1),(5,1)] #[(.string ⟨#[]⟩),(.int .u32 0),(.slice none 0 0),(.int .u16 0),(.slice none 0 0),(.slice none 0 0)] [(2,v7)]) fun v8=>E.call (E.fid i.f4) [v8] H4 fun v9 H5=>allocW [(.slice none 0 0),(.int .u32 0)] H5 fun v10 H6=>opt (storeN 2 v10 v9 H6) fun H7=>opt (addOff v10 0) fun v11=>opt (load1 v11 H7) fun v12=>opt (lenSlc v12) fun v13=>opt (binInt .eql v13 (.int .i64 1)) fun v14=>gd v14 true (fun k=>opt (addOff v10 0) fun v=>k v H7) H7 fun v15 H8=>gd v14 true (fun k=>opt (load1 v15 H8) fun v=>k v H8) H8 fun v16 H9=>gd v14 true (fun k=>opt (ixSlc 2 v16 (.int .i64 0)) fun v=>k v H9) H9 fun v17 H10=>gd v14 true (fun k=>opt (addOff v17 1) fun v=>k v H10) H10 fun v18 H11=>gd v14 true (fun k=>opt (load1 v18 H11) fun v=>k v H11) H11 fun v19 H12=>gd v14 true (fun k=>opt (lenSlc v19) fun v=>k v H12) H12 fun v20 H13=>gd v14 true (fun k=>opt (binInt .eql v20 (.int .i64 2)) fun v=>k v H13) H13 fun v21 H14=>opt (pick v14 v21 (.bool false)) fun v22=>gd v22 true (fun k=>opt (addOff v10 0) fun v=>k v H14) H14 fun v23 H15=>gd v22 true (fun k=>opt (load1 v23 H15) fun v=>k v H15) H15 fun v24 H16=>gd v22 true (fun k=>opt (ixSlc 2 v24 (.int .i64 0)) fun v=>k v H16) H16 fun v25 H17=>gd v22 true (fun k=>opt (addOff v25 1) fun v=>k v H17) H17 fun v26 H18=>gd v22 true (fun k=>opt (load1 v26 H18) fun v=>k v H18) H18 fun v27 H19=>gd v22 true (fun k=>opt (ixSlc 2 v27 (.int .i64 0)) fun v=>k v H19) H19 fun v28 H20=>gd v22 true (fun k=>opt (addOff v28 1) fun v=>k v H20) H20 fun v29 H21=>gd v22 true (fun k=>opt (load1 v29 H21) fun v=>k v H21) H21 fun v30 H22=>gd v22 true (fun k=>opt (binInt .eql v30 (.int .u32 2147483648)) fun v=>k v H22) H22 fun v31 H23=>opt (pick v22 v31 (.bool false)) fun v32=>Q v32 H23

def F.f19_l2 (E:Sy) (Q:VK) (t1 t20 t21 t22:Value) (H:AH) (X0:LK):Prop :=
 opt (binInt .lss t22 t21) fun v1=>ifB v1 (
 opt (ixSlc 2 t20 t22) fun v2=>opt (loadN 2 v2 H) fun v3=>allocW [(.string ⟨#[]⟩),(.int .u16 0)] H fun v4 H1=>opt (storeN 2 v4 v3 H1) fun H2=>opt (addOff v4 0) fun v5=>opt (load1 v5 H2) fun v6=>opt (lenStr v6) fun v7=>opt (binInt .gtr v7 (.int .i64 200)) fun v8=>ifB v8 (
 Q (.bool false) H2) (
 opt (binInt .add t22 (.int .i64 1)) fun v9=>X0 [t1,t20,t21,v9] H2)) (
 opt (addOff t1 2) fun v10=>opt (load1 v10 H) fun v11=>opt (lenSlc v11) fun v12=>opt (binInt .leq v12 (.int .i64 80)) fun v13=>gd v13 true (fun k=>opt (addOff t1 4) fun v=>k v H) H fun v14 H3=>gd v13 true (fun k=>opt (load1 v14 H3) fun v=>k v H3) H3 fun v15 H4=>gd v13 true (fun k=>opt (lenSlc v15) fun v=>k v H4) H4 fun v16 H5=>gd v13 true (fun k=>opt (binInt .leq v16 (.int .i64 50)) fun v=>k v H5) H5 fun v17 H6=>opt (pick v13 v17 (.bool false)) fun v18=>gd v18 true (fun k=>opt (addOff t1 5) fun v=>k v H6) H6 fun v19 H7=>gd v18 true (fun k=>opt (load1 v19 H7) fun v=>k v H7) H7 fun v20 H8=>gd v18 true (fun k=>opt (lenSlc v20) fun v=>k v H8) H8 fun v21 H9=>gd v18 true (fun k=>opt (binInt .leq v21 (.int .i64 50)) fun v=>k v H9) H9 fun v22 H10=>opt (pick v18 v22 (.bool false)) fun v23=>gd v23 true (fun k=>opt (addOff t1 0) fun v=>k v H10) H10 fun v24 H11=>gd v23 true (fun k=>opt (load1 v24 H11) fun v=>k v H11) H11 fun v25 H12=>gd v23 true (fun k=>opt (lenStr v25) fun v=>k v H12) H12 fun v26 H13=>gd v23 true (fun k=>opt (binInt .leq v26 (.int .i64 100)) fun v=>k v H13) H13 fun v27 H14=>opt (pick v23 v27 (.bool false)) fun v28=>Q v28 H14)
def F.f19_l1 (E:Sy) (Q:VK) (t1 t8 t9 t10:Value) (H:AH) (X0:LK):Prop :=
 opt (binInt .lss t10 t9) fun v1=>ifB v1 (
 opt (ixSlc 3 t8 t10) fun v2=>opt (loadN 3 v2 H) fun v3=>allocW [(.int .u32 0),(.int .u32 0),(.slice none 0 0)] H fun v4 H1=>opt (storeN 3 v4 v3 H1) fun H2=>opt (addOff v4 2) fun v5=>opt (load1 v5 H2) fun v6=>opt (lenSlc v6) fun v7=>opt (binInt .gtr v7 (.int .i64 20)) fun v8=>ifB v8 (
 Q (.bool false) H2) (
 opt (binInt .add t10 (.int .i64 1)) fun v9=>X0 [t1,t8,t9,v9] H2)) (
 opt (addOff t1 4) fun v10=>opt (load1 v10 H) fun v11=>opt (lenSlc v11) fun v12=>LoopL (fun l H X0=>F.f19_l2 E Q (nth l 0) (nth l 1) (nth l 2) (nth l 3) H X0) [t1,v11,v12,(.int .i64 0)] H)
def F.f19 (E:Sy) (x0:Value) (H:AH) (Q:VK):Prop :=
 mk (boxO x0) H fun v1 H1=>opt (addOff v1 2) fun v2=>opt (load1 v2 H1) fun v3=>opt (lenSlc v3) fun v4=>LoopL (fun l H X0=>F.f19_l1 E Q (nth l 0) (nth l 1) (nth l 2) (nth l 3) H X0) [v1,v3,v4,(.int .i64 0)] H1

def F.f20_l2 (E:Sy) (Q:VK) (t2 t4 t11 t16 t131 t132 t133:Value) (H:AH) (X0:LK):Prop :=
 opt (binInt .lss t133 t132) fun v1=>ifB v1 (
 opt (ixSlc 1 t131 t133) fun v2=>opt (load1 v2 H) fun v3=>opt (binInt .rem v3 (.int .u8 4)) fun v4=>opt (binInt .add (.int .u8 80) v4) fun v5=>opt (convInt .u16 v5) fun v6=>callV E.call t11 [t133,(.int .u16 49152)] H fun v7 H1=>opt (look 0 (.bool false) false t16 v6 H1) fun v8=>opt (un .not v8) fun v9=>gd v9 true (fun k=>k v7 H1) H1 fun v10 H2=>gd v9 true (fun k=>opt (binInt .neq v10 (.int .u16 0)) fun v=>k v H2) H2 fun v11 H3=>opt (pick v9 v11 (.bool false)) fun v12=>ifB v12 (
 opt (setMap 0 t16 v6 (.bool true) H3) fun H4=>opt (addOff t4 5) fun v13=>opt (load1 v13 H4) fun v14=>opt (buildV [(0,1),(1,1)] #[(.int .u16 0),(.int .u16 0)] [(0,v6),(1,v7)]) fun v15=>mk (buildS 1 2 #[(.int .u16 0),(.int .u16 0)] [(0,v15)]) H4 fun v16 H5=>opt2 (app 2 4 v14 v16 H5) fun v17 H6=>opt (addOff t4 5) fun v18=>opt (store1 v18 v17 H6) fun H7=>opt (binInt .add t133 (.int .i64 1)) fun v19=>X0 [t2,t4,t11,t16,t131,t132,v19] H7) (
 opt (binInt .add t133 (.int .i64 1)) fun v20=>X0 [t2,t4,t11,t16,t131,t132,v20] H3)) (
 opt (loadN 6 t4 H) fun v21=>opt (storeN 6 t2 v21 H) fun H8=>opt (loadN 6 t2 H8) fun v22=>Q v22 H8)
def F.f20_l1 (E:Sy) (Q:VK) (t1 t2 t4 t10 t11 t92 t93 t94:Value) (H:AH) (X0:LK):Prop :=
 opt (binInt .lss t94 t93) fun v1=>ifB v1 (
 opt (ixSlc 1 t92 t94) fun v2=>opt (load1 v2 H) fun v3=>E.call (E.fid i.f18) [] H fun v4 H1=>opt (convInt .i64 v3) fun v5=>E.call (E.fid i.f18) [] H1 fun v6 H2=>opt (lenSlc v6) fun v7=>opt (binInt .rem v5 v7) fun v8=>opt (ixSlc 1 v4 v8) fun v9=>opt (load1 v9 H2) fun v10=>callV E.call t11 [t94,(.int .u16 2047)] H2 fun v11 H3=>opt (look 1 (.bool false) false t10 v10 H3) fun v12=>opt (un .not v12) fun v13=>gd v13 true (fun k=>k v11 H3) H3 fun v14 H4=>gd v13 true (fun k=>opt (binInt .neq v14 (.int .u16 0)) fun v=>k v H4) H4 fun v15 H5=>opt (pick v13 v15 (.bool false)) fun v16=>ifB v16 (
 opt (setMap 1 t10 v10 (.bool true) H5) fun H6=>opt (addOff t4 4) fun v17=>opt (load1 v17 H6) fun v18=>opt (buildV [(0,1),(1,1)] #[(.string ⟨#[]⟩),(.int .u16 0)] [(0,v10),(1,v11)]) fun v19=>mk (buildS 1 2 #[(.string ⟨#[]⟩),(.int .u16 0)] [(0,v19)]) H6 fun v20 H7=>opt2 (app 2 24 v18 v20 H7) fun v21 H8=>opt (addOff t4 4) fun v22=>opt (store1 v22 v21 H8) fun H9=>opt (binInt .add t94 (.int .i64 1)) fun v23=>X0 [t1,t2,t4,t10,t11,t92,t93,v23] H9) (
 opt (binInt .add t94 (.int .i64 1)) fun v24=>X0 [t1,t2,t4,t10,t11,t92,t93,v24] H5)) (
 mapW H fun v25 H10=>opt (addOff t1 7) fun v26=>opt (load1 v26 H10) fun v27=>opt (lenSlc v27) fun v28=>LoopL (fun l H X0=>F.f20_l2 E Q (nth l 0) (nth l 1) (nth l 2) (nth l 3) (nth l 4) (nth l 5) (nth l 6) H X0) [t2,t4,t11,v25,v27,v28,(.int .i64 0)] H10)
def F.f20_j1 (E:Sy) (Q:VK) (t1 t2 t4:Value) (H:AH):Prop :=
 mapW H fun v1 H1=>opt (some (.func (.func (E.fid i.f21)) #[] #[t1,t4])) fun v2=>opt (addOff t1 5) fun v3=>opt (load1 v3 H1) fun v4=>opt (lenSlc v4) fun v5=>LoopL (fun l H X0=>F.f20_l1 E Q (nth l 0) (nth l 1) (nth l 2) (nth l 3) (nth l 4) (nth l 5) (nth l 6) (nth l 7) H X0) [t1,t2,t4,v1,v2,v4,v5,(.int .i64 0)] H1
def F.f20_l4 (E:Sy) (Q:VK) (X0:LK) (t1 t2 t3 t4 t7 t38 t39 t40 t65 t66 t67:Value) (H:AH) (X1:LK):Prop :=
 opt (binInt .lss t67 t66) fun v1=>ifB v1 (
 opt (ixSlc 4 t65 t67) fun v2=>opt (loadN 4 v2 H) fun v3=>allocW [(.int .u8 0),(.int .u8 0),(.int .u8 0),(.int .u8 0)] H fun v4 H1=>opt (storeN 4 v4 v3 H1) fun H2=>opt (binInt .lss t67 (.int .i64 4)) fun v5=>ifB v5 (
 opt (addOff t7 2) fun v6=>opt (load1 v6 H2) fun v7=>opt (loadN 4 v4 H2) fun v8=>E.call (E.fid i.f17) [v8] H2 fun v9 H3=>load1 v6 H3=load1 v6 H2 /\
 mk (buildS 1 4 #[(.int .i64 0),(.int .u8 0),(.int .u64 0),(.int .u64 0)] [(0,v9)]) H3 fun v10 H4=>opt2 (app 4 32 v7 v10 H4) fun v11 H5=>opt (addOff t7 2) fun v12=>opt (store1 v12 v11 H5) fun H6=>opt (binInt .add t67 (.int .i64 1)) fun v13=>X1 [t1,t2,t3,t4,t7,t38,t39,t40,t65,t66,v13] H6) (
 opt (binInt .add t67 (.int .i64 1)) fun v14=>X1 [t1,t2,t3,t4,t7,t38,t39,t40,t65,t66,v14] H2)) (
 opt (addOff t4 2) fun v15=>opt (load1 v15 H) fun v16=>opt (loadN 3 t7 H) fun v17=>mk (buildS 1 3 #[(.int .u32 0),(.int .u32 0),(.slice none 0 0)] [(0,v17)]) H fun v18 H7=>opt2 (app 3 32 v16 v18 H7) fun v19 H8=>opt (addOff t4 2) fun v20=>opt (store1 v20 v19 H8) fun H9=>opt (binInt .add t40 (.int .i64 1)) fun v21=>X0 [t1,t2,t3,t4,t38,t39,v21] H9)
def F.f20_l3 (E:Sy) (Q:VK) (t1 t2 t3 t4 t38 t39 t40:Value) (H:AH) (X0:LK):Prop :=
 opt (binInt .lss t40 t39) fun v1=>ifB v1 (
 opt (ixSlc 4 t38 t40) fun v2=>opt (loadN 4 v2 H) fun v3=>allocW [(.int .u8 0),(.int .u8 0),(.int .u8 0),(.slice none 0 0)] H fun v4 H1=>opt (storeN 4 v4 v3 H1) fun H2=>opt (binInt .geq t40 (.int .i64 12)) fun v5=>ifB v5 (
 F.f20_j1 E Q t1 t2 t4 H2) (
 opt (addOff v4 0) fun v6=>opt (load1 v6 H2) fun v7=>opt (convInt .i64 v7) fun v8=>opt (lenSlc t3) fun v9=>opt (binInt .rem v8 v9) fun v10=>opt (ixSlc 3 t3 v10) fun v11=>opt (addOff v11 0) fun v12=>opt (load1 v12 H2) fun v13=>opt (convInt .u32 v13) fun v14=>opt (addOff v4 1) fun v15=>opt (load1 v15 H2) fun v16=>opt (addOff v4 2) fun v17=>opt (load1 v17 H2) fun v18=>allocW [(.int .u32 0),(.int .u32 0),(.slice none 0 0)] H2 fun v19 H3=>E.call (E.fid i.f16) [v16,v18] H3 fun v20 H4=>H4.get H2.next=H3.get H2.next /\
 load1 v12 H4=load1 v12 H2 /\
 load1 v6 H4=load1 v6 H2 /\
 opt (buildV [(0,1),(1,1),(2,1)] #[(.int .u32 0),(.int .u32 0),(.slice none 0 0)] [(0,v14),(1,v20)]) fun v21=>opt (storeN 3 v19 v21 H4) fun H5=>opt (addOff v4 3) fun v22=>opt (load1 v22 H5) fun v23=>opt (lenSlc v23) fun v24=>LoopL (fun l H X1=>F.f20_l4 E Q X0 (nth l 0) (nth l 1) (nth l 2) (nth l 3) (nth l 4) (nth l 5) (nth l 6) (nth l 7) (nth l 8) (nth l 9) (nth l 10) H X1) [t1,t2,t3,t4,v19,t38,t39,t40,v23,v24,(.int .i64 0)] H5)) (
 F.f20_j1 E Q t1 t2 t4 H)
def F.f20 (E:Sy) (x0:Value) (H:AH) (Q:VK):Prop :=
 mk (boxO x0) H fun v1 H1=>allocW [(.string ⟨#[]⟩),(.int .u32 0),(.slice none 0 0),(.int .u16 0),(.slice none 0 0),(.slice none 0 0)] H1 fun v2 H2=>E.call (E.fid i.f28) [] H2 fun v3 H3=>mk (buildS 3 1 #[(.string ⟨#[]⟩)] [(0,(.string ⟨#[112]⟩)),(1,(.string ⟨#[112,111,108,45,49]⟩)),(2,(.string ⟨#[120,95,121]⟩))]) H3 fun v4 H4=>opt (addOff v1 0) fun v5=>opt (load1 v5 H4) fun v6=>opt (binInt .rem v6 (.int .u8 3)) fun v7=>opt (ixSlc 1 v4 v7) fun v8=>opt (load1 v8 H4) fun v9=>opt (addOff v1 1) fun v10=>opt (load1 v10 H4) fun v11=>opt (addOff v1 2) fun v12=>opt (load1 v12 H4) fun v13=>opt (addOff v1 4) fun v14=>opt (load1 v14 H4) fun v15=>opt (binInt .and v15 (.int .u16 51199)) fun v16=>allocW [(.string ⟨#[]⟩),(.int .u32 0),(.slice none 0 0),(.int .u16 0),(.slice none 0 0),(.slice none 0 0)] H4 fun v17 H5=>E.call (E.fid i.f16) [v11,v13] H5 fun v18 H6=>H6.get H4.next=H5.get H4.next /\
 load1 v14 H6=load1 v14 H4 /\
 load1 v8 H6=load1 v8 H4 /\
 load1 v5 H6=load1 v5 H4 /\
 H6.get H3.next=H4.get H3.next /\
 opt (buildV [(0,1),(1,1),(2,1),(3,1),(4,1),(5,1)] #[(.string ⟨#[]⟩),(.int .u32 0),(.slice none 0 0),(.int .u16 0),(.slice none 0 0),(.slice none 0 0)] [(0,v9),(1,v18),(3,v16)]) fun v19=>opt (storeN 6 v17 v19 H6) fun H7=>opt (addOff v1 3) fun v20=>opt (load1 v20 H7) fun v21=>opt (lenSlc v21) fun v22=>LoopL (fun l H X0=>F.f20_l3 E Q (nth l 0) (nth l 1) (nth l 2) (nth l 3) (nth l 4) (nth l 5) (nth l 6) H X0) [v1,v2,v3,v17,v21,v22,(.int .i64 0)] H7

def F.f4_l2 (E:Sy) (Q:VK) (t2 t3 t32:Value) (H:AH) (X0:LK):Prop :=
 nextM t32 H fun v1 H1=>opt (ext v1 0) fun v2=>ifB v2 (
 opt (entryR t32 H1) fun v3=>opt (ext v3 0) fun v4=>opt (ext v3 1) fun v5=>E.call (E.fid i.f36) [v5,(.func (.func (E.fid i.f5)) #[] #[])] H1 fun v6 H2=>opt (addOff t3 0) fun v7=>opt (load1 v7 H2) fun v8=>E.call (E.fid i.f9) [v5] H2 fun v9 H3=>load1 v7 H3=load1 v7 H2 /\
 opt (buildV [(0,1),(1,1)] #[(.int .u32 0),(.slice none 0 0)] [(0,v4),(1,v9)]) fun v10=>mk (buildS 1 2 #[(.int .u32 0),(.slice none 0 0)] [(0,v10)]) H3 fun v11 H4=>opt2 (app 2 32 v8 v11 H4) fun v12 H5=>opt (addOff t3 0) fun v13=>opt (store1 v13 v12 H5) fun H6=>X0 [t2,t3,t32] H6) (
 opt (addOff t3 0) fun v14=>opt (load1 v14 H1) fun v15=>E.call (E.fid i.f35) [v15,(.func (.func (E.fid i.f6)) #[] #[])] H1 fun v16 H7=>opt (loadN 2 t3 H7) fun v17=>opt (storeN 2 t2 v17 H7) fun H8=>opt (loadN 2 t2 H8) fun v18=>Q v18 H8)
def F.f4_l1 (E:Sy) (Q:VK) (t2 t3 t4 t14 t15 t16:Value) (H:AH) (X0:LK):Prop :=
 opt (binInt .lss t16 t15) fun v1=>ifB v1 (
 opt (ixSlc 3 t14 t16) fun v2=>opt (loadN 3 v2 H) fun v3=>allocW [(.int .u32 0),(.int .u32 0),(.slice none 0 0)] H fun v4 H1=>opt (storeN 3 v4 v3 H1) fun H2=>opt (addOff v4 0) fun v5=>opt (load1 v5 H2) fun v6=>opt (addOff v4 0) fun v7=>opt (load1 v7 H2) fun v8=>opt (look 0 (.slice none 0 0) false t4 v8 H2) fun v9=>opt (loadN 3 v4 H2) fun v10=>mk (buildS 1 3 #[(.int .u32 0),(.int .u32 0),(.slice none 0 0)] [(0,v10)]) H2 fun v11 H3=>opt2 (app 3 32 v9 v11 H3) fun v12 H4=>load1 v5 H4=load1 v5 H2 /\
 opt (setMap 0 t4 v6 v12 H4) fun H5=>opt (binInt .add t16 (.int .i64 1)) fun v13=>X0 [t2,t3,t4,t14,t15,v13] H5) (
 mk (rangeM t4 H) H fun v14 H6=>LoopL (fun l H X0=>F.f4_l2 E Q (nth l 0) (nth l 1) (nth l 2) H X0) [t2,t3,v14] H6)
def F.f4 (E:Sy) (x0:Value) (H:AH) (Q:VK):Prop :=
 mk (boxO x0) H fun v1 H1=>allocW [(.slice none 0 0),(.int .u32 0)] H1 fun v2 H2=>opt (addOff v1 1) fun v3=>opt (load1 v3 H2) fun v4=>opt (buildV [(0,1),(1,1)] #[(.slice none 0 0),(.int .u32 0)] [(1,v4)]) fun v5=>allocW [(.slice none 0 0),(.int .u32 0)] H2 fun v6 H3=>opt (storeN 2 v6 v5 H3) fun H4=>mapW H4 fun v7 H5=>opt (addOff v1 2) fun v8=>opt (load1 v8 H5) fun v9=>opt (lenSlc v9) fun v10=>LoopL (fun l H X0=>F.f4_l1 E Q (nth l 0) (nth l 1) (nth l 2) (nth l 3) (nth l 4) (nth l 5) H X0) [v2,v6,v7,v9,v10,(.int .i64 0)] H5

def F.f29 (E:Sy) (x0:Value) (H:AH) (Q:VK):Prop :=
 opt (binInt .quo x0 (.int .u32 65536)) fun v1=>opt (binInt .eql v1 (.int .u32 5)) fun v2=>ifB v2 (
 Q (.int .i64 2) H) (
 opt (binInt .eql v1 (.int .u32 32764)) fun v3=>ifB v3 (
 Q (.int .i64 1) H) (
 opt (binInt .eql v1 (.int .u32 32767)) fun v4=>ifB v4 (
 Q (.int .i64 0) H) (
 Q (.int .i64 3) H)))

def F.f26_l2 (E:Sy) (Q:VK) (X0:LK) (t0 t4 t7 t8 t9 t18 t19 t20:Value) (H:AH) (X1:LK):Prop :=
 opt (binInt .lss t20 t19) fun v1=>ifB v1 (
 opt (ixSlc 4 t18 t20) fun v2=>opt (loadN 4 v2 H) fun v3=>allocW [(.int .i64 0),(.int .u8 0),(.int .u64 0),(.int .u64 0)] H fun v4 H1=>opt (storeN 4 v4 v3 H1) fun H2=>opt (addOff t4 1) fun v5=>opt (load1 v5 H2) fun v6=>opt (binInt .eql v6 (.int .u8 1)) fun v7=>gd v7 true (fun k=>opt (addOff v4 1) fun v=>k v H2) H2 fun v8 H3=>gd v7 true (fun k=>opt (load1 v8 H3) fun v=>k v H3) H3 fun v9 H4=>gd v7 true (fun k=>opt (binInt .eql v9 (.int .u8 1)) fun v=>k v H4) H4 fun v10 H5=>opt (pick v7 v10 (.bool false)) fun v11=>gd v11 true (fun k=>opt (addOff t4 0) fun v=>k v H5) H5 fun v12 H6=>gd v11 true (fun k=>opt (load1 v12 H6) fun v=>k v H6) H6 fun v13 H7=>gd v11 true (fun k=>opt (addOff v4 0) fun v=>k v H7) H7 fun v14 H8=>gd v11 true (fun k=>opt (load1 v14 H8) fun v=>k v H8) H8 fun v15 H9=>gd v11 true (fun k=>opt (binInt .eql v13 v15) fun v=>k v H9) H9 fun v16 H10=>opt (pick v11 v16 (.bool false)) fun v17=>gd v17 true (fun k=>opt (addOff t4 3) fun v=>k v H10) H10 fun v18 H11=>gd v17 true (fun k=>opt (load1 v18 H11) fun v=>k v H11) H11 fun v19 H12=>gd v17 true (fun k=>opt (addOff v4 3) fun v=>k v H12) H12 fun v20 H13=>gd v17 true (fun k=>opt (load1 v20 H13) fun v=>k v H13) H13 fun v21 H14=>gd v17 true (fun k=>opt (binInt .neq v19 v21) fun v=>k v H14) H14 fun v22 H15=>opt (pick v17 v22 (.bool false)) fun v23=>ifB v23 (
 Q (.bool true) H15) (
 opt (binInt .add t20 (.int .i64 1)) fun v24=>X1 [t0,t4,t7,t8,t9,t18,t19,v24] H15)) (
 opt (binInt .add t9 (.int .i64 1)) fun v25=>X0 [t0,t7,t8,v25] H)
def F.f26_l1 (E:Sy) (Q:VK) (t0 t7 t8 t9:Value) (H:AH) (X0:LK):Prop :=
 opt (binInt .lss t9 t8) fun v1=>ifB v1 (
 opt (ixSlc 4 t7 t9) fun v2=>opt (loadN 4 v2 H) fun v3=>allocW [(.int .i64 0),(.int .u8 0),(.int .u64 0),(.int .u64 0)] H fun v4 H1=>opt (storeN 4 v4 v3 H1) fun H2=>opt (loadN 4 v4 H2) fun v5=>E.call (E.fid i.f27) [v5] H2 fun v6 H3=>ifB v6 (
 Q (.bool true) H3) (
 opt (slSlc 4 t0 none (some t9) none H3) fun v7=>opt (lenSlc v7) fun v8=>LoopL (fun l H X1=>F.f26_l2 E Q X0 (nth l 0) (nth l 1) (nth l 2) (nth l 3) (nth l 4) (nth l 5) (nth l 6) (nth l 7) H X1) [t0,v4,t7,t8,t9,v7,v8,(.int .i64 0)] H3)) (
 Q (.bool false) H)
def F.f26 (E:Sy) (x0:Value) (H:AH) (Q:VK):Prop :=
 opt (lenSlc x0) fun v1=>LoopL (fun l H X0=>F.f26_l1 E Q (nth l 0) (nth l 1) (nth l 2) (nth l 3) H X0) [x0,x0,v1,(.int .i64 0)] H

def F.f25 (E:Sy) (x0:Value) (H:AH) (Q:VK):Prop :=
 mk (boxO x0) H fun v1 H1=>opt (addOff v1 0) fun v2=>opt (load1 v2 H1) fun v3=>opt (binInt .geq v3 (.int .i64 0)) fun v4=>gd v4 true (fun k=>opt (addOff v1 0) fun v=>k v H1) H1 fun v5 H2=>gd v4 true (fun k=>opt (load1 v5 H2) fun v=>k v H2) H2 fun v6 H3=>gd v4 true (fun k=>opt (binInt .leq v6 (.int .i64 5)) fun v=>k v H3) H3 fun v7 H4=>opt (pick v4 v7 (.bool false)) fun v8=>gd v8 true (fun k=>opt (addOff v1 1) fun v=>k v H4) H4 fun v9 H5=>gd v8 true (fun k=>opt (load1 v9 H5) fun v=>k v H5) H5 fun v10 H6=>gd v8 true (fun k=>opt (binInt .eql v10 (.int .u8 6)) fun v=>k v H6) H6 fun v11 H7=>gd v8 true (fun k=>k v11 H7) H7 fun v12 H8=>gd v12 true (fun k=>opt (addOff v1 3) fun v=>k v H8) H8 fun v13 H9=>gd v12 true (fun k=>opt (load1 v13 H9) fun v=>k v H9) H9 fun v14 H10=>gd v12 true (fun k=>opt (binInt .eql v14 (.int .u64 0)) fun v=>k v H10) H10 fun v15 H11=>gd v8 true (fun k=>opt (pick v12 v15 (.bool false)) fun v=>k v H11) H11 fun v16 H12=>gd v8 true (fun k=>k v16 H12) H12 fun v17 H13=>gd v17 false (fun k=>opt (addOff v1 1) fun v=>k v H13) H13 fun v18 H14=>gd v17 false (fun k=>opt (load1 v18 H14) fun v=>k v H14) H14 fun v19 H15=>gd v17 false (fun k=>opt (binInt .eql v19 (.int .u8 4)) fun v=>k v H15) H15 fun v20 H16=>gd v17 false (fun k=>k v20 H16) H16 fun v21 H17=>gd v21 true (fun k=>opt (addOff v1 3) fun v=>k v H17) H17 fun v22 H18=>gd v21 true (fun k=>opt (load1 v22 H18) fun v=>k v H18) H18 fun v23 H19=>gd v21 true (fun k=>opt (binInt .eql v23 (.int .u64 18446744073709551615)) fun v=>k v H19) H19 fun v24 H20=>gd v17 false (fun k=>opt (pick v21 v24 (.bool false)) fun v=>k v H20) H20 fun v25 H21=>gd v8 true (fun k=>opt (pick v17 (.bool true) v25) fun v=>k v H21) H21 fun v26 H22=>opt (pick v8 v26 (.bool false)) fun v27=>Q v27 H22

def F.f7_l2 (E:Sy) (Q:VK) (X0:LK) (t1 t3 t4 t10 t11 t12 t22 t23 t24:Value) (H:AH) (X1:LK):Prop :=
 opt (binInt .lss t24 t23) fun v1=>ifB v1 (
 opt (ixSlc 2 t22 t24) fun v2=>opt (loadN 2 v2 H) fun v3=>allocW [(.slice none 0 0),(.int .u32 0)] H fun v4 H1=>opt (storeN 2 v4 v3 H1) fun H2=>opt (addOff v4 0) fun v5=>opt (load1 v5 H2) fun v6=>opt (lenSlc v6) fun v7=>opt (binInt .add t4 v7) fun v8=>opt (binInt .add t24 (.int .i64 1)) fun v9=>X1 [t1,t3,v8,t10,t11,t12,t22,t23,v9] H2) (
 opt (binInt .add t12 (.int .i64 1)) fun v10=>X0 [t1,t3,t4,t10,t11,v10] H)
def F.f7_l1 (E:Sy) (Q:VK) (t1 t3 t4 t10 t11 t12:Value) (H:AH) (X0:LK):Prop :=
 opt (binInt .lss t12 t11) fun v1=>ifB v1 (
 opt (ixSlc 2 t10 t12) fun v2=>opt (loadN 2 v2 H) fun v3=>allocW [(.int .u32 0),(.slice none 0 0)] H fun v4 H1=>opt (storeN 2 v4 v3 H1) fun H2=>opt (addOff v4 1) fun v5=>opt (load1 v5 H2) fun v6=>opt (lenSlc v6) fun v7=>opt (binInt .add t3 v7) fun v8=>opt (addOff v4 1) fun v9=>opt (load1 v9 H2) fun v10=>opt (lenSlc v10) fun v11=>LoopL (fun l H X1=>F.f7_l2 E Q X0 (nth l 0) (nth l 1) (nth l 2) (nth l 3) (nth l 4) (nth l 5) (nth l 6) (nth l 7) (nth l 8) H X1) [t1,v8,t4,t10,t11,t12,v10,v11,(.int .i64 0)] H2) (
 opt (addOff t1 0) fun v12=>opt (load1 v12 H) fun v13=>opt (lenSlc v13) fun v14=>Q (.tuple #[v14,t3,t4]) H)
def F.f7 (E:Sy) (x0:Value) (H:AH) (Q:VK):Prop :=
 mk (boxO x0) H fun v1 H1=>opt (addOff v1 0) fun v2=>opt (load1 v2 H1) fun v3=>opt (lenSlc v3) fun v4=>LoopL (fun l H X0=>F.f7_l1 E Q (nth l 0) (nth l 1) (nth l 2) (nth l 3) (nth l 4) (nth l 5) H X0) [v1,(.int .i64 0),(.int .i64 0),v3,v4,(.int .i64 0)] H1

def F.f28 (E:Sy) (H:AH) (Q:VK):Prop :=
 opt (buildV [(0,1),(1,1),(2,1)] #[(.int .i64 0),(.string ⟨#[]⟩),(.int .i64 0)] [(0,(.int .i64 0)),(1,(.string ⟨#[114,101,97,100]⟩)),(2,(.int .i64 2))]) fun v1=>opt (buildV [(0,1),(1,1),(2,1)] #[(.int .i64 0),(.string ⟨#[]⟩),(.int .i64 0)] [(0,(.int .i64 1)),(1,(.string ⟨#[119,114,105,116,101]⟩)),(2,(.int .i64 2))]) fun v2=>opt (buildV [(0,1),(1,1),(2,1)] #[(.int .i64 0),(.string ⟨#[]⟩),(.int .i64 0)] [(0,(.int .i64 2)),(1,(.string ⟨#[111,112,101,110]⟩)),(2,(.int .i64 2))]) fun v3=>opt (buildV [(0,1),(1,1),(2,1)] #[(.int .i64 0),(.string ⟨#[]⟩),(.int .i64 0)] [(0,(.int .i64 3)),(1,(.string ⟨#[99,108,111,115,101]⟩)),(2,(.int .i64 1))]) fun v4=>opt (buildV [(0,1),(1,1),(2,1)] #[(.int .i64 0),(.string ⟨#[]⟩),(.int .i64 0)] [(0,(.int .i64 4)),(1,(.string ⟨#[115,116,97,116]⟩)),(2,(.int .i64 1))]) fun v5=>opt (buildV [(0,1),(1,1),(2,1)] #[(.int .i64 0),(.string ⟨#[]⟩),(.int .i64 0)] [(0,(.int .i64 8)),(1,(.string ⟨#[115,101,101,107]⟩)),(2,(.int .i64 2))]) fun v6=>opt (buildV [(0,1),(1,1),(2,1)] #[(.int .i64 0),(.string ⟨#[]⟩),(.int .i64 0)] [(0,(.int .i64 32)),(1,(.string ⟨#[100,117,112]⟩)),(2,(.int .i64 1))]) fun v7=>opt (buildV [(0,1),(1,1),(2,1)] #[(.int .i64 0),(.string ⟨#[]⟩),(.int .i64 0)] [(0,(.int .i64 39)),(1,(.string ⟨#[112,105,100]⟩)),(2,(.int .i64 0))]) fun v8=>opt (buildV [(0,1),(1,1),(2,1)] #[(.int .i64 0),(.string ⟨#[]⟩),(.int .i64 0)] [(0,(.int .i64 41)),(1,(.string ⟨#[115,111,99,107,101,116]⟩)),(2,(.int .i64 0))]) fun v9=>opt (buildV [(0,1),(1,1),(2,1)] #[(.int .i64 0),(.string ⟨#[]⟩),(.int .i64 0)] [(0,(.int .i64 42)),(1,(.string ⟨#[99,111,110,110,101,99,116]⟩)),(2,(.int .i64 2))]) fun v10=>opt (buildV [(0,1),(1,1),(2,1)] #[(.int .i64 0),(.string ⟨#[]⟩),(.int .i64 0)] [(0,(.int .i64 49)),(1,(.string ⟨#[98,105,110,100]⟩)),(2,(.int .i64 2))]) fun v11=>opt (buildV [(0,1),(1,1),(2,1)] #[(.int .i64 0),(.string ⟨#[]⟩),(.int .i64 0)] [(0,(.int .i64 50)),(1,(.string ⟨#[108,105,115,116,101,110]⟩)),(2,(.int .i64 1))]) fun v12=>opt (buildV [(0,1),(1,1),(2,1)] #[(.int .i64 0),(.string ⟨#[]⟩),(.int .i64 0)] [(0,(.int .i64 57)),(1,(.string ⟨#[102,111,114,107]⟩)),(2,(.int .i64 0))]) fun v13=>opt (buildV [(0,1),(1,1),(2,1)] #[(.int .i64 0),(.string ⟨#[]⟩),(.int .i64 0)] [(0,(.int .i64 60)),(1,(.string ⟨#[101,120,105,116]⟩)),(2,(.int .i64 1))]) fun v14=>opt (buildV [(0,1),(1,1),(2,1)] #[(.int .i64 0),(.string ⟨#[]⟩),(.int .i64 0)] [(0,(.int .i64 77)),(1,(.string ⟨#[116,114,117,110,99,97,116,101]⟩)),(2,(.int .i64 2))]) fun v15=>opt (buildV [(0,1),(1,1),(2,1)] #[(.int .i64 0),(.string ⟨#[]⟩),(.int .i64 0)] [(0,(.int .i64 78)),(1,(.string ⟨#[114,101,97,100,100,105,114]⟩)),(2,(.int .i64 1))]) fun v16=>opt (buildV [(0,1),(1,1),(2,1)] #[(.int .i64 0),(.string ⟨#[]⟩),(.int .i64 0)] [(0,(.int .i64 79)),(1,(.string ⟨#[99,119,100]⟩)),(2,(.int .i64 0))]) fun v17=>opt (buildV [(0,1),(1,1),(2,1)] #[(.int .i64 0),(.string ⟨#[]⟩),(.int .i64 0)] [(0,(.int .i64 80)),(1,(.string ⟨#[99,104,100,105,114]⟩)),(2,(.int .i64 1))]) fun v18=>opt (buildV [(0,1),(1,1),(2,1)] #[(.int .i64 0),(.string ⟨#[]⟩),(.int .i64 0)] [(0,(.int .i64 82)),(1,(.string ⟨#[114,101,110,97,109,101]⟩)),(2,(.int .i64 2))]) fun v19=>opt (buildV [(0,1),(1,1),(2,1)] #[(.int .i64 0),(.string ⟨#[]⟩),(.int .i64 0)] [(0,(.int .i64 83)),(1,(.string ⟨#[109,107,100,105,114]⟩)),(2,(.int .i64 1))]) fun v20=>opt (buildV [(0,1),(1,1),(2,1)] #[(.int .i64 0),(.string ⟨#[]⟩),(.int .i64 0)] [(0,(.int .i64 84)),(1,(.string ⟨#[114,109,100,105,114]⟩)),(2,(.int .i64 1))]) fun v21=>opt (buildV [(0,1),(1,1),(2,1)] #[(.int .i64 0),(.string ⟨#[]⟩),(.int .i64 0)] [(0,(.int .i64 86)),(1,(.string ⟨#[108,105,110,107]⟩)),(2,(.int .i64 2))]) fun v22=>opt (buildV [(0,1),(1,1),(2,1)] #[(.int .i64 0),(.string ⟨#[]⟩),(.int .i64 0)] [(0,(.int .i64 87)),(1,(.string ⟨#[117,110,108,105,110,107]⟩)),(2,(.int .i64 1))]) fun v23=>opt (buildV [(0,1),(1,1),(2,1)] #[(.int .i64 0),(.string ⟨#[]⟩),(.int .i64 0)] [(0,(.int .i64 88)),(1,(.string ⟨#[115,121,109,108,105,110,107]⟩)),(2,(.int .i64 2))]) fun v24=>opt (buildV [(0,1),(1,1),(2,1)] #[(.int .i64 0),(.string ⟨#[]⟩),(.int .i64 0)] [(0,(.int .i64 89)),(1,(.string ⟨#[114,101,97,100,108,105,110,107]⟩)),(2,(.int .i64 1))]) fun v25=>opt (buildV [(0,1),(1,1),(2,1)] #[(.int .i64 0),(.string ⟨#[]⟩),(.int .i64 0)] [(0,(.int .i64 157)),(1,(.string ⟨#[112,114,99,116,108]⟩)),(2,(.int .i64 1))]) fun v26=>opt (buildV [(0,1),(1,1),(2,1)] #[(.int .i64 0),(.string ⟨#[]⟩),(.int .i64 0)] [(0,(.int .i64 165)),(1,(.string ⟨#[109,111,117,110,116]⟩)),(2,(.int .i64 2))]) fun v27=>opt (buildV [(0,1),(1,1),(2,1)] #[(.int .i64 0),(.string ⟨#[]⟩),(.int .i64 0)] [(0,(.int .i64 166)),(1,(.string ⟨#[117,109,111,117,110,116]⟩)),(2,(.int .i64 1))]) fun v28=>opt (buildV [(0,1),(1,1),(2,1)] #[(.int .i64 0),(.string ⟨#[]⟩),(.int .i64 0)] [(0,(.int .i64 317)),(1,(.string ⟨#[115,101,99,99,111,109,112]⟩)),(2,(.int .i64 1))]) fun v29=>opt (buildV [(0,1),(1,1),(2,1)] #[(.int .i64 0),(.string ⟨#[]⟩),(.int .i64 0)] [(0,(.int .i64 446)),(1,(.string ⟨#[114,101,115,116,114,105,99,116]⟩)),(2,(.int .i64 1))]) fun v30=>mk (buildS 30 3 #[(.int .i64 0),(.string ⟨#[]⟩),(.int .i64 0)] [(0,v1),(1,v2),(2,v3),(3,v4),(4,v5),(5,v6),(6,v7),(7,v8),(8,v9),(9,v10),(10,v11),(11,v12),(12,v13),(13,v14),(14,v15),(15,v16),(16,v17),(17,v18),(18,v19),(19,v20),(20,v21),(21,v22),(22,v23),(23,v24),(24,v25),(25,v26),(26,v27),(27,v28),(28,v29),(29,v30)]) H fun v31 H1=>Q v31 H1

def F.f16 (E:Sy) (x0 x1:Value) (H:AH) (Q:VK):Prop :=
 opt (binInt .rem x0 (.int .u8 4)) fun v1=>opt (binInt .eql v1 (.int .u8 0)) fun v2=>ifB v2 (
 Q (.int .u32 2147483648) H) (
 opt (binInt .eql v1 (.int .u8 1)) fun v3=>ifB v3 (
 opt (convInt .i64 x1) fun v4=>opt (binInt .add (.int .i64 1) v4) fun v5=>E.call (E.fid i.f31) [v5] H fun v6 H1=>Q v6 H1) (
 opt (binInt .eql v1 (.int .u8 2)) fun v7=>ifB v7 (
 Q (.int .u32 2147221504) H) (
 Q (.int .u32 2147418112) H)))

def F.f17 (E:Sy) (x0:Value) (H:AH) (Q:VK):Prop :=
 mk (boxO x0) H fun v1 H1=>allocW [(.int .i64 0),(.int .u8 0),(.int .u64 0),(.int .u64 0)] H1 fun v2 H2=>E.call (E.fid i.f22) [] H2 fun v3 H3=>opt (addOff v1 0) fun v4=>opt (load1 v4 H3) fun v5=>opt (binInt .rem v5 (.int .u8 6)) fun v6=>opt (convInt .i64 v6) fun v7=>opt (addOff v1 1) fun v8=>opt (load1 v8 H3) fun v9=>opt (binInt .rem v9 (.int .u8 7)) fun v10=>opt (binInt .add (.int .u8 1) v10) fun v11=>opt (addOff v1 3) fun v12=>opt (load1 v12 H3) fun v13=>opt (convInt .i64 v13) fun v14=>opt (lenSlc v3) fun v15=>opt (binInt .rem v14 v15) fun v16=>opt (ixSlc 1 v3 v16) fun v17=>opt (load1 v17 H3) fun v18=>opt (buildV [(0,1),(1,1),(2,1),(3,1)] #[(.int .i64 0),(.int .u8 0),(.int .u64 0),(.int .u64 0)] [(0,v7),(1,v11),(3,v18)]) fun v19=>allocW [(.int .i64 0),(.int .u8 0),(.int .u64 0),(.int .u64 0)] H3 fun v20 H4=>opt (storeN 4 v20 v19 H4) fun H5=>opt (addOff v20 1) fun v21=>opt (load1 v21 H5) fun v22=>opt (binInt .eql v22 (.int .u8 7)) fun v23=>ifB v23 (
 opt (addOff v1 2) fun v24=>opt (load1 v24 H5) fun v25=>opt (convInt .i64 v25) fun v26=>opt (lenSlc v3) fun v27=>opt (binInt .sub v27 (.int .i64 1)) fun v28=>opt (binInt .rem v26 v28) fun v29=>opt (binInt .add (.int .i64 1) v29) fun v30=>opt (ixSlc 1 v3 v30) fun v31=>opt (load1 v31 H5) fun v32=>opt (addOff v20 2) fun v33=>opt (store1 v33 v32 H5) fun H6=>opt (addOff v20 3) fun v34=>opt (load1 v34 H6) fun v35=>opt (addOff v20 2) fun v36=>opt (load1 v36 H6) fun v37=>opt (binInt .and v35 v37) fun v38=>opt (addOff v20 3) fun v39=>opt (store1 v39 v38 H6) fun H7=>opt (loadN 4 v20 H7) fun v40=>opt (storeN 4 v2 v40 H7) fun H8=>opt (loadN 4 v2 H8) fun v41=>Q v41 H8) (
 opt (loadN 4 v20 H5) fun v42=>opt (storeN 4 v2 v42 H5) fun H9=>opt (loadN 4 v2 H9) fun v43=>Q v43 H9)

def F.f21 (E:Sy) (x0 x1 x2 x3:Value) (H:AH) (Q:VK):Prop :=
 opt (addOff x2 6) fun v1=>opt (load1 v1 H) fun v2=>opt (lenSlc v2) fun v3=>opt (binInt .geq x0 v3) fun v4=>ifB v4 (
 opt (addOff x3 3) fun v5=>opt (load1 v5 H) fun v6=>opt (binInt .and v6 x1) fun v7=>Q v7 H) (
 opt (addOff x2 6) fun v8=>opt (load1 v8 H) fun v9=>opt (ixSlc 1 v9 x0) fun v10=>opt (load1 v10 H) fun v11=>opt (addOff x3 3) fun v12=>opt (load1 v12 H) fun v13=>opt (binInt .and v11 v13) fun v14=>opt (binInt .and v14 x1) fun v15=>Q v15 H)

def F.f18 (E:Sy) (H:AH) (Q:VK):Prop :=
 mk (buildS 6 1 #[(.string ⟨#[]⟩)] [(0,(.string ⟨#[47]⟩)),(1,(.string ⟨#[47,97]⟩)),(2,(.string ⟨#[47,97,47,98]⟩)),(3,(.string ⟨#[47,102]⟩)),(4,(.string ⟨#[47,97,47,103]⟩)),(5,(.string ⟨#[47,99]⟩))]) H fun v1 H1=>Q v1 H1

def F.f36 (E:Sy) (x0 x1:Value) (H:AH) (Q:VK):Prop :=
 opt (lenSlc x0) fun v1=>E.call (E.fid i.f53) [x0,v1,x1] H fun v2 H1=>Q (.tuple #[]) H1

def F.f5 (E:Sy) (x0 x1:Value) (H:AH) (Q:VK):Prop :=
 mk (boxO x0) H fun v1 H1=>mk (boxO x1) H1 fun v2 H2=>opt (addOff v1 1) fun v3=>opt (load1 v3 H2) fun v4=>opt (addOff v2 1) fun v5=>opt (load1 v5 H2) fun v6=>E.call (E.fid i.f11) [v4] H2 fun v7 H3=>load1 v5 H3=load1 v5 H2 /\
 E.call (E.fid i.f11) [v6] H3 fun v8 H4=>E.call (E.fid i.f0) [v7,v8] H4 fun v9 H5=>Q v9 H5

def F.f9_l1 (E:Sy) (Q:VK) (t3 t7 t8 t9:Value) (H:AH) (X0:LK):Prop :=
 opt (binInt .lss t9 t8) fun v1=>ifB v1 (
 opt (ixSlc 3 t7 t9) fun v2=>opt (loadN 3 v2 H) fun v3=>allocW [(.int .u32 0),(.int .u32 0),(.slice none 0 0)] H fun v4 H1=>opt (storeN 3 v4 v3 H1) fun H2=>opt (addOff v4 2) fun v5=>opt (load1 v5 H2) fun v6=>opt (addOff v4 1) fun v7=>opt (load1 v7 H2) fun v8=>allocW [(.slice none 0 0),(.int .u32 0)] H2 fun v9 H3=>E.call (E.fid i.f12) [v6] H3 fun v10 H4=>H4.get H2.next=H3.get H2.next /\
 load1 v7 H4=load1 v7 H2 /\
 opt (buildV [(0,1),(1,1)] #[(.slice none 0 0),(.int .u32 0)] [(0,v10),(1,v8)]) fun v11=>opt (storeN 2 v9 v11 H4) fun H5=>opt (addOff v9 0) fun v12=>opt (load1 v12 H5) fun v13=>E.call (E.fid i.f10) [v13] H5 fun v14 H6=>ifB v14 (
 opt (binInt .add t9 (.int .i64 1)) fun v15=>X0 [t3,t7,t8,v15] H6) (
 opt (loadN 2 v9 H6) fun v16=>mk (buildS 1 2 #[(.slice none 0 0),(.int .u32 0)] [(0,v16)]) H6 fun v17 H7=>opt2 (app 2 32 t3 v17 H7) fun v18 H8=>opt (addOff v9 0) fun v19=>opt (load1 v19 H8) fun v20=>opt (lenSlc v20) fun v21=>opt (binInt .eql v21 (.int .i64 0)) fun v22=>ifB v22 (
 Q v18 H8) (
 opt (binInt .add t9 (.int .i64 1)) fun v23=>X0 [v18,t7,t8,v23] H8))) (
 Q t3 H)
def F.f9 (E:Sy) (x0:Value) (H:AH) (Q:VK):Prop :=
 opt (lenSlc x0) fun v1=>LoopL (fun l H X0=>F.f9_l1 E Q (nth l 0) (nth l 1) (nth l 2) (nth l 3) H X0) [(.slice none 0 0),x0,v1,(.int .i64 0)] H

def F.f35 (E:Sy) (x0 x1:Value) (H:AH) (Q:VK):Prop :=
 opt (lenSlc x0) fun v1=>opt (convInt .u64 v1) fun v2=>E.call (E.fid i.f13) [v2] H fun v3 H1=>E.call (E.fid i.f49) [x0,(.int .i64 0),v1,v3,x1] H1 fun v4 H2=>Q (.tuple #[]) H2

def F.f6 (E:Sy) (x0 x1:Value) (H:AH) (Q:VK):Prop :=
 mk (boxO x0) H fun v1 H1=>mk (boxO x1) H1 fun v2 H2=>opt (addOff v1 0) fun v3=>opt (load1 v3 H2) fun v4=>opt (addOff v2 0) fun v5=>opt (load1 v5 H2) fun v6=>E.call (E.fid i.f1) [v4,v6] H2 fun v7 H3=>Q v7 H3

def F.f27 (E:Sy) (x0:Value) (H:AH) (Q:VK):Prop :=
 mk (boxO x0) H fun v1 H1=>opt (addOff v1 1) fun v2=>opt (load1 v2 H1) fun v3=>opt (binInt .eql v3 (.int .u8 3)) fun v4=>gd v4 true (fun k=>opt (addOff v1 3) fun v=>k v H1) H1 fun v5 H2=>gd v4 true (fun k=>opt (load1 v5 H2) fun v=>k v H2) H2 fun v6 H3=>gd v4 true (fun k=>opt (binInt .eql v6 (.int .u64 0)) fun v=>k v H3) H3 fun v7 H4=>opt (pick v4 v7 (.bool false)) fun v8=>gd v8 false (fun k=>opt (addOff v1 1) fun v=>k v H4) H4 fun v9 H5=>gd v8 false (fun k=>opt (load1 v9 H5) fun v=>k v H5) H5 fun v10 H6=>gd v8 false (fun k=>opt (binInt .eql v10 (.int .u8 5)) fun v=>k v H6) H6 fun v11 H7=>gd v8 false (fun k=>k v11 H7) H7 fun v12 H8=>gd v12 true (fun k=>opt (addOff v1 3) fun v=>k v H8) H8 fun v13 H9=>gd v12 true (fun k=>opt (load1 v13 H9) fun v=>k v H9) H9 fun v14 H10=>gd v12 true (fun k=>opt (binInt .eql v14 (.int .u64 18446744073709551615)) fun v=>k v H10) H10 fun v15 H11=>gd v8 false (fun k=>opt (pick v12 v15 (.bool false)) fun v=>k v H11) H11 fun v16 H12=>opt (pick v8 (.bool true) v16) fun v17=>Q v17 H12

def F.f31 (E:Sy) (x0:Value) (H:AH) (Q:VK):Prop :=
 opt (fold2 max2 [x0,(.int .i64 0)]) fun v1=>opt (fold2 min2 [v1,(.int .i64 4095)]) fun v2=>opt (convInt .u32 v2) fun v3=>opt (binInt .or (.int .u32 327680) v3) fun v4=>Q v4 H

def F.f22 (E:Sy) (H:AH) (Q:VK):Prop :=
 mk (buildS 12 1 #[(.int .u64 0)] [(0,(.int .u64 0)),(1,(.int .u64 1)),(2,(.int .u64 2)),(3,(.int .u64 3)),(4,(.int .u64 5)),(5,(.int .u64 255)),(6,(.int .u64 4294967295)),(7,(.int .u64 4294967296)),(8,(.int .u64 4294967297)),(9,(.int .u64 8589934597)),(10,(.int .u64 9223372036854775810)),(11,(.int .u64 18446744073709551615))]) H fun v1 H1=>Q v1 H1

def F.f53_l3 (E:Sy) (Q:VK) (X0:LK) (t0 t1 t2 t6 t7 t8:Value) (H:AH) (X1:LK):Prop :=
 opt (binInt .leq t8 t1) fun v1=>ifB v1 (
 opt (binInt .add t7 t6) fun v2=>E.call (E.fid i.f55) [t0,t7,v2,t8,t2] H fun v3 H1=>opt (binInt .mul (.int .i64 2) t6) fun v4=>opt (binInt .add t8 v4) fun v5=>X1 [t0,t1,t2,t6,t8,v5] H1) (
 opt (binInt .add t7 t6) fun v6=>opt (binInt .lss v6 t1) fun v7=>ifB v7 (
 E.call (E.fid i.f55) [t0,t7,v6,t1,t2] H fun v8 H2=>opt (binInt .mul t6 (.int .i64 2)) fun v9=>X0 [t0,t1,t2,v9] H2) (
 opt (binInt .mul t6 (.int .i64 2)) fun v10=>X0 [t0,t1,t2,v10] H))
def F.f53_l2 (E:Sy) (Q:VK) (t0 t1 t2 t6:Value) (H:AH) (X0:LK):Prop :=
 opt (binInt .lss t6 t1) fun v1=>ifB v1 (
 opt (binInt .mul (.int .i64 2) t6) fun v2=>LoopL (fun l H X1=>F.f53_l3 E Q X0 (nth l 0) (nth l 1) (nth l 2) (nth l 3) (nth l 4) (nth l 5) H X1) [t0,t1,t2,t6,(.int .i64 0),v2] H) (
 Q (.tuple #[]) H)
def F.f53_l1 (E:Sy) (Q:VK) (t0 t1 t2 t6 t7 t8:Value) (H:AH) (X0:LK):Prop :=
 opt (binInt .leq t8 t1) fun v1=>ifB v1 (
 E.call (E.fid i.f41) [t0,t7,t8,t2] H fun v2 H1=>opt (binInt .add t8 t6) fun v3=>X0 [t0,t1,t2,t6,t8,v3] H1) (
 E.call (E.fid i.f41) [t0,t7,t1,t2] H fun v4 H2=>LoopL (fun l H X0=>F.f53_l2 E Q (nth l 0) (nth l 1) (nth l 2) (nth l 3) H X0) [t0,t1,t2,t6] H2)
def F.f53 (E:Sy) (x0 x1 x2:Value) (H:AH) (Q:VK):Prop :=
 LoopL (fun l H X0=>F.f53_l1 E Q (nth l 0) (nth l 1) (nth l 2) (nth l 3) (nth l 4) (nth l 5) H X0) [x0,x1,x2,(.int .i64 20),(.int .i64 0),(.int .i64 20)] H

def F.f11 (E:Sy) (x0:Value) (H:AH) (Q:VK):Prop :=
 opt (buildA 1 #[(.int .u32 0),(.int .u32 0),(.int .u32 0),(.int .u32 0)] [(0,(.int .u32 2147483648)),(1,(.int .u32 327680)),(2,(.int .u32 2147221504)),(3,(.int .u32 2147418112))]) fun v1=>allocW [(.int .u32 0),(.int .u32 0),(.int .u32 0),(.int .u32 0)] H fun v2 H1=>opt (storeN 4 v2 v1 H1) fun H2=>opt (slArr 4 1 v2 none none none) fun v3=>E.call (E.fid i.f30) [x0] H2 fun v4 H3=>E.call (E.fid i.f34) [v3,v4] H3 fun v5 H4=>Q v5 H4

def F.f0 (E:Sy) (x0 x1:Value) (H:AH) (Q:VK):Prop :=
 E.call (E.fid i.f2) [x0] H fun v1 H1=>E.call (E.fid i.f2) [x1] H1 fun v2 H2=>ifB v1 (
 ifB v2 (
 Q (.int .i64 0) H2) (
 Q (.int .i64 (-1)) H2)) (
 ifB v2 (
 Q (.int .i64 1) H2) (
 opt (binInt .lss x0 x1) fun v3=>ifB v3 (
 Q (.int .i64 (-1)) H2) (
 opt (binInt .gtr x0 x1) fun v4=>ifB v4 (
 Q (.int .i64 1) H2) (
 Q (.int .i64 0) H2))))

def F.f12_l1 (E:Sy) (Q:VK) (t3 t6 t7 t8:Value) (H:AH) (X0:LK):Prop :=
 opt (binInt .lss t8 t7) fun v1=>ifB v1 (
 opt (ixSlc 4 t6 t8) fun v2=>opt (loadN 4 v2 H) fun v3=>allocW [(.int .i64 0),(.int .u8 0),(.int .u64 0),(.int .u64 0)] H fun v4 H1=>opt (storeN 4 v4 v3 H1) fun H2=>opt (loadN 4 v4 H2) fun v5=>E.call (E.fid i.f8) [v5] H2 fun v6 H3=>opt (un .not v6) fun v7=>gd v7 true (fun k=>k t3 H3) H3 fun v8 H4=>gd v7 true (fun k=>opt (loadN 4 v4 H4) fun v=>k v H4) H4 fun v9 H5=>gd v7 true (fun k=>E.call (E.fid i.f32) [v8,v9] H5 fun v h=>k v h) H5 fun v10 H6=>gd v7 true (fun k=>opt (un .not v10) fun v=>k v H6) H6 fun v11 H7=>opt (pick v7 v11 (.bool false)) fun v12=>ifB v12 (
 opt (loadN 4 v4 H7) fun v13=>mk (buildS 1 4 #[(.int .i64 0),(.int .u8 0),(.int .u64 0),(.int .u64 0)] [(0,v13)]) H7 fun v14 H8=>opt2 (app 4 32 t3 v14 H8) fun v15 H9=>opt (binInt .add t8 (.int .i64 1)) fun v16=>X0 [v15,t6,t7,v16] H9) (
 opt (binInt .add t8 (.int .i64 1)) fun v17=>X0 [t3,t6,t7,v17] H7)) (
 Q t3 H)
def F.f12 (E:Sy) (x0:Value) (H:AH) (Q:VK):Prop :=
 opt (lenSlc x0) fun v1=>LoopL (fun l H X0=>F.f12_l1 E Q (nth l 0) (nth l 1) (nth l 2) (nth l 3) H X0) [(.slice none 0 0),x0,v1,(.int .i64 0)] H

def F.f10_l2 (E:Sy) (Q:VK) (X0:LK) (t0 t4 t7 t8 t9 t33 t34 t35:Value) (H:AH) (X1:LK):Prop :=
 opt (binInt .lss t35 t34) fun v1=>ifB v1 (
 opt (ixSlc 4 t33 t35) fun v2=>opt (loadN 4 v2 H) fun v3=>allocW [(.int .i64 0),(.int .u8 0),(.int .u64 0),(.int .u64 0)] H fun v4 H1=>opt (storeN 4 v4 v3 H1) fun H2=>opt (addOff t4 0) fun v5=>opt (load1 v5 H2) fun v6=>opt (addOff v4 0) fun v7=>opt (load1 v7 H2) fun v8=>opt (binInt .eql v6 v8) fun v9=>gd v9 true (fun k=>opt (addOff t4 1) fun v=>k v H2) H2 fun v10 H3=>gd v9 true (fun k=>opt (load1 v10 H3) fun v=>k v H3) H3 fun v11 H4=>gd v9 true (fun k=>opt (binInt .eql v11 (.int .u8 1)) fun v=>k v H4) H4 fun v12 H5=>opt (pick v9 v12 (.bool false)) fun v13=>gd v13 true (fun k=>opt (addOff v4 1) fun v=>k v H5) H5 fun v14 H6=>gd v13 true (fun k=>opt (load1 v14 H6) fun v=>k v H6) H6 fun v15 H7=>gd v13 true (fun k=>opt (binInt .eql v15 (.int .u8 1)) fun v=>k v H7) H7 fun v16 H8=>opt (pick v13 v16 (.bool false)) fun v17=>gd v17 true (fun k=>opt (addOff t4 3) fun v=>k v H8) H8 fun v18 H9=>gd v17 true (fun k=>opt (load1 v18 H9) fun v=>k v H9) H9 fun v19 H10=>gd v17 true (fun k=>opt (addOff v4 3) fun v=>k v H10) H10 fun v20 H11=>gd v17 true (fun k=>opt (load1 v20 H11) fun v=>k v H11) H11 fun v21 H12=>gd v17 true (fun k=>opt (binInt .neq v19 v21) fun v=>k v H12) H12 fun v22 H13=>opt (pick v17 v22 (.bool false)) fun v23=>ifB v23 (
 Q (.bool true) H13) (
 opt (binInt .add t35 (.int .i64 1)) fun v24=>X1 [t0,t4,t7,t8,t9,t33,t34,v24] H13)) (
 opt (binInt .add t9 (.int .i64 1)) fun v25=>X0 [t0,t7,t8,v25] H)
def F.f10_j1 (E:Sy) (Q:VK) (X0:LK) (t0 t3 t4 t7 t8 t9 t14:Value) (H:AH):Prop :=
 ifB t14 (
 Q (.bool true) H) (
 opt (slSlc 4 t0 none (some t3) none H) fun v1=>opt (lenSlc v1) fun v2=>LoopL (fun l H X1=>F.f10_l2 E Q X0 (nth l 0) (nth l 1) (nth l 2) (nth l 3) (nth l 4) (nth l 5) (nth l 6) (nth l 7) H X1) [t0,t4,t7,t8,t9,v1,v2,(.int .i64 0)] H)
def F.f10_l1 (E:Sy) (Q:VK) (t0 t7 t8 t9:Value) (H:AH) (X0:LK):Prop :=
 opt (binInt .lss t9 t8) fun v1=>ifB v1 (
 opt (ixSlc 4 t7 t9) fun v2=>opt (loadN 4 v2 H) fun v3=>allocW [(.int .i64 0),(.int .u8 0),(.int .u64 0),(.int .u64 0)] H fun v4 H1=>opt (storeN 4 v4 v3 H1) fun H2=>opt (addOff v4 1) fun v5=>opt (load1 v5 H2) fun v6=>opt (binInt .eql v6 (.int .u8 3)) fun v7=>gd v7 true (fun k=>opt (addOff v4 3) fun v=>k v H2) H2 fun v8 H3=>gd v7 true (fun k=>opt (load1 v8 H3) fun v=>k v H3) H3 fun v9 H4=>gd v7 true (fun k=>opt (binInt .eql v9 (.int .u64 0)) fun v=>k v H4) H4 fun v10 H5=>opt (pick v7 v10 (.bool false)) fun v11=>ifB v11 (
 F.f10_j1 E Q X0 t0 t9 v4 t7 t8 t9 v11 H5) (
 opt (addOff v4 1) fun v12=>opt (load1 v12 H5) fun v13=>opt (binInt .eql v13 (.int .u8 5)) fun v14=>gd v14 true (fun k=>opt (addOff v4 3) fun v=>k v H5) H5 fun v15 H6=>gd v14 true (fun k=>opt (load1 v15 H6) fun v=>k v H6) H6 fun v16 H7=>gd v14 true (fun k=>opt (binInt .eql v16 (.int .u64 18446744073709551615)) fun v=>k v H7) H7 fun v17 H8=>opt (pick v14 v17 (.bool false)) fun v18=>F.f10_j1 E Q X0 t0 t9 v4 t7 t8 t9 v18 H8)) (
 Q (.bool false) H)
def F.f10 (E:Sy) (x0:Value) (H:AH) (Q:VK):Prop :=
 opt (lenSlc x0) fun v1=>LoopL (fun l H X0=>F.f10_l1 E Q (nth l 0) (nth l 1) (nth l 2) (nth l 3) H X0) [x0,x0,v1,(.int .i64 0)] H

def F.f13 (E:Sy) (x0:Value) (H:AH) (Q:VK):Prop :=
 ifB (.bool false) (
 opt (convInt .u32 x0) fun v1=>E.call (E.fid i.f14) [v1] H fun v2 H1=>Q v2 H1) (
 E.call (E.fid i.f15) [x0] H fun v3 H2=>Q v3 H2)

def F.f49_j3 (E:Sy) (Q:VK) (X0:LK) (t0 t1 t2 t3 t4 t10 t11 t12 t13:Value) (H:AH):Prop :=
 opt (binInt .gtr t1 (.int .i64 0)) fun v1=>gd v1 true (fun k=>k t4 H) H fun v2 H1=>gd v1 true (fun k=>k t0 H1) H1 fun v3 H2=>gd v1 true (fun k=>k t1 H2) H2 fun v4 H3=>gd v1 true (fun k=>opt (binInt .sub v4 (.int .i64 1)) fun v=>k v H3) H3 fun v5 H4=>gd v1 true (fun k=>opt (ixSlc 2 v3 v5) fun v=>k v H4) H4 fun v6 H5=>gd v1 true (fun k=>opt (loadN 2 v6 H5) fun v=>k v H5) H5 fun v7 H6=>gd v1 true (fun k=>k t0 H6) H6 fun v8 H7=>gd v1 true (fun k=>k t13 H7) H7 fun v9 H8=>gd v1 true (fun k=>opt (ixSlc 2 v8 v9) fun v=>k v H8) H8 fun v10 H9=>gd v1 true (fun k=>opt (loadN 2 v10 H9) fun v=>k v H9) H9 fun v11 H10=>gd v1 true (fun k=>callV E.call v2 [v7,v11] H10 fun v h=>k v h) H10 fun v12 H11=>gd v1 true (fun k=>opt (binInt .lss v12 (.int .i64 0)) fun v=>k v H11) H11 fun v13 H12=>gd v1 true (fun k=>opt (un .not v13) fun v=>k v H12) H12 fun v14 H13=>opt (pick v1 v14 (.bool false)) fun v15=>ifB v15 (
 E.call (E.fid i.f48) [t0,t1,t2,t13,t4] H13 fun v16 H14=>X0 [t0,v16,t2,t3,t4,t10,t11] H14) (
 E.call (E.fid i.f47) [t0,t1,t2,t13,t4] H13 fun v17 H15=>opt (ext v17 0) fun v18=>opt (ext v17 1) fun v19=>opt (binInt .sub v18 t1) fun v20=>opt (binInt .sub t2 v18) fun v21=>opt (binInt .quo t12 (.int .i64 8)) fun v22=>opt (binInt .lss v20 v21) fun v23=>ifB v23 (
 opt (binInt .geq v20 v22) fun v24=>E.call (E.fid i.f49) [t0,t1,v18,t3,t4] H15 fun v25 H16=>opt (binInt .add v18 (.int .i64 1)) fun v26=>X0 [t0,v26,t2,t3,t4,v24,v19] H16) (
 opt (binInt .geq v21 v22) fun v27=>opt (binInt .add v18 (.int .i64 1)) fun v28=>E.call (E.fid i.f49) [t0,v28,t2,t3,t4] H15 fun v29 H17=>X0 [t0,t1,v18,t3,t4,v27,v19] H17))
def F.f49_j2 (E:Sy) (Q:VK) (X0:LK) (t0 t1 t2 t3 t4 t10 t11 t12 t13 t14:Value) (H:AH):Prop :=
 gd t10 true (fun k=>k t11 H) H fun v1 H1=>opt (pick t10 v1 (.bool false)) fun v2=>gd v2 true (fun k=>k t14 H1) H1 fun v3 H2=>gd v2 true (fun k=>opt (binInt .eql v3 (.int .i64 1)) fun v=>k v H2) H2 fun v4 H3=>opt (pick v2 v4 (.bool false)) fun v5=>ifB v5 (
 E.call (E.fid i.f46) [t0,t1,t2,t4] H3 fun v6 H4=>ifB v6 (
 Q (.tuple #[]) H4) (
 F.f49_j3 E Q X0 t0 t1 t2 t3 t4 t10 t11 t12 t13 H4)) (
 F.f49_j3 E Q X0 t0 t1 t2 t3 t4 t10 t11 t12 t13 H3)
def F.f49_j1 (E:Sy) (Q:VK) (X0:LK) (t0 t1 t2 t3 t4 t10 t11 t12:Value) (H:AH):Prop :=
 E.call (E.fid i.f38) [t0,t1,t2,t4] H fun v1 H1=>opt (ext v1 0) fun v2=>opt (ext v1 1) fun v3=>opt (binInt .eql v3 (.int .i64 2)) fun v4=>ifB v4 (
 E.call (E.fid i.f50) [t0,t1,t2,t4] H1 fun v5 H2=>opt (binInt .sub t2 (.int .i64 1)) fun v6=>opt (binInt .sub v2 t1) fun v7=>opt (binInt .sub v6 v7) fun v8=>F.f49_j2 E Q X0 t0 t1 t2 t3 t4 t10 t11 t12 v8 (.int .i64 1) H2) (
 F.f49_j2 E Q X0 t0 t1 t2 t3 t4 t10 t11 t12 v2 v3 H1)
def F.f49_l1 (E:Sy) (Q:VK) (t0 t1 t2 t3 t4 t10 t11:Value) (H:AH) (X0:LK):Prop :=
 opt (binInt .sub t2 t1) fun v1=>opt (binInt .leq v1 (.int .i64 12)) fun v2=>ifB v2 (
 E.call (E.fid i.f40) [t0,t1,t2,t4] H fun v3 H1=>Q (.tuple #[]) H1) (
 opt (binInt .eql t3 (.int .i64 0)) fun v4=>ifB v4 (
 E.call (E.fid i.f39) [t0,t1,t2,t4] H fun v5 H2=>Q (.tuple #[]) H2) (
 opt (un .not t10) fun v6=>ifB v6 (
 E.call (E.fid i.f37) [t0,t1,t2,t4] H fun v7 H3=>opt (binInt .sub t3 (.int .i64 1)) fun v8=>F.f49_j1 E Q X0 t0 t1 t2 v8 t4 t10 t11 v1 H3) (
 F.f49_j1 E Q X0 t0 t1 t2 t3 t4 t10 t11 v1 H)))
def F.f49 (E:Sy) (x0 x1 x2 x3 x4:Value) (H:AH) (Q:VK):Prop :=
 LoopL (fun l H X0=>F.f49_l1 E Q (nth l 0) (nth l 1) (nth l 2) (nth l 3) (nth l 4) (nth l 5) (nth l 6) H X0) [x0,x1,x2,x3,x4,(.bool true),(.bool true)] H

def F.f1 (E:Sy) (x0 x1:Value) (H:AH) (Q:VK):Prop :=
 E.call (E.fid i.f3) [x0] H fun v1 H1=>E.call (E.fid i.f3) [x1] H1 fun v2 H2=>ifB v1 (
 ifB v2 (
 Q (.int .i64 0) H2) (
 Q (.int .i64 (-1)) H2)) (
 ifB v2 (
 Q (.int .i64 1) H2) (
 opt (binInt .lss x0 x1) fun v3=>ifB v3 (
 Q (.int .i64 (-1)) H2) (
 opt (binInt .gtr x0 x1) fun v4=>ifB v4 (
 Q (.int .i64 1) H2) (
 Q (.int .i64 0) H2))))

def F.f41_l2 (E:Sy) (Q:VK) (X0:LK) (t0 t1 t2 t3 t8 t9:Value) (H:AH) (X1:LK):Prop :=
 opt (binInt .gtr t9 t1) fun v1=>gd v1 true (fun k=>k t3 H) H fun v2 H1=>gd v1 true (fun k=>k t0 H1) H1 fun v3 H2=>gd v1 true (fun k=>k t9 H2) H2 fun v4 H3=>gd v1 true (fun k=>opt (ixSlc 3 v3 v4) fun v=>k v H3) H3 fun v5 H4=>gd v1 true (fun k=>opt (loadN 3 v5 H4) fun v=>k v H4) H4 fun v6 H5=>gd v1 true (fun k=>k t0 H5) H5 fun v7 H6=>gd v1 true (fun k=>k t9 H6) H6 fun v8 H7=>gd v1 true (fun k=>opt (binInt .sub v8 (.int .i64 1)) fun v=>k v H7) H7 fun v9 H8=>gd v1 true (fun k=>opt (ixSlc 3 v7 v9) fun v=>k v H8) H8 fun v10 H9=>gd v1 true (fun k=>opt (loadN 3 v10 H9) fun v=>k v H9) H9 fun v11 H10=>gd v1 true (fun k=>callV E.call v2 [v6,v11] H10 fun v h=>k v h) H10 fun v12 H11=>gd v1 true (fun k=>opt (binInt .lss v12 (.int .i64 0)) fun v=>k v H11) H11 fun v13 H12=>opt (pick v1 v13 (.bool false)) fun v14=>ifB v14 (
 opt (binInt .sub t9 (.int .i64 1)) fun v15=>opt (binInt .sub t9 (.int .i64 1)) fun v16=>opt (ixSlc 3 t0 v16) fun v17=>opt (loadN 3 v17 H12) fun v18=>opt (ixSlc 3 t0 t9) fun v19=>opt (loadN 3 v19 H12) fun v20=>opt (ixSlc 3 t0 t9) fun v21=>opt (storeN 3 v21 v18 H12) fun H13=>opt (ixSlc 3 t0 v15) fun v22=>opt (storeN 3 v22 v20 H13) fun H14=>opt (binInt .sub t9 (.int .i64 1)) fun v23=>X1 [t0,t1,t2,t3,t8,v23] H14) (
 opt (binInt .add t8 (.int .i64 1)) fun v24=>X0 [t0,t1,t2,t3,v24] H12)
def F.f41_l1 (E:Sy) (Q:VK) (t0 t1 t2 t3 t8:Value) (H:AH) (X0:LK):Prop :=
 opt (binInt .lss t8 t2) fun v1=>ifB v1 (
 LoopL (fun l H X1=>F.f41_l2 E Q X0 (nth l 0) (nth l 1) (nth l 2) (nth l 3) (nth l 4) (nth l 5) H X1) [t0,t1,t2,t3,t8,t8] H) (
 Q (.tuple #[]) H)
def F.f41 (E:Sy) (x0 x1 x2 x3:Value) (H:AH) (Q:VK):Prop :=
 opt (binInt .add x1 (.int .i64 1)) fun v1=>LoopL (fun l H X0=>F.f41_l1 E Q (nth l 0) (nth l 1) (nth l 2) (nth l 3) (nth l 4) H X0) [x0,x1,x2,x3,v1] H

def F.f55_l2 (E:Sy) (Q:VK) (t0 t10 t13:Value) (H:AH) (X0:LK):Prop :=
 opt (binInt .sub t10 (.int .i64 1)) fun v1=>opt (binInt .lss t13 v1) fun v2=>ifB v2 (
 opt (binInt .add t13 (.int .i64 1)) fun v3=>opt (binInt .add t13 (.int .i64 1)) fun v4=>opt (ixSlc 3 t0 v4) fun v5=>opt (loadN 3 v5 H) fun v6=>opt (ixSlc 3 t0 t13) fun v7=>opt (loadN 3 v7 H) fun v8=>opt (ixSlc 3 t0 t13) fun v9=>opt (storeN 3 v9 v6 H) fun H1=>opt (ixSlc 3 t0 v3) fun v10=>opt (storeN 3 v10 v8 H1) fun H2=>opt (binInt .add t13 (.int .i64 1)) fun v11=>X0 [t0,t10,v11] H2) (
 Q (.tuple #[]) H)
def F.f55_l1 (E:Sy) (Q:VK) (t0 t1 t4 t10 t11:Value) (H:AH) (X0:LK):Prop :=
 opt (binInt .lss t10 t11) fun v1=>ifB v1 (
 opt (binInt .add t10 t11) fun v2=>opt (convInt .u64 v2) fun v3=>opt (binInt .shr v3 (.int .u64 1)) fun v4=>opt (convInt .i64 v4) fun v5=>opt (ixSlc 3 t0 v5) fun v6=>opt (loadN 3 v6 H) fun v7=>opt (ixSlc 3 t0 t1) fun v8=>opt (loadN 3 v8 H) fun v9=>callV E.call t4 [v7,v9] H fun v10 H1=>opt (binInt .lss v10 (.int .i64 0)) fun v11=>ifB v11 (
 opt (binInt .add v5 (.int .i64 1)) fun v12=>X0 [t0,t1,t4,v12,t11] H1) (
 X0 [t0,t1,t4,t10,v5] H1)) (
 LoopL (fun l H X0=>F.f55_l2 E Q (nth l 0) (nth l 1) (nth l 2) H X0) [t0,t10,t1] H)
def F.f55_l4 (E:Sy) (Q:VK) (t0 t14 t17:Value) (H:AH) (X0:LK):Prop :=
 opt (binInt .gtr t17 t14) fun v1=>ifB v1 (
 opt (binInt .sub t17 (.int .i64 1)) fun v2=>opt (binInt .sub t17 (.int .i64 1)) fun v3=>opt (ixSlc 3 t0 v3) fun v4=>opt (loadN 3 v4 H) fun v5=>opt (ixSlc 3 t0 t17) fun v6=>opt (loadN 3 v6 H) fun v7=>opt (ixSlc 3 t0 t17) fun v8=>opt (storeN 3 v8 v5 H) fun H1=>opt (ixSlc 3 t0 v2) fun v9=>opt (storeN 3 v9 v7 H1) fun H2=>opt (binInt .sub t17 (.int .i64 1)) fun v10=>X0 [t0,t14,v10] H2) (
 Q (.tuple #[]) H)
def F.f55_l3 (E:Sy) (Q:VK) (t0 t2 t4 t14 t15:Value) (H:AH) (X0:LK):Prop :=
 opt (binInt .lss t14 t15) fun v1=>ifB v1 (
 opt (binInt .add t14 t15) fun v2=>opt (convInt .u64 v2) fun v3=>opt (binInt .shr v3 (.int .u64 1)) fun v4=>opt (convInt .i64 v4) fun v5=>opt (ixSlc 3 t0 t2) fun v6=>opt (loadN 3 v6 H) fun v7=>opt (ixSlc 3 t0 v5) fun v8=>opt (loadN 3 v8 H) fun v9=>callV E.call t4 [v7,v9] H fun v10 H1=>opt (binInt .lss v10 (.int .i64 0)) fun v11=>opt (un .not v11) fun v12=>ifB v12 (
 opt (binInt .add v5 (.int .i64 1)) fun v13=>X0 [t0,t2,t4,v13,t15] H1) (
 X0 [t0,t2,t4,t14,v5] H1)) (
 LoopL (fun l H X0=>F.f55_l4 E Q (nth l 0) (nth l 1) (nth l 2) H X0) [t0,t14,t2] H)
def F.f55_j3 (E:Sy) (Q:VK) (t0 t3 t4 t18 t24:Value) (H:AH):Prop :=
 opt (binInt .lss t18 t24) fun v1=>gd v1 true (fun k=>k t24 H) H fun v2 H1=>gd v1 true (fun k=>k t3 H1) H1 fun v3 H2=>gd v1 true (fun k=>opt (binInt .lss v2 v3) fun v=>k v H2) H2 fun v4 H3=>opt (pick v1 v4 (.bool false)) fun v5=>ifB v5 (
 E.call (E.fid i.f55) [t0,t18,t24,t3,t4] H3 fun v6 H4=>Q (.tuple #[]) H4) (
 Q (.tuple #[]) H3)
def F.f55_j2 (E:Sy) (Q:VK) (t0 t1 t3 t4 t18 t20 t24:Value) (H:AH):Prop :=
 opt (binInt .lss t1 t20) fun v1=>gd v1 true (fun k=>k t20 H) H fun v2 H1=>gd v1 true (fun k=>k t18 H1) H1 fun v3 H2=>gd v1 true (fun k=>opt (binInt .lss v2 v3) fun v=>k v H2) H2 fun v4 H3=>opt (pick v1 v4 (.bool false)) fun v5=>ifB v5 (
 E.call (E.fid i.f55) [t0,t1,t20,t18,t4] H3 fun v6 H4=>F.f55_j3 E Q t0 t3 t4 t18 t24 H4) (
 F.f55_j3 E Q t0 t3 t4 t18 t24 H3)
def F.f55_l5 (E:Sy) (Q:VK) (t0 t1 t2 t3 t4 t18 t19 t20 t21 t22:Value) (H:AH) (X0:LK):Prop :=
 opt (binInt .lss t20 t21) fun v1=>ifB v1 (
 opt (binInt .add t20 t21) fun v2=>opt (convInt .u64 v2) fun v3=>opt (binInt .shr v3 (.int .u64 1)) fun v4=>opt (convInt .i64 v4) fun v5=>opt (binInt .sub t22 v5) fun v6=>opt (ixSlc 3 t0 v6) fun v7=>opt (loadN 3 v7 H) fun v8=>opt (ixSlc 3 t0 v5) fun v9=>opt (loadN 3 v9 H) fun v10=>callV E.call t4 [v8,v10] H fun v11 H1=>opt (binInt .lss v11 (.int .i64 0)) fun v12=>opt (un .not v12) fun v13=>ifB v13 (
 opt (binInt .add v5 (.int .i64 1)) fun v14=>X0 [t0,t1,t2,t3,t4,t18,t19,v14,t21,t22] H1) (
 X0 [t0,t1,t2,t3,t4,t18,t19,t20,v5,t22] H1)) (
 opt (binInt .sub t19 t20) fun v15=>opt (binInt .lss t20 t2) fun v16=>gd v16 true (fun k=>k t2 H) H fun v17 H2=>gd v16 true (fun k=>k v15 H2) H2 fun v18 H3=>gd v16 true (fun k=>opt (binInt .lss v17 v18) fun v=>k v H3) H3 fun v19 H4=>opt (pick v16 v19 (.bool false)) fun v20=>ifB v20 (
 E.call (E.fid i.f51) [t0,t20,t2,v15,t4] H4 fun v21 H5=>F.f55_j2 E Q t0 t1 t3 t4 t18 t20 v15 H5) (
 F.f55_j2 E Q t0 t1 t3 t4 t18 t20 v15 H4))
def F.f55_j1 (E:Sy) (Q:VK) (t0 t1 t2 t3 t4 t18 t19 t20 t21:Value) (H:AH):Prop :=
 opt (binInt .sub t19 (.int .i64 1)) fun v1=>LoopL (fun l H X0=>F.f55_l5 E Q (nth l 0) (nth l 1) (nth l 2) (nth l 3) (nth l 4) (nth l 5) (nth l 6) (nth l 7) (nth l 8) (nth l 9) H X0) [t0,t1,t2,t3,t4,t18,t19,t20,t21,v1] H
def F.f55 (E:Sy) (x0 x1 x2 x3 x4:Value) (H:AH) (Q:VK):Prop :=
 opt (binInt .sub x2 x1) fun v1=>opt (binInt .eql v1 (.int .i64 1)) fun v2=>ifB v2 (
 LoopL (fun l H X0=>F.f55_l1 E Q (nth l 0) (nth l 1) (nth l 2) (nth l 3) (nth l 4) H X0) [x0,x1,x4,x2,x3] H) (
 opt (binInt .sub x3 x2) fun v3=>opt (binInt .eql v3 (.int .i64 1)) fun v4=>ifB v4 (
 LoopL (fun l H X0=>F.f55_l3 E Q (nth l 0) (nth l 1) (nth l 2) (nth l 3) (nth l 4) H X0) [x0,x2,x4,x1,x2] H) (
 opt (binInt .add x1 x3) fun v5=>opt (convInt .u64 v5) fun v6=>opt (binInt .shr v6 (.int .u64 1)) fun v7=>opt (convInt .i64 v7) fun v8=>opt (binInt .add v8 x2) fun v9=>opt (binInt .gtr x2 v8) fun v10=>ifB v10 (
 opt (binInt .sub v9 x3) fun v11=>F.f55_j1 E Q x0 x1 x2 x3 x4 v8 v9 v11 v8 H) (
 F.f55_j1 E Q x0 x1 x2 x3 x4 v8 v9 x1 x2 H)))

def F.f30_j1 (E:Sy) (Q:VK) (t3 t7:Value) (H:AH):Prop :=
 ifB t7 (
 Q t3 H) (
 Q (.int .u32 2147483648) H)
def F.f30 (E:Sy) (x0:Value) (H:AH) (Q:VK):Prop :=
 opt (binInt .andNot x0 (.int .u32 65535)) fun v1=>opt (binInt .eql v1 (.int .u32 327680)) fun v2=>ifB v2 (
 F.f30_j1 E Q v1 v2 H) (
 opt (binInt .eql v1 (.int .u32 2147221504)) fun v3=>ifB v3 (
 F.f30_j1 E Q v1 v3 H) (
 opt (binInt .eql v1 (.int .u32 2147418112)) fun v4=>F.f30_j1 E Q v1 v4 H))

def F.f34_l1 (E:Sy) (Q:VK) (t0 t1 t7 t8:Value) (H:AH) (X0:LK):Prop :=
 opt (binInt .lss t8 t7) fun v1=>ifB v1 (
 opt (ixSlc 1 t0 t8) fun v2=>opt (load1 v2 H) fun v3=>opt (binInt .eql t1 v3) fun v4=>ifB v4 (
 Q t8 H) (
 opt (binInt .add t8 (.int .i64 1)) fun v5=>X0 [t0,t1,t7,v5] H)) (
 Q (.int .i64 (-1)) H)
def F.f34 (E:Sy) (x0 x1:Value) (H:AH) (Q:VK):Prop :=
 opt (lenSlc x0) fun v1=>LoopL (fun l H X0=>F.f34_l1 E Q (nth l 0) (nth l 1) (nth l 2) (nth l 3) H X0) [x0,x1,v1,(.int .i64 0)] H

def F.f2 (E:Sy) (x0:Value) (H:AH) (Q:VK):Prop :=
 opt (binInt .neq x0 x0) fun v1=>Q v1 H

def F.f8 (E:Sy) (x0:Value) (H:AH) (Q:VK):Prop :=
 mk (boxO x0) H fun v1 H1=>opt (addOff v1 0) fun v2=>opt (load1 v2 H1) fun v3=>opt (binInt .lss v3 (.int .i64 0)) fun v4=>gd v4 false (fun k=>opt (addOff v1 0) fun v=>k v H1) H1 fun v5 H2=>gd v4 false (fun k=>opt (load1 v5 H2) fun v=>k v H2) H2 fun v6 H3=>gd v4 false (fun k=>opt (binInt .gtr v6 (.int .i64 5)) fun v=>k v H3) H3 fun v7 H4=>opt (pick v4 (.bool true) v7) fun v8=>ifB v8 (
 Q (.bool false) H4) (
 opt (addOff v1 1) fun v9=>opt (load1 v9 H4) fun v10=>opt (binInt .eql v10 (.int .u8 6)) fun v11=>ifB v11 (
 opt (addOff v1 3) fun v12=>opt (load1 v12 H4) fun v13=>opt (binInt .eql v13 (.int .u64 0)) fun v14=>Q v14 H4) (
 opt (binInt .eql v10 (.int .u8 4)) fun v15=>ifB v15 (
 opt (addOff v1 3) fun v16=>opt (load1 v16 H4) fun v17=>opt (binInt .eql v17 (.int .u64 18446744073709551615)) fun v18=>Q v18 H4) (
 Q (.bool false) H4)))

def F.f32 (E:Sy) (x0 x1:Value) (H:AH) (Q:VK):Prop :=
 mk (boxO x1) H fun v1 H1=>opt (loadN 4 v1 H1) fun v2=>E.call (E.fid i.f33) [x0,v2] H1 fun v3 H2=>opt (binInt .geq v3 (.int .i64 0)) fun v4=>Q v4 H2

def F.f15_j3 (E:Sy) (Q:VK) (t0 t2:Value) (H:AH):Prop :=
 opt (convInt .u8 t0) fun v1=>opt (ixStr (.string ⟨#[0,1,2,2,3,3,3,3,4,4,4,4,4,4,4,4,5,5,5,5,5,5,5,5,5,5,5,5,5,5,5,5,6,6,6,6,6,6,6,6,6,6,6,6,6,6,6,6,6,6,6,6,6,6,6,6,6,6,6,6,6,6,6,6,7,7,7,7,7,7,7,7,7,7,7,7,7,7,7,7,7,7,7,7,7,7,7,7,7,7,7,7,7,7,7,7,7,7,7,7,7,7,7,7,7,7,7,7,7,7,7,7,7,7,7,7,7,7,7,7,7,7,7,7,7,7,7,7,8,8,8,8,8,8,8,8,8,8,8,8,8,8,8,8,8,8,8,8,8,8,8,8,8,8,8,8,8,8,8,8,8,8,8,8,8,8,8,8,8,8,8,8,8,8,8,8,8,8,8,8,8,8,8,8,8,8,8,8,8,8,8,8,8,8,8,8,8,8,8,8,8,8,8,8,8,8,8,8,8,8,8,8,8,8,8,8,8,8,8,8,8,8,8,8,8,8,8,8,8,8,8,8,8,8,8,8,8,8,8,8,8,8,8,8,8,8,8,8,8,8,8,8,8,8,8,8]⟩) v1) fun v2=>opt (convInt .i64 v2) fun v3=>opt (binInt .add t2 v3) fun v4=>Q v4 H
def F.f15_j2 (E:Sy) (Q:VK) (t0 t2:Value) (H:AH):Prop :=
 opt (binInt .geq t0 (.int .u64 256)) fun v1=>ifB v1 (
 opt (binInt .shr t0 (.int .u64 8)) fun v2=>opt (binInt .add t2 (.int .i64 8)) fun v3=>F.f15_j3 E Q v2 v3 H) (
 F.f15_j3 E Q t0 t2 H)
def F.f15_j1 (E:Sy) (Q:VK) (t0 t2:Value) (H:AH):Prop :=
 opt (binInt .geq t0 (.int .u64 65536)) fun v1=>ifB v1 (
 opt (binInt .shr t0 (.int .u64 16)) fun v2=>opt (binInt .add t2 (.int .i64 16)) fun v3=>F.f15_j2 E Q v2 v3 H) (
 F.f15_j2 E Q t0 t2 H)
def F.f15 (E:Sy) (x0:Value) (H:AH) (Q:VK):Prop :=
 opt (binInt .geq x0 (.int .u64 4294967296)) fun v1=>ifB v1 (
 opt (binInt .shr x0 (.int .u64 32)) fun v2=>F.f15_j1 E Q v2 (.int .i64 32) H) (
 F.f15_j1 E Q x0 (.int .i64 0) H)

def F.f40_l2 (E:Sy) (Q:VK) (X0:LK) (t0 t1 t2 t3 t8 t9:Value) (H:AH) (X1:LK):Prop :=
 opt (binInt .gtr t9 t1) fun v1=>gd v1 true (fun k=>k t3 H) H fun v2 H1=>gd v1 true (fun k=>k t0 H1) H1 fun v3 H2=>gd v1 true (fun k=>k t9 H2) H2 fun v4 H3=>gd v1 true (fun k=>opt (ixSlc 2 v3 v4) fun v=>k v H3) H3 fun v5 H4=>gd v1 true (fun k=>opt (loadN 2 v5 H4) fun v=>k v H4) H4 fun v6 H5=>gd v1 true (fun k=>k t0 H5) H5 fun v7 H6=>gd v1 true (fun k=>k t9 H6) H6 fun v8 H7=>gd v1 true (fun k=>opt (binInt .sub v8 (.int .i64 1)) fun v=>k v H7) H7 fun v9 H8=>gd v1 true (fun k=>opt (ixSlc 2 v7 v9) fun v=>k v H8) H8 fun v10 H9=>gd v1 true (fun k=>opt (loadN 2 v10 H9) fun v=>k v H9) H9 fun v11 H10=>gd v1 true (fun k=>callV E.call v2 [v6,v11] H10 fun v h=>k v h) H10 fun v12 H11=>gd v1 true (fun k=>opt (binInt .lss v12 (.int .i64 0)) fun v=>k v H11) H11 fun v13 H12=>opt (pick v1 v13 (.bool false)) fun v14=>ifB v14 (
 opt (binInt .sub t9 (.int .i64 1)) fun v15=>opt (binInt .sub t9 (.int .i64 1)) fun v16=>opt (ixSlc 2 t0 v16) fun v17=>opt (loadN 2 v17 H12) fun v18=>opt (ixSlc 2 t0 t9) fun v19=>opt (loadN 2 v19 H12) fun v20=>opt (ixSlc 2 t0 t9) fun v21=>opt (storeN 2 v21 v18 H12) fun H13=>opt (ixSlc 2 t0 v15) fun v22=>opt (storeN 2 v22 v20 H13) fun H14=>opt (binInt .sub t9 (.int .i64 1)) fun v23=>X1 [t0,t1,t2,t3,t8,v23] H14) (
 opt (binInt .add t8 (.int .i64 1)) fun v24=>X0 [t0,t1,t2,t3,v24] H12)
def F.f40_l1 (E:Sy) (Q:VK) (t0 t1 t2 t3 t8:Value) (H:AH) (X0:LK):Prop :=
 opt (binInt .lss t8 t2) fun v1=>ifB v1 (
 LoopL (fun l H X1=>F.f40_l2 E Q X0 (nth l 0) (nth l 1) (nth l 2) (nth l 3) (nth l 4) (nth l 5) H X1) [t0,t1,t2,t3,t8,t8] H) (
 Q (.tuple #[]) H)
def F.f40 (E:Sy) (x0 x1 x2 x3:Value) (H:AH) (Q:VK):Prop :=
 opt (binInt .add x1 (.int .i64 1)) fun v1=>LoopL (fun l H X0=>F.f40_l1 E Q (nth l 0) (nth l 1) (nth l 2) (nth l 3) (nth l 4) H X0) [x0,x1,x2,x3,v1] H

def F.f39_l2 (E:Sy) (Q:VK) (t0 t3 t8 t9 t12:Value) (H:AH) (X0:LK):Prop :=
 opt (binInt .geq t12 (.int .i64 0)) fun v1=>ifB v1 (
 opt (binInt .add t8 t12) fun v2=>opt (binInt .add t8 t12) fun v3=>opt (ixSlc 2 t0 v3) fun v4=>opt (loadN 2 v4 H) fun v5=>opt (ixSlc 2 t0 t8) fun v6=>opt (loadN 2 v6 H) fun v7=>opt (ixSlc 2 t0 t8) fun v8=>opt (storeN 2 v8 v5 H) fun H1=>opt (ixSlc 2 t0 v2) fun v9=>opt (storeN 2 v9 v7 H1) fun H2=>E.call (E.fid i.f52) [t0,t9,t12,t8,t3] H2 fun v10 H3=>opt (binInt .sub t12 (.int .i64 1)) fun v11=>X0 [t0,t3,t8,t9,v11] H3) (
 Q (.tuple #[]) H)
def F.f39_l1 (E:Sy) (Q:VK) (t0 t3 t8 t9 t10 t11:Value) (H:AH) (X0:LK):Prop :=
 opt (binInt .geq t11 (.int .i64 0)) fun v1=>ifB v1 (
 E.call (E.fid i.f52) [t0,t11,t10,t8,t3] H fun v2 H1=>opt (binInt .sub t11 (.int .i64 1)) fun v3=>X0 [t0,t3,t8,t9,t10,v3] H1) (
 opt (binInt .sub t10 (.int .i64 1)) fun v4=>LoopL (fun l H X0=>F.f39_l2 E Q (nth l 0) (nth l 1) (nth l 2) (nth l 3) (nth l 4) H X0) [t0,t3,t8,t9,v4] H)
def F.f39 (E:Sy) (x0 x1 x2 x3:Value) (H:AH) (Q:VK):Prop :=
 opt (binInt .sub x2 x1) fun v1=>opt (binInt .sub v1 (.int .i64 1)) fun v2=>opt (binInt .quo v2 (.int .i64 2)) fun v3=>LoopL (fun l H X0=>F.f39_l1 E Q (nth l 0) (nth l 1) (nth l 2) (nth l 3) (nth l 4) (nth l 5) H X0) [x0,x3,x1,(.int .i64 0),v1,v3] H

def F.f37_j1 (E:Sy) (Q:VK) (X0:LK) (t0 t1 t8 t9 t10 t11 t12:Value) (H:AH):Prop :=
 opt (binInt .add t1 t12) fun v1=>opt (binInt .add t1 t12) fun v2=>opt (ixSlc 2 t0 v2) fun v3=>opt (loadN 2 v3 H) fun v4=>opt (ixSlc 2 t0 t11) fun v5=>opt (loadN 2 v5 H) fun v6=>opt (ixSlc 2 t0 t11) fun v7=>opt (storeN 2 v7 v4 H) fun H1=>opt (ixSlc 2 t0 v1) fun v8=>opt (storeN 2 v8 v6 H1) fun H2=>opt (binInt .add t11 (.int .i64 1)) fun v9=>X0 [t0,t1,t8,t9,t10,v9] H2
def F.f37_l1 (E:Sy) (Q:VK) (t0 t1 t8 t9 t10 t11:Value) (H:AH) (X0:LK):Prop :=
 opt (binInt .quo t8 (.int .i64 4)) fun v1=>opt (binInt .mul v1 (.int .i64 2)) fun v2=>opt (binInt .add t1 v2) fun v3=>opt (binInt .add v3 (.int .i64 1)) fun v4=>opt (binInt .leq t11 v4) fun v5=>ifB v5 (
 E.call (E.fid i.f56) [t9] H fun v6 H1=>opt (binInt .sub t10 (.int .u64 1)) fun v7=>opt (binInt .and v6 v7) fun v8=>opt (convInt .i64 v8) fun v9=>opt (binInt .geq v9 t8) fun v10=>ifB v10 (
 opt (binInt .sub v9 t8) fun v11=>F.f37_j1 E Q X0 t0 t1 t8 t9 t10 t11 v11 H1) (
 F.f37_j1 E Q X0 t0 t1 t8 t9 t10 t11 v9 H1)) (
 Q (.tuple #[]) H)
def F.f37 (E:Sy) (x0 x1 x2 x3:Value) (H:AH) (Q:VK):Prop :=
 opt (binInt .sub x2 x1) fun v1=>opt (binInt .geq v1 (.int .i64 8)) fun v2=>ifB v2 (
 opt (convInt .u64 v1) fun v3=>allocW [(.int .u64 0)] H fun v4 H1=>opt (store1 v4 v3 H1) fun H2=>E.call (E.fid i.f44) [v1] H2 fun v5 H3=>opt (binInt .quo v1 (.int .i64 4)) fun v6=>opt (binInt .mul v6 (.int .i64 2)) fun v7=>opt (binInt .add x1 v7) fun v8=>opt (binInt .sub v8 (.int .i64 1)) fun v9=>LoopL (fun l H X0=>F.f37_l1 E Q (nth l 0) (nth l 1) (nth l 2) (nth l 3) (nth l 4) (nth l 5) H X0) [x0,x1,v1,v4,v5,v9] H3) (
 Q (.tuple #[]) H)

def F.f38_j1 (E:Sy) (Q:VK) (t11 t13:Value) (H:AH):Prop :=
 opt (load1 t11 H) fun v1=>opt (binInt .eql v1 (.int .i64 0)) fun v2=>ifB v2 (
 Q (.tuple #[t13,(.int .i64 1)]) H) (
 opt (binInt .eql v1 (.int .i64 12)) fun v3=>ifB v3 (
 Q (.tuple #[t13,(.int .i64 2)]) H) (
 Q (.tuple #[t13,(.int .i64 0)]) H))
def F.f38_j2 (E:Sy) (Q:VK) (t0 t3 t11 t12 t13 t14:Value) (H:AH):Prop :=
 E.call (E.fid i.f43) [t0,t12,t13,t14,t11,t3] H fun v1 H1=>F.f38_j1 E Q t11 v1 H1
def F.f38 (E:Sy) (x0 x1 x2 x3:Value) (H:AH) (Q:VK):Prop :=
 opt (binInt .sub x2 x1) fun v1=>allocW [(.int .i64 0)] H fun v2 H1=>opt (binInt .quo v1 (.int .i64 4)) fun v3=>opt (binInt .mul v3 (.int .i64 1)) fun v4=>opt (binInt .add x1 v4) fun v5=>opt (binInt .quo v1 (.int .i64 4)) fun v6=>opt (binInt .mul v6 (.int .i64 2)) fun v7=>opt (binInt .add x1 v7) fun v8=>opt (binInt .quo v1 (.int .i64 4)) fun v9=>opt (binInt .mul v9 (.int .i64 3)) fun v10=>opt (binInt .add x1 v10) fun v11=>opt (binInt .geq v1 (.int .i64 8)) fun v12=>ifB v12 (
 opt (binInt .geq v1 (.int .i64 50)) fun v13=>ifB v13 (
 E.call (E.fid i.f42) [x0,v5,v2,x3] H1 fun v14 H2=>E.call (E.fid i.f42) [x0,v8,v2,x3] H2 fun v15 H3=>E.call (E.fid i.f42) [x0,v11,v2,x3] H3 fun v16 H4=>F.f38_j2 E Q x0 x3 v2 v14 v15 v16 H4) (
 F.f38_j2 E Q x0 x3 v2 v5 v8 v11 H1)) (
 F.f38_j1 E Q v2 v8 H1)

def F.f50_l1 (E:Sy) (Q:VK) (t0 t8 t9:Value) (H:AH) (X0:LK):Prop :=
 opt (binInt .lss t8 t9) fun v1=>ifB v1 (
 opt (ixSlc 2 t0 t9) fun v2=>opt (loadN 2 v2 H) fun v3=>opt (ixSlc 2 t0 t8) fun v4=>opt (loadN 2 v4 H) fun v5=>opt (ixSlc 2 t0 t8) fun v6=>opt (storeN 2 v6 v3 H) fun H1=>opt (ixSlc 2 t0 t9) fun v7=>opt (storeN 2 v7 v5 H1) fun H2=>opt (binInt .add t8 (.int .i64 1)) fun v8=>opt (binInt .sub t9 (.int .i64 1)) fun v9=>X0 [t0,v8,v9] H2) (
 Q (.tuple #[]) H)
def F.f50 (E:Sy) (x0 x1 x2 x3:Value) (H:AH) (Q:VK):Prop :=
 opt (binInt .sub x2 (.int .i64 1)) fun v1=>LoopL (fun l H X0=>F.f50_l1 E Q (nth l 0) (nth l 1) (nth l 2) H X0) [x0,x1,v1] H

def F.f46_l3 (E:Sy) (Q:VK) (X0:LK) (t0 t1 t2 t3 t9 t10 t12:Value) (H:AH) (X1:LK):Prop :=
 opt (binInt .lss t12 t2) fun v1=>ifB v1 (
 opt (ixSlc 2 t0 t12) fun v2=>opt (loadN 2 v2 H) fun v3=>opt (binInt .sub t12 (.int .i64 1)) fun v4=>opt (ixSlc 2 t0 v4) fun v5=>opt (loadN 2 v5 H) fun v6=>callV E.call t3 [v3,v6] H fun v7 H1=>opt (binInt .lss v7 (.int .i64 0)) fun v8=>opt (un .not v8) fun v9=>ifB v9 (
 opt (binInt .add t10 (.int .i64 1)) fun v10=>X0 [t0,t1,t2,t3,t9,v10] H1) (
 opt (binInt .sub t12 (.int .i64 1)) fun v11=>opt (binInt .sub t12 (.int .i64 1)) fun v12=>opt (ixSlc 2 t0 v12) fun v13=>opt (loadN 2 v13 H1) fun v14=>opt (ixSlc 2 t0 t12) fun v15=>opt (loadN 2 v15 H1) fun v16=>opt (ixSlc 2 t0 t12) fun v17=>opt (storeN 2 v17 v14 H1) fun H2=>opt (ixSlc 2 t0 v11) fun v18=>opt (storeN 2 v18 v16 H2) fun H3=>opt (binInt .add t12 (.int .i64 1)) fun v19=>X1 [t0,t1,t2,t3,t9,t10,v19] H3)) (
 opt (binInt .add t10 (.int .i64 1)) fun v20=>X0 [t0,t1,t2,t3,t9,v20] H)
def F.f46_j1 (E:Sy) (Q:VK) (X0:LK) (t0 t1 t2 t3 t9 t10:Value) (H:AH):Prop :=
 opt (binInt .sub t2 t9) fun v1=>opt (binInt .geq v1 (.int .i64 2)) fun v2=>ifB v2 (
 opt (binInt .add t9 (.int .i64 1)) fun v3=>LoopL (fun l H X1=>F.f46_l3 E Q X0 (nth l 0) (nth l 1) (nth l 2) (nth l 3) (nth l 4) (nth l 5) (nth l 6) H X1) [t0,t1,t2,t3,t9,t10,v3] H) (
 opt (binInt .add t10 (.int .i64 1)) fun v4=>X0 [t0,t1,t2,t3,t9,v4] H)
def F.f46_l4 (E:Sy) (Q:VK) (X0:LK) (t0 t1 t2 t3 t9 t10 t11:Value) (H:AH) (X1:LK):Prop :=
 opt (binInt .geq t11 (.int .i64 1)) fun v1=>ifB v1 (
 opt (ixSlc 2 t0 t11) fun v2=>opt (loadN 2 v2 H) fun v3=>opt (binInt .sub t11 (.int .i64 1)) fun v4=>opt (ixSlc 2 t0 v4) fun v5=>opt (loadN 2 v5 H) fun v6=>callV E.call t3 [v3,v6] H fun v7 H1=>opt (binInt .lss v7 (.int .i64 0)) fun v8=>opt (un .not v8) fun v9=>ifB v9 (
 F.f46_j1 E Q X0 t0 t1 t2 t3 t9 t10 H1) (
 opt (binInt .sub t11 (.int .i64 1)) fun v10=>opt (binInt .sub t11 (.int .i64 1)) fun v11=>opt (ixSlc 2 t0 v11) fun v12=>opt (loadN 2 v12 H1) fun v13=>opt (ixSlc 2 t0 t11) fun v14=>opt (loadN 2 v14 H1) fun v15=>opt (ixSlc 2 t0 t11) fun v16=>opt (storeN 2 v16 v13 H1) fun H2=>opt (ixSlc 2 t0 v10) fun v17=>opt (storeN 2 v17 v15 H2) fun H3=>opt (binInt .sub t11 (.int .i64 1)) fun v18=>X1 [t0,t1,t2,t3,t9,t10,v18] H3)) (
 F.f46_j1 E Q X0 t0 t1 t2 t3 t9 t10 H)
def F.f46_l2 (E:Sy) (Q:VK) (X0:LK) (t0 t1 t2 t3 t9 t10:Value) (H:AH) (X1:LK):Prop :=
 opt (binInt .lss t9 t2) fun v1=>gd v1 true (fun k=>k t3 H) H fun v2 H1=>gd v1 true (fun k=>k t0 H1) H1 fun v3 H2=>gd v1 true (fun k=>k t9 H2) H2 fun v4 H3=>gd v1 true (fun k=>opt (ixSlc 2 v3 v4) fun v=>k v H3) H3 fun v5 H4=>gd v1 true (fun k=>opt (loadN 2 v5 H4) fun v=>k v H4) H4 fun v6 H5=>gd v1 true (fun k=>k t0 H5) H5 fun v7 H6=>gd v1 true (fun k=>k t9 H6) H6 fun v8 H7=>gd v1 true (fun k=>opt (binInt .sub v8 (.int .i64 1)) fun v=>k v H7) H7 fun v9 H8=>gd v1 true (fun k=>opt (ixSlc 2 v7 v9) fun v=>k v H8) H8 fun v10 H9=>gd v1 true (fun k=>opt (loadN 2 v10 H9) fun v=>k v H9) H9 fun v11 H10=>gd v1 true (fun k=>callV E.call v2 [v6,v11] H10 fun v h=>k v h) H10 fun v12 H11=>gd v1 true (fun k=>opt (binInt .lss v12 (.int .i64 0)) fun v=>k v H11) H11 fun v13 H12=>gd v1 true (fun k=>opt (un .not v13) fun v=>k v H12) H12 fun v14 H13=>opt (pick v1 v14 (.bool false)) fun v15=>ifB v15 (
 opt (binInt .add t9 (.int .i64 1)) fun v16=>X1 [t0,t1,t2,t3,v16,t10] H13) (
 opt (binInt .eql t9 t2) fun v17=>ifB v17 (
 Q (.bool true) H13) (
 opt (binInt .sub t2 t1) fun v18=>opt (binInt .lss v18 (.int .i64 50)) fun v19=>ifB v19 (
 Q (.bool false) H13) (
 opt (binInt .sub t9 (.int .i64 1)) fun v20=>opt (binInt .sub t9 (.int .i64 1)) fun v21=>opt (ixSlc 2 t0 v21) fun v22=>opt (loadN 2 v22 H13) fun v23=>opt (ixSlc 2 t0 t9) fun v24=>opt (loadN 2 v24 H13) fun v25=>opt (ixSlc 2 t0 t9) fun v26=>opt (storeN 2 v26 v23 H13) fun H14=>opt (ixSlc 2 t0 v20) fun v27=>opt (storeN 2 v27 v25 H14) fun H15=>opt (binInt .sub t9 t1) fun v28=>opt (binInt .geq v28 (.int .i64 2)) fun v29=>ifB v29 (
 opt (binInt .sub t9 (.int .i64 1)) fun v30=>LoopL (fun l H X1=>F.f46_l4 E Q X0 (nth l 0) (nth l 1) (nth l 2) (nth l 3) (nth l 4) (nth l 5) (nth l 6) H X1) [t0,t1,t2,t3,t9,t10,v30] H15) (
 F.f46_j1 E Q X0 t0 t1 t2 t3 t9 t10 H15))))
def F.f46_l1 (E:Sy) (Q:VK) (t0 t1 t2 t3 t9 t10:Value) (H:AH) (X0:LK):Prop :=
 opt (binInt .lss t10 (.int .i64 5)) fun v1=>ifB v1 (
 LoopL (fun l H X1=>F.f46_l2 E Q X0 (nth l 0) (nth l 1) (nth l 2) (nth l 3) (nth l 4) (nth l 5) H X1) [t0,t1,t2,t3,t9,t10] H) (
 Q (.bool false) H)
def F.f46 (E:Sy) (x0 x1 x2 x3:Value) (H:AH) (Q:VK):Prop :=
 opt (binInt .add x1 (.int .i64 1)) fun v1=>LoopL (fun l H X0=>F.f46_l1 E Q (nth l 0) (nth l 1) (nth l 2) (nth l 3) (nth l 4) (nth l 5) H X0) [x0,x1,x2,x3,v1,(.int .i64 0)] H

def F.f48_l3 (E:Sy) (Q:VK) (X0:LK) (t0 t1 t4 t11 t12:Value) (H:AH) (X1:LK):Prop :=
 opt (binInt .leq t11 t12) fun v1=>gd v1 true (fun k=>k t4 H) H fun v2 H1=>gd v1 true (fun k=>k t0 H1) H1 fun v3 H2=>gd v1 true (fun k=>k t1 H2) H2 fun v4 H3=>gd v1 true (fun k=>opt (ixSlc 2 v3 v4) fun v=>k v H3) H3 fun v5 H4=>gd v1 true (fun k=>opt (loadN 2 v5 H4) fun v=>k v H4) H4 fun v6 H5=>gd v1 true (fun k=>k t0 H5) H5 fun v7 H6=>gd v1 true (fun k=>k t12 H6) H6 fun v8 H7=>gd v1 true (fun k=>opt (ixSlc 2 v7 v8) fun v=>k v H7) H7 fun v9 H8=>gd v1 true (fun k=>opt (loadN 2 v9 H8) fun v=>k v H8) H8 fun v10 H9=>gd v1 true (fun k=>callV E.call v2 [v6,v10] H9 fun v h=>k v h) H9 fun v11 H10=>gd v1 true (fun k=>opt (binInt .lss v11 (.int .i64 0)) fun v=>k v H10) H10 fun v12 H11=>opt (pick v1 v12 (.bool false)) fun v13=>ifB v13 (
 opt (binInt .sub t12 (.int .i64 1)) fun v14=>X1 [t0,t1,t4,t11,v14] H11) (
 opt (binInt .gtr t11 t12) fun v15=>ifB v15 (
 Q t11 H11) (
 opt (ixSlc 2 t0 t12) fun v16=>opt (loadN 2 v16 H11) fun v17=>opt (ixSlc 2 t0 t11) fun v18=>opt (loadN 2 v18 H11) fun v19=>opt (ixSlc 2 t0 t11) fun v20=>opt (storeN 2 v20 v17 H11) fun H12=>opt (ixSlc 2 t0 t12) fun v21=>opt (storeN 2 v21 v19 H12) fun H13=>opt (binInt .add t11 (.int .i64 1)) fun v22=>opt (binInt .sub t12 (.int .i64 1)) fun v23=>X0 [t0,t1,t4,v22,v23] H13))
def F.f48_l2 (E:Sy) (Q:VK) (X0:LK) (t0 t1 t4 t11 t12:Value) (H:AH) (X1:LK):Prop :=
 opt (binInt .leq t11 t12) fun v1=>gd v1 true (fun k=>k t4 H) H fun v2 H1=>gd v1 true (fun k=>k t0 H1) H1 fun v3 H2=>gd v1 true (fun k=>k t1 H2) H2 fun v4 H3=>gd v1 true (fun k=>opt (ixSlc 2 v3 v4) fun v=>k v H3) H3 fun v5 H4=>gd v1 true (fun k=>opt (loadN 2 v5 H4) fun v=>k v H4) H4 fun v6 H5=>gd v1 true (fun k=>k t0 H5) H5 fun v7 H6=>gd v1 true (fun k=>k t11 H6) H6 fun v8 H7=>gd v1 true (fun k=>opt (ixSlc 2 v7 v8) fun v=>k v H7) H7 fun v9 H8=>gd v1 true (fun k=>opt (loadN 2 v9 H8) fun v=>k v H8) H8 fun v10 H9=>gd v1 true (fun k=>callV E.call v2 [v6,v10] H9 fun v h=>k v h) H9 fun v11 H10=>gd v1 true (fun k=>opt (binInt .lss v11 (.int .i64 0)) fun v=>k v H10) H10 fun v12 H11=>gd v1 true (fun k=>opt (un .not v12) fun v=>k v H11) H11 fun v13 H12=>opt (pick v1 v13 (.bool false)) fun v14=>ifB v14 (
 opt (binInt .add t11 (.int .i64 1)) fun v15=>X1 [t0,t1,t4,v15,t12] H12) (
 LoopL (fun l H X1=>F.f48_l3 E Q X0 (nth l 0) (nth l 1) (nth l 2) (nth l 3) (nth l 4) H X1) [t0,t1,t4,t11,t12] H12)
def F.f48_l1 (E:Sy) (Q:VK) (t0 t1 t4 t11 t12:Value) (H:AH) (X0:LK):Prop :=
 LoopL (fun l H X1=>F.f48_l2 E Q X0 (nth l 0) (nth l 1) (nth l 2) (nth l 3) (nth l 4) H X1) [t0,t1,t4,t11,t12] H
def F.f48 (E:Sy) (x0 x1 x2 x3 x4:Value) (H:AH) (Q:VK):Prop :=
 opt (ixSlc 2 x0 x3) fun v1=>opt (loadN 2 v1 H) fun v2=>opt (ixSlc 2 x0 x1) fun v3=>opt (loadN 2 v3 H) fun v4=>opt (ixSlc 2 x0 x1) fun v5=>opt (storeN 2 v5 v2 H) fun H1=>opt (ixSlc 2 x0 x3) fun v6=>opt (storeN 2 v6 v4 H1) fun H2=>opt (binInt .add x1 (.int .i64 1)) fun v7=>opt (binInt .sub x2 (.int .i64 1)) fun v8=>LoopL (fun l H X0=>F.f48_l1 E Q (nth l 0) (nth l 1) (nth l 2) (nth l 3) (nth l 4) H X0) [x0,x1,x4,v7,v8] H2

def F.f47_l5 (E:Sy) (Q:VK) (X0:LK) (t0 t1 t4 t12 t13:Value) (H:AH) (X1:LK):Prop :=
 opt (binInt .leq t12 t13) fun v1=>gd v1 true (fun k=>k t4 H) H fun v2 H1=>gd v1 true (fun k=>k t0 H1) H1 fun v3 H2=>gd v1 true (fun k=>k t13 H2) H2 fun v4 H3=>gd v1 true (fun k=>opt (ixSlc 2 v3 v4) fun v=>k v H3) H3 fun v5 H4=>gd v1 true (fun k=>opt (loadN 2 v5 H4) fun v=>k v H4) H4 fun v6 H5=>gd v1 true (fun k=>k t0 H5) H5 fun v7 H6=>gd v1 true (fun k=>k t1 H6) H6 fun v8 H7=>gd v1 true (fun k=>opt (ixSlc 2 v7 v8) fun v=>k v H7) H7 fun v9 H8=>gd v1 true (fun k=>opt (loadN 2 v9 H8) fun v=>k v H8) H8 fun v10 H9=>gd v1 true (fun k=>callV E.call v2 [v6,v10] H9 fun v h=>k v h) H9 fun v11 H10=>gd v1 true (fun k=>opt (binInt .lss v11 (.int .i64 0)) fun v=>k v H10) H10 fun v12 H11=>gd v1 true (fun k=>opt (un .not v12) fun v=>k v H11) H11 fun v13 H12=>opt (pick v1 v13 (.bool false)) fun v14=>ifB v14 (
 opt (binInt .sub t13 (.int .i64 1)) fun v15=>X1 [t0,t1,t4,t12,v15] H12) (
 opt (binInt .gtr t12 t13) fun v16=>ifB v16 (
 opt (ixSlc 2 t0 t1) fun v17=>opt (loadN 2 v17 H12) fun v18=>opt (ixSlc 2 t0 t13) fun v19=>opt (loadN 2 v19 H12) fun v20=>opt (ixSlc 2 t0 t13) fun v21=>opt (storeN 2 v21 v18 H12) fun H13=>opt (ixSlc 2 t0 t1) fun v22=>opt (storeN 2 v22 v20 H13) fun H14=>Q (.tuple #[t13,(.bool false)]) H14) (
 opt (ixSlc 2 t0 t13) fun v23=>opt (loadN 2 v23 H12) fun v24=>opt (ixSlc 2 t0 t12) fun v25=>opt (loadN 2 v25 H12) fun v26=>opt (ixSlc 2 t0 t12) fun v27=>opt (storeN 2 v27 v24 H12) fun H15=>opt (ixSlc 2 t0 t13) fun v28=>opt (storeN 2 v28 v26 H15) fun H16=>opt (binInt .add t12 (.int .i64 1)) fun v29=>opt (binInt .sub t13 (.int .i64 1)) fun v30=>X0 [t0,t1,t4,v29,v30] H16))
def F.f47_l4 (E:Sy) (Q:VK) (X0:LK) (t0 t1 t4 t12 t13:Value) (H:AH) (X1:LK):Prop :=
 opt (binInt .leq t12 t13) fun v1=>gd v1 true (fun k=>k t4 H) H fun v2 H1=>gd v1 true (fun k=>k t0 H1) H1 fun v3 H2=>gd v1 true (fun k=>k t12 H2) H2 fun v4 H3=>gd v1 true (fun k=>opt (ixSlc 2 v3 v4) fun v=>k v H3) H3 fun v5 H4=>gd v1 true (fun k=>opt (loadN 2 v5 H4) fun v=>k v H4) H4 fun v6 H5=>gd v1 true (fun k=>k t0 H5) H5 fun v7 H6=>gd v1 true (fun k=>k t1 H6) H6 fun v8 H7=>gd v1 true (fun k=>opt (ixSlc 2 v7 v8) fun v=>k v H7) H7 fun v9 H8=>gd v1 true (fun k=>opt (loadN 2 v9 H8) fun v=>k v H8) H8 fun v10 H9=>gd v1 true (fun k=>callV E.call v2 [v6,v10] H9 fun v h=>k v h) H9 fun v11 H10=>gd v1 true (fun k=>opt (binInt .lss v11 (.int .i64 0)) fun v=>k v H10) H10 fun v12 H11=>opt (pick v1 v12 (.bool false)) fun v13=>ifB v13 (
 opt (binInt .add t12 (.int .i64 1)) fun v14=>X1 [t0,t1,t4,v14,t13] H11) (
 LoopL (fun l H X1=>F.f47_l5 E Q X0 (nth l 0) (nth l 1) (nth l 2) (nth l 3) (nth l 4) H X1) [t0,t1,t4,t12,t13] H11)
def F.f47_l3 (E:Sy) (Q:VK) (t0 t1 t4 t12 t13:Value) (H:AH) (X0:LK):Prop :=
 LoopL (fun l H X1=>F.f47_l4 E Q X0 (nth l 0) (nth l 1) (nth l 2) (nth l 3) (nth l 4) H X1) [t0,t1,t4,t12,t13] H
def F.f47_l2 (E:Sy) (Q:VK) (t0 t1 t4 t12 t13:Value) (H:AH) (X0:LK):Prop :=
 opt (binInt .leq t12 t13) fun v1=>gd v1 true (fun k=>k t4 H) H fun v2 H1=>gd v1 true (fun k=>k t0 H1) H1 fun v3 H2=>gd v1 true (fun k=>k t13 H2) H2 fun v4 H3=>gd v1 true (fun k=>opt (ixSlc 2 v3 v4) fun v=>k v H3) H3 fun v5 H4=>gd v1 true (fun k=>opt (loadN 2 v5 H4) fun v=>k v H4) H4 fun v6 H5=>gd v1 true (fun k=>k t0 H5) H5 fun v7 H6=>gd v1 true (fun k=>k t1 H6) H6 fun v8 H7=>gd v1 true (fun k=>opt (ixSlc 2 v7 v8) fun v=>k v H7) H7 fun v9 H8=>gd v1 true (fun k=>opt (loadN 2 v9 H8) fun v=>k v H8) H8 fun v10 H9=>gd v1 true (fun k=>callV E.call v2 [v6,v10] H9 fun v h=>k v h) H9 fun v11 H10=>gd v1 true (fun k=>opt (binInt .lss v11 (.int .i64 0)) fun v=>k v H10) H10 fun v12 H11=>gd v1 true (fun k=>opt (un .not v12) fun v=>k v H11) H11 fun v13 H12=>opt (pick v1 v13 (.bool false)) fun v14=>ifB v14 (
 opt (binInt .sub t13 (.int .i64 1)) fun v15=>X0 [t0,t1,t4,t12,v15] H12) (
 opt (binInt .gtr t12 t13) fun v16=>ifB v16 (
 opt (ixSlc 2 t0 t1) fun v17=>opt (loadN 2 v17 H12) fun v18=>opt (ixSlc 2 t0 t13) fun v19=>opt (loadN 2 v19 H12) fun v20=>opt (ixSlc 2 t0 t13) fun v21=>opt (storeN 2 v21 v18 H12) fun H13=>opt (ixSlc 2 t0 t1) fun v22=>opt (storeN 2 v22 v20 H13) fun H14=>Q (.tuple #[t13,(.bool true)]) H14) (
 opt (ixSlc 2 t0 t13) fun v23=>opt (loadN 2 v23 H12) fun v24=>opt (ixSlc 2 t0 t12) fun v25=>opt (loadN 2 v25 H12) fun v26=>opt (ixSlc 2 t0 t12) fun v27=>opt (storeN 2 v27 v24 H12) fun H15=>opt (ixSlc 2 t0 t13) fun v28=>opt (storeN 2 v28 v26 H15) fun H16=>opt (binInt .add t12 (.int .i64 1)) fun v29=>opt (binInt .sub t13 (.int .i64 1)) fun v30=>LoopL (fun l H X0=>F.f47_l3 E Q (nth l 0) (nth l 1) (nth l 2) (nth l 3) (nth l 4) H X0) [t0,t1,t4,v29,v30] H16))
def F.f47_l1 (E:Sy) (Q:VK) (t0 t1 t4 t12 t13:Value) (H:AH) (X0:LK):Prop :=
 opt (binInt .leq t12 t13) fun v1=>gd v1 true (fun k=>k t4 H) H fun v2 H1=>gd v1 true (fun k=>k t0 H1) H1 fun v3 H2=>gd v1 true (fun k=>k t12 H2) H2 fun v4 H3=>gd v1 true (fun k=>opt (ixSlc 2 v3 v4) fun v=>k v H3) H3 fun v5 H4=>gd v1 true (fun k=>opt (loadN 2 v5 H4) fun v=>k v H4) H4 fun v6 H5=>gd v1 true (fun k=>k t0 H5) H5 fun v7 H6=>gd v1 true (fun k=>k t1 H6) H6 fun v8 H7=>gd v1 true (fun k=>opt (ixSlc 2 v7 v8) fun v=>k v H7) H7 fun v9 H8=>gd v1 true (fun k=>opt (loadN 2 v9 H8) fun v=>k v H8) H8 fun v10 H9=>gd v1 true (fun k=>callV E.call v2 [v6,v10] H9 fun v h=>k v h) H9 fun v11 H10=>gd v1 true (fun k=>opt (binInt .lss v11 (.int .i64 0)) fun v=>k v H10) H10 fun v12 H11=>opt (pick v1 v12 (.bool false)) fun v13=>ifB v13 (
 opt (binInt .add t12 (.int .i64 1)) fun v14=>X0 [t0,t1,t4,v14,t13] H11) (
 LoopL (fun l H X0=>F.f47_l2 E Q (nth l 0) (nth l 1) (nth l 2) (nth l 3) (nth l 4) H X0) [t0,t1,t4,t12,t13] H11)
def F.f47 (E:Sy) (x0 x1 x2 x3 x4:Value) (H:AH) (Q:VK):Prop :=
 opt (ixSlc 2 x0 x3) fun v1=>opt (loadN 2 v1 H) fun v2=>opt (ixSlc 2 x0 x1) fun v3=>opt (loadN 2 v3 H) fun v4=>opt (ixSlc 2 x0 x1) fun v5=>opt (storeN 2 v5 v2 H) fun H1=>opt (ixSlc 2 x0 x3) fun v6=>opt (storeN 2 v6 v4 H1) fun H2=>opt (binInt .add x1 (.int .i64 1)) fun v7=>opt (binInt .sub x2 (.int .i64 1)) fun v8=>LoopL (fun l H X0=>F.f47_l1 E Q (nth l 0) (nth l 1) (nth l 2) (nth l 3) (nth l 4) H X0) [x0,x1,x4,v7,v8] H2

def F.f3 (E:Sy) (x0:Value) (H:AH) (Q:VK):Prop :=
 opt (binInt .neq x0 x0) fun v1=>Q v1 H

def F.f51_l1 (E:Sy) (Q:VK) (t0 t2 t4 t10 t11:Value) (H:AH) (X0:LK):Prop :=
 opt (binInt .neq t10 t11) fun v1=>ifB v1 (
 opt (binInt .gtr t10 t11) fun v2=>ifB v2 (
 opt (binInt .sub t2 t10) fun v3=>E.call (E.fid i.f54) [t0,v3,t2,t11,t4] H fun v4 H1=>opt (binInt .sub t10 t11) fun v5=>X0 [t0,t2,t4,v5,t11] H1) (
 opt (binInt .sub t2 t10) fun v6=>opt (binInt .add t2 t11) fun v7=>opt (binInt .sub v7 t10) fun v8=>E.call (E.fid i.f54) [t0,v6,v8,t10,t4] H fun v9 H2=>opt (binInt .sub t11 t10) fun v10=>X0 [t0,t2,t4,t10,v10] H2)) (
 opt (binInt .sub t2 t10) fun v11=>E.call (E.fid i.f54) [t0,v11,t2,t10,t4] H fun v12 H3=>Q (.tuple #[]) H3)
def F.f51 (E:Sy) (x0 x1 x2 x3 x4:Value) (H:AH) (Q:VK):Prop :=
 opt (binInt .sub x2 x1) fun v1=>opt (binInt .sub x3 x2) fun v2=>LoopL (fun l H X0=>F.f51_l1 E Q (nth l 0) (nth l 1) (nth l 2) (nth l 3) (nth l 4) H X0) [x0,x2,x4,v1,v2] H

def F.f33_l1 (E:Sy) (Q:VK) (t0 t3 t7 t8:Value) (H:AH) (X0:LK):Prop :=
 opt (binInt .lss t8 t7) fun v1=>ifB v1 (
 opt (loadN 4 t3 H) fun v2=>opt (ixSlc 4 t0 t8) fun v3=>opt (loadN 4 v3 H) fun v4=>opt (binAgg [0,0,0,0] .eql v2 v4) fun v5=>ifB v5 (
 Q t8 H) (
 opt (binInt .add t8 (.int .i64 1)) fun v6=>X0 [t0,t3,t7,v6] H)) (
 Q (.int .i64 (-1)) H)
def F.f33 (E:Sy) (x0 x1:Value) (H:AH) (Q:VK):Prop :=
 mk (boxO x1) H fun v1 H1=>opt (lenSlc x0) fun v2=>LoopL (fun l H X0=>F.f33_l1 E Q (nth l 0) (nth l 1) (nth l 2) (nth l 3) H X0) [x0,v1,v2,(.int .i64 0)] H1

def F.f52_j1 (E:Sy) (Q:VK) (X0:LK) (t0 t2 t3 t4 t10 t11:Value) (H:AH):Prop :=
 opt (binInt .add t3 t10) fun v1=>opt (ixSlc 2 t0 v1) fun v2=>opt (loadN 2 v2 H) fun v3=>opt (binInt .add t3 t11) fun v4=>opt (ixSlc 2 t0 v4) fun v5=>opt (loadN 2 v5 H) fun v6=>callV E.call t4 [v3,v6] H fun v7 H1=>opt (binInt .lss v7 (.int .i64 0)) fun v8=>opt (un .not v8) fun v9=>ifB v9 (
 Q (.tuple #[]) H1) (
 opt (binInt .add t3 t10) fun v10=>opt (binInt .add t3 t11) fun v11=>opt (binInt .add t3 t11) fun v12=>opt (ixSlc 2 t0 v12) fun v13=>opt (loadN 2 v13 H1) fun v14=>opt (binInt .add t3 t10) fun v15=>opt (ixSlc 2 t0 v15) fun v16=>opt (loadN 2 v16 H1) fun v17=>opt (ixSlc 2 t0 v10) fun v18=>opt (storeN 2 v18 v14 H1) fun H2=>opt (ixSlc 2 t0 v11) fun v19=>opt (storeN 2 v19 v17 H2) fun H3=>X0 [t0,t2,t3,t4,t11] H3)
def F.f52_l1 (E:Sy) (Q:VK) (t0 t2 t3 t4 t10:Value) (H:AH) (X0:LK):Prop :=
 opt (binInt .mul (.int .i64 2) t10) fun v1=>opt (binInt .add v1 (.int .i64 1)) fun v2=>opt (binInt .geq v2 t2) fun v3=>ifB v3 (
 Q (.tuple #[]) H) (
 opt (binInt .add v2 (.int .i64 1)) fun v4=>opt (binInt .lss v4 t2) fun v5=>gd v5 true (fun k=>k t4 H) H fun v6 H1=>gd v5 true (fun k=>k t0 H1) H1 fun v7 H2=>gd v5 true (fun k=>k t3 H2) H2 fun v8 H3=>gd v5 true (fun k=>k v2 H3) H3 fun v9 H4=>gd v5 true (fun k=>opt (binInt .add v8 v9) fun v=>k v H4) H4 fun v10 H5=>gd v5 true (fun k=>opt (ixSlc 2 v7 v10) fun v=>k v H5) H5 fun v11 H6=>gd v5 true (fun k=>opt (loadN 2 v11 H6) fun v=>k v H6) H6 fun v12 H7=>gd v5 true (fun k=>k t0 H7) H7 fun v13 H8=>gd v5 true (fun k=>k t3 H8) H8 fun v14 H9=>gd v5 true (fun k=>k v2 H9) H9 fun v15 H10=>gd v5 true (fun k=>opt (binInt .add v14 v15) fun v=>k v H10) H10 fun v16 H11=>gd v5 true (fun k=>opt (binInt .add v16 (.int .i64 1)) fun v=>k v H11) H11 fun v17 H12=>gd v5 true (fun k=>opt (ixSlc 2 v13 v17) fun v=>k v H12) H12 fun v18 H13=>gd v5 true (fun k=>opt (loadN 2 v18 H13) fun v=>k v H13) H13 fun v19 H14=>gd v5 true (fun k=>callV E.call v6 [v12,v19] H14 fun v h=>k v h) H14 fun v20 H15=>gd v5 true (fun k=>opt (binInt .lss v20 (.int .i64 0)) fun v=>k v H15) H15 fun v21 H16=>opt (pick v5 v21 (.bool false)) fun v22=>ifB v22 (
 opt (binInt .add v2 (.int .i64 1)) fun v23=>F.f52_j1 E Q X0 t0 t2 t3 t4 t10 v23 H16) (
 F.f52_j1 E Q X0 t0 t2 t3 t4 t10 v2 H16))
def F.f52 (E:Sy) (x0 x1 x2 x3 x4:Value) (H:AH) (Q:VK):Prop :=
 LoopL (fun l H X0=>F.f52_l1 E Q (nth l 0) (nth l 1) (nth l 2) (nth l 3) (nth l 4) H X0) [x0,x2,x3,x4,x1] H

def F.f44 (E:Sy) (x0:Value) (H:AH) (Q:VK):Prop :=
 opt (convInt .u64 x0) fun v1=>E.call (E.fid i.f13) [v1] H fun v2 H1=>opt (binInt .shl (.int .u64 1) v2) fun v3=>Q v3 H1

def F.f56 (E:Sy) (x0:Value) (H:AH) (Q:VK):Prop :=
 opt (nilCk x0) fun v1=>opt (load1 v1 H) fun v2=>opt (nilCk x0) fun v3=>opt (load1 v3 H) fun v4=>opt (binInt .shl v4 (.int .u64 13)) fun v5=>opt (binInt .xor v2 v5) fun v6=>opt (nilCk x0) fun v7=>opt (store1 v7 v6 H) fun H1=>opt (nilCk x0) fun v8=>opt (load1 v8 H1) fun v9=>opt (nilCk x0) fun v10=>opt (load1 v10 H1) fun v11=>opt (binInt .shr v11 (.int .u64 7)) fun v12=>opt (binInt .xor v9 v12) fun v13=>opt (nilCk x0) fun v14=>opt (store1 v14 v13 H1) fun H2=>opt (nilCk x0) fun v15=>opt (load1 v15 H2) fun v16=>opt (nilCk x0) fun v17=>opt (load1 v17 H2) fun v18=>opt (binInt .shl v18 (.int .u64 17)) fun v19=>opt (binInt .xor v16 v19) fun v20=>opt (nilCk x0) fun v21=>opt (store1 v21 v20 H2) fun H3=>opt (nilCk x0) fun v22=>opt (load1 v22 H3) fun v23=>Q v23 H3

def F.f42 (E:Sy) (x0 x1 x2 x3:Value) (H:AH) (Q:VK):Prop :=
 opt (binInt .sub x1 (.int .i64 1)) fun v1=>opt (binInt .add x1 (.int .i64 1)) fun v2=>E.call (E.fid i.f43) [x0,v1,x1,v2,x2,x3] H fun v3 H1=>Q v3 H1

def F.f43 (E:Sy) (x0 x1 x2 x3 x4 x5:Value) (H:AH) (Q:VK):Prop :=
 E.call (E.fid i.f45) [x0,x1,x2,x4,x5] H fun v1 H1=>opt (ext v1 0) fun v2=>opt (ext v1 1) fun v3=>E.call (E.fid i.f45) [x0,v3,x3,x4,x5] H1 fun v4 H2=>opt (ext v4 0) fun v5=>opt (ext v4 1) fun v6=>E.call (E.fid i.f45) [x0,v2,v5,x4,x5] H2 fun v7 H3=>opt (ext v7 0) fun v8=>opt (ext v7 1) fun v9=>Q v9 H3

def F.f54_l1 (E:Sy) (Q:VK) (t0 t1 t2 t3 t10:Value) (H:AH) (X0:LK):Prop :=
 opt (binInt .lss t10 t3) fun v1=>ifB v1 (
 opt (binInt .add t1 t10) fun v2=>opt (binInt .add t2 t10) fun v3=>opt (binInt .add t2 t10) fun v4=>opt (ixSlc 3 t0 v4) fun v5=>opt (loadN 3 v5 H) fun v6=>opt (binInt .add t1 t10) fun v7=>opt (ixSlc 3 t0 v7) fun v8=>opt (loadN 3 v8 H) fun v9=>opt (ixSlc 3 t0 v2) fun v10=>opt (storeN 3 v10 v6 H) fun H1=>opt (ixSlc 3 t0 v3) fun v11=>opt (storeN 3 v11 v9 H1) fun H2=>opt (binInt .add t10 (.int .i64 1)) fun v12=>X0 [t0,t1,t2,t3,v12] H2) (
 Q (.tuple #[]) H)
def F.f54 (E:Sy) (x0 x1 x2 x3 x4:Value) (H:AH) (Q:VK):Prop :=
 LoopL (fun l H X0=>F.f54_l1 E Q (nth l 0) (nth l 1) (nth l 2) (nth l 3) (nth l 4) H X0) [x0,x1,x2,x3,(.int .i64 0)] H

def F.f45 (E:Sy) (x0 x1 x2 x3 x4:Value) (H:AH) (Q:VK):Prop :=
 opt (ixSlc 2 x0 x2) fun v1=>opt (loadN 2 v1 H) fun v2=>opt (ixSlc 2 x0 x1) fun v3=>opt (loadN 2 v3 H) fun v4=>callV E.call x4 [v2,v4] H fun v5 H1=>opt (binInt .lss v5 (.int .i64 0)) fun v6=>ifB v6 (
 opt (nilCk x3) fun v7=>opt (load1 v7 H1) fun v8=>opt (binInt .add v8 (.int .i64 1)) fun v9=>opt (nilCk x3) fun v10=>opt (store1 v10 v9 H1) fun H2=>Q (.tuple #[x2,x1]) H2) (
 Q (.tuple #[x1,x2]) H1)
structure Fold (E:Sy):Prop where
  mono:MonoC E.call
  f24:∀ x0 x1 H Q,F.f24 E x0 x1 H Q->E.call (E.fid i.f24) [x0,x1] H Q
  f23:∀ H Q,F.f23 E H Q->E.call (E.fid i.f23) [] H Q
  f19:∀ x0 H Q,F.f19 E x0 H Q->E.call (E.fid i.f19) [x0] H Q
  f20:∀ x0 H Q,F.f20 E x0 H Q->E.call (E.fid i.f20) [x0] H Q
  f4:∀ x0 H Q,F.f4 E x0 H Q->E.call (E.fid i.f4) [x0] H Q
  f29:∀ x0 H Q,F.f29 E x0 H Q->E.call (E.fid i.f29) [x0] H Q
  f26:∀ x0 H Q,F.f26 E x0 H Q->E.call (E.fid i.f26) [x0] H Q
  f25:∀ x0 H Q,F.f25 E x0 H Q->E.call (E.fid i.f25) [x0] H Q
  f7:∀ x0 H Q,F.f7 E x0 H Q->E.call (E.fid i.f7) [x0] H Q
  f28:∀ H Q,F.f28 E H Q->E.call (E.fid i.f28) [] H Q
  f16:∀ x0 x1 H Q,F.f16 E x0 x1 H Q->E.call (E.fid i.f16) [x0,x1] H Q
  f17:∀ x0 H Q,F.f17 E x0 H Q->E.call (E.fid i.f17) [x0] H Q
  f21:∀ x0 x1 x2 x3 H Q,F.f21 E x0 x1 x2 x3 H Q->E.call (E.fid i.f21) [x0,x1,x2,x3] H Q
  f18:∀ H Q,F.f18 E H Q->E.call (E.fid i.f18) [] H Q
  f36:∀ x0 x1 H Q,F.f36 E x0 x1 H Q->E.call (E.fid i.f36) [x0,x1] H Q
  f5:∀ x0 x1 H Q,F.f5 E x0 x1 H Q->E.call (E.fid i.f5) [x0,x1] H Q
  f9:∀ x0 H Q,F.f9 E x0 H Q->E.call (E.fid i.f9) [x0] H Q
  f35:∀ x0 x1 H Q,F.f35 E x0 x1 H Q->E.call (E.fid i.f35) [x0,x1] H Q
  f6:∀ x0 x1 H Q,F.f6 E x0 x1 H Q->E.call (E.fid i.f6) [x0,x1] H Q
  f27:∀ x0 H Q,F.f27 E x0 H Q->E.call (E.fid i.f27) [x0] H Q
  f31:∀ x0 H Q,F.f31 E x0 H Q->E.call (E.fid i.f31) [x0] H Q
  f22:∀ H Q,F.f22 E H Q->E.call (E.fid i.f22) [] H Q
  f53:∀ x0 x1 x2 H Q,F.f53 E x0 x1 x2 H Q->E.call (E.fid i.f53) [x0,x1,x2] H Q
  f11:∀ x0 H Q,F.f11 E x0 H Q->E.call (E.fid i.f11) [x0] H Q
  f0:∀ x0 x1 H Q,F.f0 E x0 x1 H Q->E.call (E.fid i.f0) [x0,x1] H Q
  f12:∀ x0 H Q,F.f12 E x0 H Q->E.call (E.fid i.f12) [x0] H Q
  f10:∀ x0 H Q,F.f10 E x0 H Q->E.call (E.fid i.f10) [x0] H Q
  f13:∀ x0 H Q,F.f13 E x0 H Q->E.call (E.fid i.f13) [x0] H Q
  f49:∀ x0 x1 x2 x3 x4 H Q,F.f49 E x0 x1 x2 x3 x4 H Q->E.call (E.fid i.f49) [x0,x1,x2,x3,x4] H Q
  f1:∀ x0 x1 H Q,F.f1 E x0 x1 H Q->E.call (E.fid i.f1) [x0,x1] H Q
  f41:∀ x0 x1 x2 x3 H Q,F.f41 E x0 x1 x2 x3 H Q->E.call (E.fid i.f41) [x0,x1,x2,x3] H Q
  f55:∀ x0 x1 x2 x3 x4 H Q,F.f55 E x0 x1 x2 x3 x4 H Q->E.call (E.fid i.f55) [x0,x1,x2,x3,x4] H Q
  f30:∀ x0 H Q,F.f30 E x0 H Q->E.call (E.fid i.f30) [x0] H Q
  f34:∀ x0 x1 H Q,F.f34 E x0 x1 H Q->E.call (E.fid i.f34) [x0,x1] H Q
  f2:∀ x0 H Q,F.f2 E x0 H Q->E.call (E.fid i.f2) [x0] H Q
  f8:∀ x0 H Q,F.f8 E x0 H Q->E.call (E.fid i.f8) [x0] H Q
  f32:∀ x0 x1 H Q,F.f32 E x0 x1 H Q->E.call (E.fid i.f32) [x0,x1] H Q
  f15:∀ x0 H Q,F.f15 E x0 H Q->E.call (E.fid i.f15) [x0] H Q
  f40:∀ x0 x1 x2 x3 H Q,F.f40 E x0 x1 x2 x3 H Q->E.call (E.fid i.f40) [x0,x1,x2,x3] H Q
  f39:∀ x0 x1 x2 x3 H Q,F.f39 E x0 x1 x2 x3 H Q->E.call (E.fid i.f39) [x0,x1,x2,x3] H Q
  f37:∀ x0 x1 x2 x3 H Q,F.f37 E x0 x1 x2 x3 H Q->E.call (E.fid i.f37) [x0,x1,x2,x3] H Q
  f38:∀ x0 x1 x2 x3 H Q,F.f38 E x0 x1 x2 x3 H Q->E.call (E.fid i.f38) [x0,x1,x2,x3] H Q
  f50:∀ x0 x1 x2 x3 H Q,F.f50 E x0 x1 x2 x3 H Q->E.call (E.fid i.f50) [x0,x1,x2,x3] H Q
  f46:∀ x0 x1 x2 x3 H Q,F.f46 E x0 x1 x2 x3 H Q->E.call (E.fid i.f46) [x0,x1,x2,x3] H Q
  f48:∀ x0 x1 x2 x3 x4 H Q,F.f48 E x0 x1 x2 x3 x4 H Q->E.call (E.fid i.f48) [x0,x1,x2,x3,x4] H Q
  f47:∀ x0 x1 x2 x3 x4 H Q,F.f47 E x0 x1 x2 x3 x4 H Q->E.call (E.fid i.f47) [x0,x1,x2,x3,x4] H Q
  f3:∀ x0 H Q,F.f3 E x0 H Q->E.call (E.fid i.f3) [x0] H Q
  f51:∀ x0 x1 x2 x3 x4 H Q,F.f51 E x0 x1 x2 x3 x4 H Q->E.call (E.fid i.f51) [x0,x1,x2,x3,x4] H Q
  f33:∀ x0 x1 H Q,F.f33 E x0 x1 H Q->E.call (E.fid i.f33) [x0,x1] H Q
  f52:∀ x0 x1 x2 x3 x4 H Q,F.f52 E x0 x1 x2 x3 x4 H Q->E.call (E.fid i.f52) [x0,x1,x2,x3,x4] H Q
  f44:∀ x0 H Q,F.f44 E x0 H Q->E.call (E.fid i.f44) [x0] H Q
  f56:∀ x0 H Q,F.f56 E x0 H Q->E.call (E.fid i.f56) [x0] H Q
  f42:∀ x0 x1 x2 x3 H Q,F.f42 E x0 x1 x2 x3 H Q->E.call (E.fid i.f42) [x0,x1,x2,x3] H Q
  f43:∀ x0 x1 x2 x3 x4 x5 H Q,F.f43 E x0 x1 x2 x3 x4 x5 H Q->E.call (E.fid i.f43) [x0,x1,x2,x3,x4,x5] H Q
  f54:∀ x0 x1 x2 x3 x4 H Q,F.f54 E x0 x1 x2 x3 x4 H Q->E.call (E.fid i.f54) [x0,x1,x2,x3,x4] H Q
  f45:∀ x0 x1 x2 x3 x4 H Q,F.f45 E x0 x1 x2 x3 x4 H Q->E.call (E.fid i.f45) [x0,x1,x2,x3,x4] H Q
end Go.AM
