/- THE FUNCTIONS, AS THE ABSTRACT MACHINE SEES THEM: written by program (gen2.py). -/
import Derived.Test.YtcodjlonfgiegaaGreatDoorCbd9fA1
set_option linter.all false
set_option linter.unusedVariables false
namespace Go.AM
abbrev LK:=List Value->AH->Prop
abbrev VK:=Value->AH->Prop
def i.f17:Nat:=2
def i.f15:Nat:=4
def i.f80:Nat:=9
def i.f18:Nat:=10
def i.f81:Nat:=12
def i.f20:Nat:=19
def i.f21:Nat:=20
def i.f19:Nat:=21
def i.f16:Nat:=22
def i.f83:Nat:=31
def i.f84:Nat:=34
def i.f85:Nat:=35
def i.f86:Nat:=37
def i.f82:Nat:=39
def i.f66:Nat:=42
def i.f67:Nat:=43
def i.f60:Nat:=49
def i.f64:Nat:=54
def i.f72:Nat:=60
def i.f63:Nat:=61
def i.f68:Nat:=62
def i.f65:Nat:=63
def i.f69:Nat:=65
def i.f107:Nat:=132
def i.f106:Nat:=154
def i.f57:Nat:=157
def i.f58:Nat:=164
def i.f59:Nat:=165
def i.f70:Nat:=341
def i.f61:Nat:=342
def i.f12:Nat:=343
def i.f109:Nat:=344
def i.f22:Nat:=346
def i.f49:Nat:=347
def i.f14:Nat:=348
def i.f39:Nat:=349
def i.f110:Nat:=350
def i.f71:Nat:=351
def i.f11:Nat:=352
def i.f10:Nat:=353
def i.f13:Nat:=355
def i.f74:Nat:=357
def i.f108:Nat:=358
def i.f0:Nat:=359
def i.f115:Nat:=360
def i.f23:Nat:=361
def i.f93:Nat:=362
def i.f28:Nat:=363
def i.f24:Nat:=364
def i.f92:Nat:=365
def i.f50:Nat:=366
def i.f35:Nat:=367
def i.f37:Nat:=368
def i.f34:Nat:=369
def i.f33:Nat:=370
def i.f52:Nat:=371
def i.f51:Nat:=372
def i.f54:Nat:=373
def i.f36:Nat:=374
def i.f46:Nat:=375
def i.f25:Nat:=376
def i.f40:Nat:=377
def i.f62:Nat:=378
def i.f79:Nat:=379
def i.f87:Nat:=380
def i.f78:Nat:=381
def i.f76:Nat:=382
def i.f77:Nat:=383
def i.f3:Nat:=384
def i.f1:Nat:=385
def i.f2:Nat:=386
def i.f112:Nat:=387
def i.f114:Nat:=388
def i.f111:Nat:=389
def i.f104:Nat:=390
def i.f30:Nat:=391
def i.f6:Nat:=392
def i.f31:Nat:=393
def i.f29:Nat:=394
def i.f102:Nat:=395
def i.f7:Nat:=396
def i.f38:Nat:=397
def i.f32:Nat:=398
def i.f53:Nat:=399
def i.f43:Nat:=400
def i.f45:Nat:=401
def i.f44:Nat:=402
def i.f26:Nat:=403
def i.f88:Nat:=404
def i.f47:Nat:=405
def i.f73:Nat:=408
def i.f75:Nat:=409
def i.f4:Nat:=410
def i.f5:Nat:=411
def i.f113:Nat:=412
def i.f98:Nat:=413
def i.f105:Nat:=414
def i.f91:Nat:=415
def i.f8:Nat:=416
def i.f27:Nat:=417
def i.f89:Nat:=418
def i.f97:Nat:=419
def i.f96:Nat:=420
def i.f95:Nat:=421
def i.f101:Nat:=422
def i.f100:Nat:=423
def i.f99:Nat:=424
def i.f103:Nat:=425
def i.f94:Nat:=426
def i.f9:Nat:=427
def i.f56:Nat:=428
def i.f55:Nat:=429
def i.f48:Nat:=430
def i.f41:Nat:=431
def i.f42:Nat:=432
def i.f90:Nat:=436
def F.f71_l5 (E:Sy) (Q:VK) (X0 X1 X2:LK) (t7 t8 t11 t15 t32 t33 t34 t41 t42 t43 t88 t89 t90 t117 t118 t119:Value) (H:AH) (X3:LK):Prop :=
 opt (binInt .lss t119 t118) fun v1=>ifB v1 (
 opt (ixSlc 1 t117 t119) fun v2=>opt (load1 v2 H) fun v3=>opt (loadN 9 t11 H) fun v4=>allocW [(.int .u32 0),(.int .u32 0),(.int .u64 0),(.int .u64 0),(.int .u64 0),(.int .u64 0),(.int .u64 0),(.int .u64 0),(.int .u64 0)] H fun v5 H1=>opt (storeN 9 v5 v4 H1) fun H2=>opt (addOff t15 0) fun v6=>opt (load1 v6 H2) fun v7=>opt (addOff v5 3) fun v8=>opt (ixArr 6 1 v8 v7) fun v9=>opt (store1 v9 v3 H2) fun H3=>opt (lenSlc t7) fun v10=>opt (binInt .leq v10 t8) fun v11=>gd v11 false (fun k=>k t7 H3) H3 fun v12 H4=>gd v11 false (fun k=>k t8 H4) H4 fun v13 H5=>gd v11 false (fun k=>opt (ixSlc 9 v12 v13) fun v=>k v H5) H5 fun v14 H6=>gd v11 false (fun k=>opt (loadN 9 v14 H6) fun v=>k v H6) H6 fun v15 H7=>gd v11 false (fun k=>opt (loadN 9 v5 H7) fun v=>k v H7) H7 fun v16 H8=>gd v11 false (fun k=>opt (binAgg (List.replicate 9 0) .neq v15 v16) fun v=>k v H8) H8 fun v17 H9=>opt (pick v11 (.bool true) v17) fun v18=>ifB v18 (
 Q (.bool false) H9) (
 opt (binInt .add t8 (.int .i64 1)) fun v19=>opt (binInt .add t119 (.int .i64 1)) fun v20=>X3 [t7,v19,t11,t15,t32,t33,t34,t41,t42,t43,t88,t89,t90,t117,t118,v20] H9)) (
 opt (binInt .add t90 (.int .i64 1)) fun v21=>X2 [t7,t8,t11,t32,t33,t34,t41,t42,t43,t88,t89,v21] H)
def F.f71_l4 (E:Sy) (Q:VK) (X0 X1:LK) (t7 t8 t11 t32 t33 t34 t41 t42 t43 t88 t89 t90:Value) (H:AH) (X2:LK):Prop :=
 opt (binInt .lss t90 t89) fun v1=>ifB v1 (
 opt (ixSlc 4 t88 t90) fun v2=>opt (loadN 4 v2 H) fun v3=>allocW [(.int .i64 0),(.int .u8 0),(.int .u64 0),(.int .u64 0)] H fun v4 H1=>opt (storeN 4 v4 v3 H1) fun H2=>opt (addOff v4 0) fun v5=>opt (load1 v5 H2) fun v6=>opt (binInt .lss v6 (.int .i64 0)) fun v7=>gd v7 false (fun k=>opt (addOff v4 0) fun v=>k v H2) H2 fun v8 H3=>gd v7 false (fun k=>opt (load1 v8 H3) fun v=>k v H3) H3 fun v9 H4=>gd v7 false (fun k=>opt (binInt .gtr v9 (.int .i64 5)) fun v=>k v H4) H4 fun v10 H5=>opt (pick v7 (.bool true) v10) fun v11=>ifB v11 (
 opt (binInt .add t90 (.int .i64 1)) fun v12=>X2 [t7,t8,t11,t32,t33,t34,t41,t42,t43,t88,t89,v12] H5) (
 opt (addOff v4 3) fun v13=>opt (load1 v13 H5) fun v14=>opt (binInt .sub v14 (.int .u64 1)) fun v15=>opt (addOff v4 3) fun v16=>opt (load1 v16 H5) fun v17=>opt (binInt .add v17 (.int .u64 1)) fun v18=>opt (addOff v4 3) fun v19=>opt (load1 v19 H5) fun v20=>opt (binInt .xor v20 (.int .u64 4294967296)) fun v21=>opt (addOff v4 3) fun v22=>opt (load1 v22 H5) fun v23=>opt (addOff v4 2) fun v24=>opt (load1 v24 H5) fun v25=>opt (un .xor v25) fun v26=>opt (binInt .or v23 v26) fun v27=>mk (buildS 5 1 #[(.int .u64 0)] [(0,v15),(1,v18),(2,v21),(3,v27),(4,(.int .u64 0))]) H5 fun v28 H6=>opt (lenSlc v28) fun v29=>LoopL (fun l H X3=>F.f71_l5 E Q X0 X1 X2 (nth l 0) (nth l 1) (nth l 2) (nth l 3) (nth l 4) (nth l 5) (nth l 6) (nth l 7) (nth l 8) (nth l 9) (nth l 10) (nth l 11) (nth l 12) (nth l 13) (nth l 14) (nth l 15) H X3) [t7,t8,t11,v4,t32,t33,t34,t41,t42,t43,t88,t89,t90,v28,v29,(.int .i64 0)] H6)) (
 opt (binInt .add t43 (.int .i64 1)) fun v30=>X1 [t7,t8,t32,t33,t34,t41,t42,v30] H)
def F.f71_l3 (E:Sy) (Q:VK) (X0 X1:LK) (t7 t8 t10 t11 t32 t33 t34 t41 t42 t43 t53 t54 t55:Value) (H:AH) (X2:LK):Prop :=
 opt (binInt .lss t55 t54) fun v1=>ifB v1 (
 opt (ixSlc 4 t53 t55) fun v2=>opt (loadN 4 v2 H) fun v3=>allocW [(.int .i64 0),(.int .u8 0),(.int .u64 0),(.int .u64 0)] H fun v4 H1=>opt (storeN 4 v4 v3 H1) fun H2=>opt (addOff v4 0) fun v5=>opt (load1 v5 H2) fun v6=>opt (binInt .geq v6 (.int .i64 0)) fun v7=>gd v7 true (fun k=>opt (addOff v4 0) fun v=>k v H2) H2 fun v8 H3=>gd v7 true (fun k=>opt (load1 v8 H3) fun v=>k v H3) H3 fun v9 H4=>gd v7 true (fun k=>opt (binInt .leq v9 (.int .i64 5)) fun v=>k v H4) H4 fun v10 H5=>opt (pick v7 v10 (.bool false)) fun v11=>ifB v11 (
 opt (addOff v4 0) fun v12=>opt (load1 v12 H5) fun v13=>opt (addOff v4 3) fun v14=>opt (load1 v14 H5) fun v15=>opt (addOff t11 3) fun v16=>opt (ixArr 6 1 v16 v13) fun v17=>opt (store1 v17 v15 H5) fun H6=>opt (binInt .add t55 (.int .i64 1)) fun v18=>X2 [t7,t8,t10,t11,t32,t33,t34,t41,t42,t43,t53,t54,v18] H6) (
 opt (binInt .add t55 (.int .i64 1)) fun v19=>X2 [t7,t8,t10,t11,t32,t33,t34,t41,t42,t43,t53,t54,v19] H5)) (
 opt (lenSlc t7) fun v20=>opt (binInt .lss v20 t8) fun v21=>gd v21 false (fun k=>k t7 H) H fun v22 H7=>gd v21 false (fun k=>k t8 H7) H7 fun v23 H8=>gd v21 false (fun k=>opt (binInt .sub v23 (.int .i64 1)) fun v=>k v H8) H8 fun v24 H9=>gd v21 false (fun k=>opt (ixSlc 9 v22 v24) fun v=>k v H9) H9 fun v25 H10=>gd v21 false (fun k=>opt (loadN 9 v25 H10) fun v=>k v H10) H10 fun v26 H11=>gd v21 false (fun k=>opt (loadN 9 t11 H11) fun v=>k v H11) H11 fun v27 H12=>gd v21 false (fun k=>opt (binAgg (List.replicate 9 0) .neq v26 v27) fun v=>k v H12) H12 fun v28 H13=>opt (pick v21 (.bool true) v28) fun v29=>ifB v29 (
 Q (.bool false) H13) (
 opt (addOff t10 2) fun v30=>opt (load1 v30 H13) fun v31=>opt (lenSlc v31) fun v32=>LoopL (fun l H X2=>F.f71_l4 E Q X0 X1 (nth l 0) (nth l 1) (nth l 2) (nth l 3) (nth l 4) (nth l 5) (nth l 6) (nth l 7) (nth l 8) (nth l 9) (nth l 10) (nth l 11) H X2) [t7,t8,t11,t32,t33,t34,t41,t42,t43,v31,v32,(.int .i64 0)] H13))
def F.f71_l2 (E:Sy) (Q:VK) (X0:LK) (t7 t8 t32 t33 t34 t41 t42 t43:Value) (H:AH) (X1:LK):Prop :=
 opt (binInt .lss t43 t42) fun v1=>ifB v1 (
 opt (ixSlc 3 t41 t43) fun v2=>opt (loadN 3 v2 H) fun v3=>allocW [(.int .u32 0),(.int .u32 0),(.slice none 0 0)] H fun v4 H1=>opt (storeN 3 v4 v3 H1) fun H2=>opt (binInt .add t8 (.int .i64 1)) fun v5=>opt (addOff v4 0) fun v6=>opt (load1 v6 H2) fun v7=>opt (buildV [(0,1),(1,1),(2,1),(3,6)] #[(.int .u32 0),(.int .u32 0),(.int .u64 0),(.int .u64 0),(.int .u64 0),(.int .u64 0),(.int .u64 0),(.int .u64 0),(.int .u64 0)] [(0,v7),(1,(.int .u32 3221225534))]) fun v8=>allocW [(.int .u32 0),(.int .u32 0),(.int .u64 0),(.int .u64 0),(.int .u64 0),(.int .u64 0),(.int .u64 0),(.int .u64 0),(.int .u64 0)] H2 fun v9 H3=>opt (storeN 9 v9 v8 H3) fun H4=>opt (addOff v4 2) fun v10=>opt (load1 v10 H4) fun v11=>opt (lenSlc v11) fun v12=>LoopL (fun l H X2=>F.f71_l3 E Q X0 X1 (nth l 0) (nth l 1) (nth l 2) (nth l 3) (nth l 4) (nth l 5) (nth l 6) (nth l 7) (nth l 8) (nth l 9) (nth l 10) (nth l 11) (nth l 12) H X2) [t7,v5,v4,v9,t32,t33,t34,t41,t42,t43,v11,v12,(.int .i64 0)] H4) (
 opt (lenSlc t7) fun v13=>opt (binInt .neq v13 t8) fun v14=>gd v14 false (fun k=>k t7 H) H fun v15 H5=>gd v14 false (fun k=>opt (ixSlc 9 v15 (.int .i64 0)) fun v=>k v H5) H5 fun v16 H6=>gd v14 false (fun k=>opt (loadN 9 v16 H6) fun v=>k v H6) H6 fun v17 H7=>gd v14 false (fun k=>opt (buildV [(0,1),(1,1),(2,1),(3,6)] #[(.int .u32 0),(.int .u32 0),(.int .u64 0),(.int .u64 0),(.int .u64 0),(.int .u64 0),(.int .u64 0),(.int .u64 0),(.int .u64 0)] [(1,(.int .u32 3221225534))]) fun v=>k v H7) H7 fun v18 H8=>gd v14 false (fun k=>opt (binAgg (List.replicate 9 0) .neq v17 v18) fun v=>k v H8) H8 fun v19 H9=>opt (pick v14 (.bool true) v19) fun v20=>gd v20 false (fun k=>k t7 H9) H9 fun v21 H10=>gd v20 false (fun k=>opt (ixSlc 9 v21 (.int .i64 1)) fun v=>k v H10) H10 fun v22 H11=>gd v20 false (fun k=>opt (loadN 9 v22 H11) fun v=>k v H11) H11 fun v23 H12=>gd v20 false (fun k=>opt (buildV [(0,1),(1,1),(2,1),(3,6)] #[(.int .u32 0),(.int .u32 0),(.int .u64 0),(.int .u64 0),(.int .u64 0),(.int .u64 0),(.int .u64 0),(.int .u64 0),(.int .u64 0)] [(1,(.int .u32 3221225535))]) fun v=>k v H12) H12 fun v24 H13=>gd v20 false (fun k=>opt (binAgg (List.replicate 9 0) .neq v23 v24) fun v=>k v H13) H13 fun v25 H14=>opt (pick v20 (.bool true) v25) fun v26=>ifB v26 (
 Q (.bool false) H14) (
 opt (binInt .add t34 (.int .i64 1)) fun v27=>X0 [t32,t33,v27] H14))
def F.f71_l1 (E:Sy) (Q:VK) (t32 t33 t34:Value) (H:AH) (X0:LK):Prop :=
 opt (binInt .lss t34 t33) fun v1=>ifB v1 (
 opt (ixSlc 6 t32 t34) fun v2=>opt (loadN 6 v2 H) fun v3=>allocW [(.string ⟨#[]⟩),(.int .u32 0),(.slice none 0 0),(.int .u16 0),(.slice none 0 0),(.slice none 0 0)] H fun v4 H1=>opt (storeN 6 v4 v3 H1) fun H2=>opt (loadN 6 v4 H2) fun v5=>E.call (E.fid i.f11) [v5] H2 fun v6 H3=>opt (addOff v4 2) fun v7=>opt (load1 v7 H3) fun v8=>opt (lenSlc v8) fun v9=>LoopL (fun l H X1=>F.f71_l2 E Q X0 (nth l 0) (nth l 1) (nth l 2) (nth l 3) (nth l 4) (nth l 5) (nth l 6) (nth l 7) H X1) [v6,(.int .i64 2),t32,t33,t34,v8,v9,(.int .i64 0)] H3) (
 E.call (E.fid i.f20) [(.int .u32 2147221504)] H fun v10 H4=>mk (buildS 1 4 #[(.int .u16 0),(.int .u8 0),(.int .u8 0),(.int .u32 0)] [(0,v10)]) H4 fun v11 H5=>E.call (E.fid i.f110) [v11] H5 fun v12 H6=>opt (ext v12 0) fun v13=>opt (ext v12 1) fun v14=>allocW [(.int .i64 0),(.int .i64 0)] H6 fun v15 H7=>opt (storeN 2 v15 v14 H7) fun H8=>opt (buildV [(0,1),(1,1),(2,1),(3,1),(4,1),(5,1)] #[(.string ⟨#[]⟩),(.int .u32 0),(.slice none 0 0),(.int .u16 0),(.slice none 0 0),(.slice none 0 0)] [(1,(.int .u32 2147221504))]) fun v16=>allocW [(.string ⟨#[]⟩),(.int .u32 0),(.slice none 0 0),(.int .u16 0),(.slice none 0 0),(.slice none 0 0)] H8 fun v17 H9=>opt (storeN 6 v17 v16 H9) fun H10=>opt (loadN 6 v17 H10) fun v18=>opt (loadN 6 v17 H10) fun v19=>allocW [(.int .u32 0),(.int .u32 0),(.int .u64 0),(.int .u64 0),(.int .u64 0),(.int .u64 0),(.int .u64 0),(.int .u64 0),(.int .u64 0)] H10 fun v20 H11=>E.call (E.fid i.f11) [v19] H11 fun v21 H12=>H12.get H10.next=H11.get H10.next /\
 loadN 6 v17 H12=loadN 6 v17 H10 /\
 E.call (E.fid i.f10) [v18,v13,v21] H12 fun v22 H13=>H13.get H10.next=H11.get H10.next /\
 opt (ext v22 0) fun v23=>opt (ext v22 1) fun v24=>opt (storeN 9 v20 v23 H13) fun H14=>gd v24 true (fun k=>opt (loadN 9 v20 H14) fun v=>k v H14) H14 fun v25 H15=>gd v24 true (fun k=>opt (buildV [(0,1),(1,1),(2,1),(3,6)] #[(.int .u32 0),(.int .u32 0),(.int .u64 0),(.int .u64 0),(.int .u64 0),(.int .u64 0),(.int .u64 0),(.int .u64 0),(.int .u64 0)] [(1,(.int .u32 3221225535))]) fun v=>k v H15) H15 fun v26 H16=>gd v24 true (fun k=>opt (binAgg (List.replicate 9 0) .eql v25 v26) fun v=>k v H16) H16 fun v27 H17=>opt (pick v24 v27 (.bool false)) fun v28=>Q v28 H17)
def F.f71 (E:Sy) (x0 x1:Value) (H:AH) (Q:VK):Prop :=
 mk (boxO x0) H fun v1 H1=>mk (boxO x1) H1 fun v2 H2=>E.call (E.fid i.f70) [] H2 fun v3 H3=>opt (un .not v3) fun v4=>ifB v4 (
 Q (.bool false) H3) (
 opt (loadN 6 v1 H3) fun v5=>E.call (E.fid i.f66) [v5] H3 fun v6 H4=>opt (un .not v6) fun v7=>ifB v7 (
 Q (.bool true) H4) (
 opt (loadN 6 v1 H4) fun v8=>opt (loadN 8 v2 H4) fun v9=>E.call (E.fid i.f67) [v9] H4 fun v10 H5=>loadN 6 v1 H5=loadN 6 v1 H4 /\
 mk (buildS 2 6 #[(.string ⟨#[]⟩),(.int .u32 0),(.slice none 0 0),(.int .u16 0),(.slice none 0 0),(.slice none 0 0)] [(0,v8),(1,v10)]) H5 fun v11 H6=>opt (lenSlc v11) fun v12=>LoopL (fun l H X0=>F.f71_l1 E Q (nth l 0) (nth l 1) (nth l 2) H X0) [v11,v12,(.int .i64 0)] H6))

def F.f70 (E:Sy) (H:AH) (Q:VK):Prop :=
 opt (buildV [(0,1),(1,1),(2,1),(3,1),(4,1),(5,1)] #[(.string ⟨#[]⟩),(.int .u32 0),(.slice none 0 0),(.int .u16 0),(.slice none 0 0),(.slice none 0 0)] [(0,(.string ⟨#[112]⟩)),(1,(.int .u32 2147418112))]) fun v1=>E.call (E.fid i.f61) [] H fun v2 H1=>E.call (E.fid i.f12) [v1,v2] H1 fun v3 H2=>opt (ext v3 0) fun v4=>opt (ext v3 1) fun v5=>opt (binInt .eql v5 (.int .i64 0)) fun v6=>gd v6 true (fun k=>k v4 H2) H2 fun v7 H3=>gd v6 true (fun k=>E.call (E.fid i.f108) [v7] H3 fun v h=>k v h) H3 fun v8 H4=>gd v6 true (fun k=>opt (binInt .eql v8 (.int .i64 5)) fun v=>k v H4) H4 fun v9 H5=>opt (pick v6 v9 (.bool false)) fun v10=>Q v10 H5

def F.f66_l2 (E:Sy) (Q:VK) (t1 t20 t21 t22:Value) (H:AH) (X0:LK):Prop :=
 opt (binInt .lss t22 t21) fun v1=>ifB v1 (
 opt (ixSlc 2 t20 t22) fun v2=>opt (loadN 2 v2 H) fun v3=>allocW [(.string ⟨#[]⟩),(.int .u16 0)] H fun v4 H1=>opt (storeN 2 v4 v3 H1) fun H2=>opt (addOff v4 0) fun v5=>opt (load1 v5 H2) fun v6=>opt (lenStr v6) fun v7=>opt (binInt .gtr v7 (.int .i64 200)) fun v8=>ifB v8 (
 Q (.bool false) H2) (
 opt (binInt .add t22 (.int .i64 1)) fun v9=>X0 [t1,t20,t21,v9] H2)) (
 opt (addOff t1 2) fun v10=>opt (load1 v10 H) fun v11=>opt (lenSlc v11) fun v12=>opt (binInt .leq v12 (.int .i64 80)) fun v13=>gd v13 true (fun k=>opt (addOff t1 4) fun v=>k v H) H fun v14 H3=>gd v13 true (fun k=>opt (load1 v14 H3) fun v=>k v H3) H3 fun v15 H4=>gd v13 true (fun k=>opt (lenSlc v15) fun v=>k v H4) H4 fun v16 H5=>gd v13 true (fun k=>opt (binInt .leq v16 (.int .i64 50)) fun v=>k v H5) H5 fun v17 H6=>opt (pick v13 v17 (.bool false)) fun v18=>gd v18 true (fun k=>opt (addOff t1 5) fun v=>k v H6) H6 fun v19 H7=>gd v18 true (fun k=>opt (load1 v19 H7) fun v=>k v H7) H7 fun v20 H8=>gd v18 true (fun k=>opt (lenSlc v20) fun v=>k v H8) H8 fun v21 H9=>gd v18 true (fun k=>opt (binInt .leq v21 (.int .i64 50)) fun v=>k v H9) H9 fun v22 H10=>opt (pick v18 v22 (.bool false)) fun v23=>gd v23 true (fun k=>opt (addOff t1 0) fun v=>k v H10) H10 fun v24 H11=>gd v23 true (fun k=>opt (load1 v24 H11) fun v=>k v H11) H11 fun v25 H12=>gd v23 true (fun k=>opt (lenStr v25) fun v=>k v H12) H12 fun v26 H13=>gd v23 true (fun k=>opt (binInt .leq v26 (.int .i64 100)) fun v=>k v H13) H13 fun v27 H14=>opt (pick v23 v27 (.bool false)) fun v28=>Q v28 H14)
def F.f66_l1 (E:Sy) (Q:VK) (t1 t8 t9 t10:Value) (H:AH) (X0:LK):Prop :=
 opt (binInt .lss t10 t9) fun v1=>ifB v1 (
 opt (ixSlc 3 t8 t10) fun v2=>opt (loadN 3 v2 H) fun v3=>allocW [(.int .u32 0),(.int .u32 0),(.slice none 0 0)] H fun v4 H1=>opt (storeN 3 v4 v3 H1) fun H2=>opt (addOff v4 2) fun v5=>opt (load1 v5 H2) fun v6=>opt (lenSlc v6) fun v7=>opt (binInt .gtr v7 (.int .i64 20)) fun v8=>ifB v8 (
 Q (.bool false) H2) (
 opt (binInt .add t10 (.int .i64 1)) fun v9=>X0 [t1,t8,t9,v9] H2)) (
 opt (addOff t1 4) fun v10=>opt (load1 v10 H) fun v11=>opt (lenSlc v11) fun v12=>LoopL (fun l H X0=>F.f66_l2 E Q (nth l 0) (nth l 1) (nth l 2) (nth l 3) H X0) [t1,v11,v12,(.int .i64 0)] H)
def F.f66 (E:Sy) (x0:Value) (H:AH) (Q:VK):Prop :=
 mk (boxO x0) H fun v1 H1=>opt (addOff v1 2) fun v2=>opt (load1 v2 H1) fun v3=>opt (lenSlc v3) fun v4=>LoopL (fun l H X0=>F.f66_l1 E Q (nth l 0) (nth l 1) (nth l 2) (nth l 3) H X0) [v1,v3,v4,(.int .i64 0)] H1

def F.f67_l2 (E:Sy) (Q:VK) (t2 t4 t11 t16 t131 t132 t133:Value) (H:AH) (X0:LK):Prop :=
 opt (binInt .lss t133 t132) fun v1=>ifB v1 (
 opt (ixSlc 1 t131 t133) fun v2=>opt (load1 v2 H) fun v3=>opt (binInt .rem v3 (.int .u8 4)) fun v4=>opt (binInt .add (.int .u8 80) v4) fun v5=>opt (convInt .u16 v5) fun v6=>callV E.call t11 [t133,(.int .u16 49152)] H fun v7 H1=>opt (look 0 (.bool false) false t16 v6 H1) fun v8=>opt (un .not v8) fun v9=>gd v9 true (fun k=>k v7 H1) H1 fun v10 H2=>gd v9 true (fun k=>opt (binInt .neq v10 (.int .u16 0)) fun v=>k v H2) H2 fun v11 H3=>opt (pick v9 v11 (.bool false)) fun v12=>ifB v12 (
 opt (setMap 0 t16 v6 (.bool true) H3) fun H4=>opt (addOff t4 5) fun v13=>opt (load1 v13 H4) fun v14=>opt (buildV [(0,1),(1,1)] #[(.int .u16 0),(.int .u16 0)] [(0,v6),(1,v7)]) fun v15=>mk (buildS 1 2 #[(.int .u16 0),(.int .u16 0)] [(0,v15)]) H4 fun v16 H5=>opt2 (app 2 4 v14 v16 H5) fun v17 H6=>opt (addOff t4 5) fun v18=>opt (store1 v18 v17 H6) fun H7=>opt (binInt .add t133 (.int .i64 1)) fun v19=>X0 [t2,t4,t11,t16,t131,t132,v19] H7) (
 opt (binInt .add t133 (.int .i64 1)) fun v20=>X0 [t2,t4,t11,t16,t131,t132,v20] H3)) (
 opt (loadN 6 t4 H) fun v21=>opt (storeN 6 t2 v21 H) fun H8=>opt (loadN 6 t2 H8) fun v22=>Q v22 H8)
def F.f67_l1 (E:Sy) (Q:VK) (t1 t2 t4 t10 t11 t92 t93 t94:Value) (H:AH) (X0:LK):Prop :=
 opt (binInt .lss t94 t93) fun v1=>ifB v1 (
 opt (ixSlc 1 t92 t94) fun v2=>opt (load1 v2 H) fun v3=>E.call (E.fid i.f65) [] H fun v4 H1=>opt (convInt .i64 v3) fun v5=>E.call (E.fid i.f65) [] H1 fun v6 H2=>opt (lenSlc v6) fun v7=>opt (binInt .rem v5 v7) fun v8=>opt (ixSlc 1 v4 v8) fun v9=>opt (load1 v9 H2) fun v10=>callV E.call t11 [t94,(.int .u16 2047)] H2 fun v11 H3=>opt (look 1 (.bool false) false t10 v10 H3) fun v12=>opt (un .not v12) fun v13=>gd v13 true (fun k=>k v11 H3) H3 fun v14 H4=>gd v13 true (fun k=>opt (binInt .neq v14 (.int .u16 0)) fun v=>k v H4) H4 fun v15 H5=>opt (pick v13 v15 (.bool false)) fun v16=>ifB v16 (
 opt (setMap 1 t10 v10 (.bool true) H5) fun H6=>opt (addOff t4 4) fun v17=>opt (load1 v17 H6) fun v18=>opt (buildV [(0,1),(1,1)] #[(.string ⟨#[]⟩),(.int .u16 0)] [(0,v10),(1,v11)]) fun v19=>mk (buildS 1 2 #[(.string ⟨#[]⟩),(.int .u16 0)] [(0,v19)]) H6 fun v20 H7=>opt2 (app 2 24 v18 v20 H7) fun v21 H8=>opt (addOff t4 4) fun v22=>opt (store1 v22 v21 H8) fun H9=>opt (binInt .add t94 (.int .i64 1)) fun v23=>X0 [t1,t2,t4,t10,t11,t92,t93,v23] H9) (
 opt (binInt .add t94 (.int .i64 1)) fun v24=>X0 [t1,t2,t4,t10,t11,t92,t93,v24] H5)) (
 mapW H fun v25 H10=>opt (addOff t1 7) fun v26=>opt (load1 v26 H10) fun v27=>opt (lenSlc v27) fun v28=>LoopL (fun l H X0=>F.f67_l2 E Q (nth l 0) (nth l 1) (nth l 2) (nth l 3) (nth l 4) (nth l 5) (nth l 6) H X0) [t2,t4,t11,v25,v27,v28,(.int .i64 0)] H10)
def F.f67_j1 (E:Sy) (Q:VK) (t1 t2 t4:Value) (H:AH):Prop :=
 mapW H fun v1 H1=>opt (some (.func (.func (E.fid i.f68)) #[] #[t1,t4])) fun v2=>opt (addOff t1 5) fun v3=>opt (load1 v3 H1) fun v4=>opt (lenSlc v4) fun v5=>LoopL (fun l H X0=>F.f67_l1 E Q (nth l 0) (nth l 1) (nth l 2) (nth l 3) (nth l 4) (nth l 5) (nth l 6) (nth l 7) H X0) [t1,t2,t4,v1,v2,v4,v5,(.int .i64 0)] H1
def F.f67_l4 (E:Sy) (Q:VK) (X0:LK) (t1 t2 t3 t4 t7 t38 t39 t40 t65 t66 t67:Value) (H:AH) (X1:LK):Prop :=
 opt (binInt .lss t67 t66) fun v1=>ifB v1 (
 opt (ixSlc 4 t65 t67) fun v2=>opt (loadN 4 v2 H) fun v3=>allocW [(.int .u8 0),(.int .u8 0),(.int .u8 0),(.int .u8 0)] H fun v4 H1=>opt (storeN 4 v4 v3 H1) fun H2=>opt (binInt .lss t67 (.int .i64 4)) fun v5=>ifB v5 (
 opt (addOff t7 2) fun v6=>opt (load1 v6 H2) fun v7=>opt (loadN 4 v4 H2) fun v8=>E.call (E.fid i.f64) [v8] H2 fun v9 H3=>load1 v6 H3=load1 v6 H2 /\
 mk (buildS 1 4 #[(.int .i64 0),(.int .u8 0),(.int .u64 0),(.int .u64 0)] [(0,v9)]) H3 fun v10 H4=>opt2 (app 4 32 v7 v10 H4) fun v11 H5=>opt (addOff t7 2) fun v12=>opt (store1 v12 v11 H5) fun H6=>opt (binInt .add t67 (.int .i64 1)) fun v13=>X1 [t1,t2,t3,t4,t7,t38,t39,t40,t65,t66,v13] H6) (
 opt (binInt .add t67 (.int .i64 1)) fun v14=>X1 [t1,t2,t3,t4,t7,t38,t39,t40,t65,t66,v14] H2)) (
 opt (addOff t4 2) fun v15=>opt (load1 v15 H) fun v16=>opt (loadN 3 t7 H) fun v17=>mk (buildS 1 3 #[(.int .u32 0),(.int .u32 0),(.slice none 0 0)] [(0,v17)]) H fun v18 H7=>opt2 (app 3 32 v16 v18 H7) fun v19 H8=>opt (addOff t4 2) fun v20=>opt (store1 v20 v19 H8) fun H9=>opt (binInt .add t40 (.int .i64 1)) fun v21=>X0 [t1,t2,t3,t4,t38,t39,v21] H9)
def F.f67_l3 (E:Sy) (Q:VK) (t1 t2 t3 t4 t38 t39 t40:Value) (H:AH) (X0:LK):Prop :=
 opt (binInt .lss t40 t39) fun v1=>ifB v1 (
 opt (ixSlc 4 t38 t40) fun v2=>opt (loadN 4 v2 H) fun v3=>allocW [(.int .u8 0),(.int .u8 0),(.int .u8 0),(.slice none 0 0)] H fun v4 H1=>opt (storeN 4 v4 v3 H1) fun H2=>opt (binInt .geq t40 (.int .i64 12)) fun v5=>ifB v5 (
 F.f67_j1 E Q t1 t2 t4 H2) (
 opt (addOff v4 0) fun v6=>opt (load1 v6 H2) fun v7=>opt (convInt .i64 v7) fun v8=>opt (lenSlc t3) fun v9=>opt (binInt .rem v8 v9) fun v10=>opt (ixSlc 3 t3 v10) fun v11=>opt (addOff v11 0) fun v12=>opt (load1 v12 H2) fun v13=>opt (convInt .u32 v13) fun v14=>opt (addOff v4 1) fun v15=>opt (load1 v15 H2) fun v16=>opt (addOff v4 2) fun v17=>opt (load1 v17 H2) fun v18=>allocW [(.int .u32 0),(.int .u32 0),(.slice none 0 0)] H2 fun v19 H3=>E.call (E.fid i.f63) [v16,v18] H3 fun v20 H4=>H4.get H2.next=H3.get H2.next /\
 load1 v12 H4=load1 v12 H2 /\
 load1 v6 H4=load1 v6 H2 /\
 opt (buildV [(0,1),(1,1),(2,1)] #[(.int .u32 0),(.int .u32 0),(.slice none 0 0)] [(0,v14),(1,v20)]) fun v21=>opt (storeN 3 v19 v21 H4) fun H5=>opt (addOff v4 3) fun v22=>opt (load1 v22 H5) fun v23=>opt (lenSlc v23) fun v24=>LoopL (fun l H X1=>F.f67_l4 E Q X0 (nth l 0) (nth l 1) (nth l 2) (nth l 3) (nth l 4) (nth l 5) (nth l 6) (nth l 7) (nth l 8) (nth l 9) (nth l 10) H X1) [t1,t2,t3,t4,v19,t38,t39,t40,v23,v24,(.int .i64 0)] H5)) (
 F.f67_j1 E Q t1 t2 t4 H)
def F.f67 (E:Sy) (x0:Value) (H:AH) (Q:VK):Prop :=
 mk (boxO x0) H fun v1 H1=>allocW [(.string ⟨#[]⟩),(.int .u32 0),(.slice none 0 0),(.int .u16 0),(.slice none 0 0),(.slice none 0 0)] H1 fun v2 H2=>E.call (E.fid i.f72) [] H2 fun v3 H3=>mk (buildS 3 1 #[(.string ⟨#[]⟩)] [(0,(.string ⟨#[112]⟩)),(1,(.string ⟨#[112,111,108,45,49]⟩)),(2,(.string ⟨#[120,95,121]⟩))]) H3 fun v4 H4=>opt (addOff v1 0) fun v5=>opt (load1 v5 H4) fun v6=>opt (binInt .rem v6 (.int .u8 3)) fun v7=>opt (ixSlc 1 v4 v7) fun v8=>opt (load1 v8 H4) fun v9=>opt (addOff v1 1) fun v10=>opt (load1 v10 H4) fun v11=>opt (addOff v1 2) fun v12=>opt (load1 v12 H4) fun v13=>opt (addOff v1 4) fun v14=>opt (load1 v14 H4) fun v15=>opt (binInt .and v15 (.int .u16 51199)) fun v16=>allocW [(.string ⟨#[]⟩),(.int .u32 0),(.slice none 0 0),(.int .u16 0),(.slice none 0 0),(.slice none 0 0)] H4 fun v17 H5=>E.call (E.fid i.f63) [v11,v13] H5 fun v18 H6=>H6.get H4.next=H5.get H4.next /\
 load1 v14 H6=load1 v14 H4 /\
 load1 v8 H6=load1 v8 H4 /\
 load1 v5 H6=load1 v5 H4 /\
 H6.get H3.next=H4.get H3.next /\
 opt (buildV [(0,1),(1,1),(2,1),(3,1),(4,1),(5,1)] #[(.string ⟨#[]⟩),(.int .u32 0),(.slice none 0 0),(.int .u16 0),(.slice none 0 0),(.slice none 0 0)] [(0,v9),(1,v18),(3,v16)]) fun v19=>opt (storeN 6 v17 v19 H6) fun H7=>opt (addOff v1 3) fun v20=>opt (load1 v20 H7) fun v21=>opt (lenSlc v21) fun v22=>LoopL (fun l H X0=>F.f67_l3 E Q (nth l 0) (nth l 1) (nth l 2) (nth l 3) (nth l 4) (nth l 5) (nth l 6) H X0) [v1,v2,v3,v17,v21,v22,(.int .i64 0)] H7

def F.f11_l4 (E:Sy) (Q:VK) (X0 X1:LK) (t3 t6 t10 t18 t19 t20 t54 t55 t56 t83 t84 t85:Value) (H:AH) (X2:LK):Prop :=
 opt (binInt .lss t85 t84) fun v1=>ifB v1 (
 opt (ixSlc 1 t83 t85) fun v2=>opt (load1 v2 H) fun v3=>opt (loadN 9 t6 H) fun v4=>allocW [(.int .u32 0),(.int .u32 0),(.int .u64 0),(.int .u64 0),(.int .u64 0),(.int .u64 0),(.int .u64 0),(.int .u64 0),(.int .u64 0)] H fun v5 H1=>opt (storeN 9 v5 v4 H1) fun H2=>opt (addOff t10 0) fun v6=>opt (load1 v6 H2) fun v7=>opt (addOff v5 3) fun v8=>opt (ixArr 6 1 v8 v7) fun v9=>opt (store1 v9 v3 H2) fun H3=>opt (loadN 9 v5 H3) fun v10=>mk (buildS 1 9 #[(.int .u32 0),(.int .u32 0),(.int .u64 0),(.int .u64 0),(.int .u64 0),(.int .u64 0),(.int .u64 0),(.int .u64 0),(.int .u64 0)] [(0,v10)]) H3 fun v11 H4=>opt2 (app 9 64 t3 v11 H4) fun v12 H5=>opt (binInt .add t85 (.int .i64 1)) fun v13=>X2 [v12,t6,t10,t18,t19,t20,t54,t55,t56,t83,t84,v13] H5) (
 opt (binInt .add t56 (.int .i64 1)) fun v14=>X1 [t3,t6,t18,t19,t20,t54,t55,v14] H)
def F.f11_l3 (E:Sy) (Q:VK) (X0:LK) (t3 t6 t18 t19 t20 t54 t55 t56:Value) (H:AH) (X1:LK):Prop :=
 opt (binInt .lss t56 t55) fun v1=>ifB v1 (
 opt (ixSlc 4 t54 t56) fun v2=>opt (loadN 4 v2 H) fun v3=>allocW [(.int .i64 0),(.int .u8 0),(.int .u64 0),(.int .u64 0)] H fun v4 H1=>opt (storeN 4 v4 v3 H1) fun H2=>opt (addOff v4 0) fun v5=>opt (load1 v5 H2) fun v6=>opt (binInt .lss v6 (.int .i64 0)) fun v7=>gd v7 false (fun k=>opt (addOff v4 0) fun v=>k v H2) H2 fun v8 H3=>gd v7 false (fun k=>opt (load1 v8 H3) fun v=>k v H3) H3 fun v9 H4=>gd v7 false (fun k=>opt (binInt .gtr v9 (.int .i64 5)) fun v=>k v H4) H4 fun v10 H5=>opt (pick v7 (.bool true) v10) fun v11=>ifB v11 (
 opt (binInt .add t56 (.int .i64 1)) fun v12=>X1 [t3,t6,t18,t19,t20,t54,t55,v12] H5) (
 opt (addOff v4 3) fun v13=>opt (load1 v13 H5) fun v14=>opt (binInt .sub v14 (.int .u64 1)) fun v15=>opt (addOff v4 3) fun v16=>opt (load1 v16 H5) fun v17=>opt (binInt .add v17 (.int .u64 1)) fun v18=>opt (addOff v4 3) fun v19=>opt (load1 v19 H5) fun v20=>opt (binInt .xor v20 (.int .u64 4294967296)) fun v21=>opt (addOff v4 3) fun v22=>opt (load1 v22 H5) fun v23=>opt (addOff v4 2) fun v24=>opt (load1 v24 H5) fun v25=>opt (un .xor v25) fun v26=>opt (binInt .or v23 v26) fun v27=>mk (buildS 5 1 #[(.int .u64 0)] [(0,v15),(1,v18),(2,v21),(3,v27),(4,(.int .u64 0))]) H5 fun v28 H6=>opt (lenSlc v28) fun v29=>LoopL (fun l H X2=>F.f11_l4 E Q X0 X1 (nth l 0) (nth l 1) (nth l 2) (nth l 3) (nth l 4) (nth l 5) (nth l 6) (nth l 7) (nth l 8) (nth l 9) (nth l 10) (nth l 11) H X2) [t3,t6,v4,t18,t19,t20,t54,t55,t56,v28,v29,(.int .i64 0)] H6)) (
 opt (binInt .add t20 (.int .i64 1)) fun v30=>X0 [t3,t18,t19,v30] H)
def F.f11_l2 (E:Sy) (Q:VK) (X0:LK) (t3 t5 t6 t18 t19 t20 t28 t29 t30:Value) (H:AH) (X1:LK):Prop :=
 opt (binInt .lss t30 t29) fun v1=>ifB v1 (
 opt (ixSlc 4 t28 t30) fun v2=>opt (loadN 4 v2 H) fun v3=>allocW [(.int .i64 0),(.int .u8 0),(.int .u64 0),(.int .u64 0)] H fun v4 H1=>opt (storeN 4 v4 v3 H1) fun H2=>opt (addOff v4 0) fun v5=>opt (load1 v5 H2) fun v6=>opt (binInt .geq v6 (.int .i64 0)) fun v7=>gd v7 true (fun k=>opt (addOff v4 0) fun v=>k v H2) H2 fun v8 H3=>gd v7 true (fun k=>opt (load1 v8 H3) fun v=>k v H3) H3 fun v9 H4=>gd v7 true (fun k=>opt (binInt .leq v9 (.int .i64 5)) fun v=>k v H4) H4 fun v10 H5=>opt (pick v7 v10 (.bool false)) fun v11=>ifB v11 (
 opt (addOff v4 0) fun v12=>opt (load1 v12 H5) fun v13=>opt (addOff v4 3) fun v14=>opt (load1 v14 H5) fun v15=>opt (addOff t6 3) fun v16=>opt (ixArr 6 1 v16 v13) fun v17=>opt (store1 v17 v15 H5) fun H6=>opt (binInt .add t30 (.int .i64 1)) fun v18=>X1 [t3,t5,t6,t18,t19,t20,t28,t29,v18] H6) (
 opt (binInt .add t30 (.int .i64 1)) fun v19=>X1 [t3,t5,t6,t18,t19,t20,t28,t29,v19] H5)) (
 opt (loadN 9 t6 H) fun v20=>mk (buildS 1 9 #[(.int .u32 0),(.int .u32 0),(.int .u64 0),(.int .u64 0),(.int .u64 0),(.int .u64 0),(.int .u64 0),(.int .u64 0),(.int .u64 0)] [(0,v20)]) H fun v21 H7=>opt2 (app 9 64 t3 v21 H7) fun v22 H8=>opt (addOff t5 2) fun v23=>opt (load1 v23 H8) fun v24=>opt (lenSlc v24) fun v25=>LoopL (fun l H X1=>F.f11_l3 E Q X0 (nth l 0) (nth l 1) (nth l 2) (nth l 3) (nth l 4) (nth l 5) (nth l 6) (nth l 7) H X1) [v22,t6,t18,t19,t20,v24,v25,(.int .i64 0)] H8)
def F.f11_l1 (E:Sy) (Q:VK) (t3 t18 t19 t20:Value) (H:AH) (X0:LK):Prop :=
 opt (binInt .lss t20 t19) fun v1=>ifB v1 (
 opt (ixSlc 3 t18 t20) fun v2=>opt (loadN 3 v2 H) fun v3=>allocW [(.int .u32 0),(.int .u32 0),(.slice none 0 0)] H fun v4 H1=>opt (storeN 3 v4 v3 H1) fun H2=>opt (addOff v4 0) fun v5=>opt (load1 v5 H2) fun v6=>opt (buildV [(0,1),(1,1),(2,1),(3,6)] #[(.int .u32 0),(.int .u32 0),(.int .u64 0),(.int .u64 0),(.int .u64 0),(.int .u64 0),(.int .u64 0),(.int .u64 0),(.int .u64 0)] [(1,(.int .u32 3221225534)),(0,v6)]) fun v7=>allocW [(.int .u32 0),(.int .u32 0),(.int .u64 0),(.int .u64 0),(.int .u64 0),(.int .u64 0),(.int .u64 0),(.int .u64 0),(.int .u64 0)] H2 fun v8 H3=>opt (storeN 9 v8 v7 H3) fun H4=>opt (addOff v4 2) fun v9=>opt (load1 v9 H4) fun v10=>opt (lenSlc v10) fun v11=>LoopL (fun l H X1=>F.f11_l2 E Q X0 (nth l 0) (nth l 1) (nth l 2) (nth l 3) (nth l 4) (nth l 5) (nth l 6) (nth l 7) (nth l 8) H X1) [t3,v4,v8,t18,t19,t20,v10,v11,(.int .i64 0)] H4) (
 Q t3 H)
def F.f11 (E:Sy) (x0:Value) (H:AH) (Q:VK):Prop :=
 mk (boxO x0) H fun v1 H1=>opt (buildV [(0,1),(1,1),(2,1),(3,6)] #[(.int .u32 0),(.int .u32 0),(.int .u64 0),(.int .u64 0),(.int .u64 0),(.int .u64 0),(.int .u64 0),(.int .u64 0),(.int .u64 0)] [(1,(.int .u32 3221225534))]) fun v2=>opt (buildV [(0,1),(1,1),(2,1),(3,6)] #[(.int .u32 0),(.int .u32 0),(.int .u64 0),(.int .u64 0),(.int .u64 0),(.int .u64 0),(.int .u64 0),(.int .u64 0),(.int .u64 0)] [(1,(.int .u32 3221225535))]) fun v3=>mk (buildS 2 9 #[(.int .u32 0),(.int .u32 0),(.int .u64 0),(.int .u64 0),(.int .u64 0),(.int .u64 0),(.int .u64 0),(.int .u64 0),(.int .u64 0)] [(0,v2),(1,v3)]) H1 fun v4 H2=>opt (addOff v1 2) fun v5=>opt (load1 v5 H2) fun v6=>opt (lenSlc v6) fun v7=>LoopL (fun l H X0=>F.f11_l1 E Q (nth l 0) (nth l 1) (nth l 2) (nth l 3) H X0) [v4,v6,v7,(.int .i64 0)] H2

def F.f20 (E:Sy) (x0:Value) (H:AH) (Q:VK):Prop :=
 allocW [(.int .u16 0),(.int .u8 0),(.int .u8 0),(.int .u32 0)] H fun v1 H1=>opt (buildV [(0,1),(1,1),(2,1),(3,1)] #[(.int .u16 0),(.int .u8 0),(.int .u8 0),(.int .u32 0)] [(0,(.int .u16 6)),(3,x0)]) fun v2=>opt (storeN 4 v1 v2 H1) fun H2=>opt (loadN 4 v1 H2) fun v3=>Q v3 H2

def F.f110 (E:Sy) (x0:Value) (H:AH) (Q:VK):Prop :=
 allocW [(.int .i64 0),(.int .i64 0)] H fun v1 H1=>E.call (E.fid i.f0) [x0] H1 fun v2 H2=>allocW [(.int .i64 0),(.int .i64 0)] H2 fun v3 H3=>opt (storeN 2 v3 v2 H3) fun H4=>opt (loadN 2 v3 H4) fun v4=>opt (buildV [(0,1),(1,1)] #[(.int .i64 0),(.int .i64 0)] []) fun v5=>opt (binAgg [0,0] .neq v4 v5) fun v6=>ifB v6 (
 opt (loadN 2 v3 H4) fun v7=>opt (storeN 2 v1 v7 H4) fun H5=>opt (loadN 2 v1 H5) fun v8=>Q (.tuple #[(.pointer none),v8]) H5) (
 mk (buildS 0 4 #[(.int .u16 0),(.int .u8 0),(.int .u8 0),(.int .u32 0)] []) H4 fun v9 H6=>opt2 (app 4 8 v9 x0 H6) fun v10 H7=>opt (buildV [(0,1),(1,1),(2,1)] #[(.slice none 0 0),(.int .i64 0),(.int .i64 0)] [(0,v10)]) fun v11=>mk (boxO v11) H7 fun v12 H8=>opt (buildV [(0,1),(1,1)] #[(.int .i64 0),(.int .i64 0)] []) fun v13=>opt (storeN 2 v1 v13 H8) fun H9=>opt (loadN 2 v1 H9) fun v14=>Q (.tuple #[v12,v14]) H9)

def F.f10_l1 (E:Sy) (Q:VK) (t1 t6 t8 t15 t16 t17:Value) (H:AH) (X0:LK):Prop :=
 opt (binInt .lss t17 t16) fun v1=>ifB v1 (
 opt (ixSlc 9 t15 t17) fun v2=>opt (loadN 9 v2 H) fun v3=>allocW [(.int .u32 0),(.int .u32 0),(.int .u64 0),(.int .u64 0),(.int .u64 0),(.int .u64 0),(.int .u64 0),(.int .u64 0),(.int .u64 0)] H fun v4 H1=>opt (storeN 9 v4 v3 H1) fun H2=>opt (loadN 9 v4 H2) fun v5=>E.call (E.fid i.f109) [t1,v5] H2 fun v6 H3=>opt (ext v6 0) fun v7=>opt (ext v6 1) fun v8=>opt (loadN 2 t8 H3) fun v9=>opt (loadN 9 v4 H3) fun v10=>E.call (E.fid i.f25) [v9,v10] H3 fun v11 H4=>opt (binInt .neq v7 v11) fun v12=>ifB v12 (
 opt (loadN 9 v4 H4) fun v13=>opt (storeN 9 t6 v13 H4) fun H5=>opt (loadN 9 t6 H5) fun v14=>Q (.tuple #[v14,(.bool true)]) H5) (
 opt (binInt .add t17 (.int .i64 1)) fun v15=>X0 [t1,t6,t8,t15,t16,v15] H4)) (
 opt (buildV [(0,1),(1,1),(2,1),(3,6)] #[(.int .u32 0),(.int .u32 0),(.int .u64 0),(.int .u64 0),(.int .u64 0),(.int .u64 0),(.int .u64 0),(.int .u64 0),(.int .u64 0)] []) fun v16=>opt (storeN 9 t6 v16 H) fun H6=>opt (loadN 9 t6 H6) fun v17=>Q (.tuple #[v17,(.bool false)]) H6)
def F.f10 (E:Sy) (x0 x1 x2:Value) (H:AH) (Q:VK):Prop :=
 mk (boxO x0) H fun v1 H1=>allocW [(.int .u32 0),(.int .u32 0),(.int .u64 0),(.int .u64 0),(.int .u64 0),(.int .u64 0),(.int .u64 0),(.int .u64 0),(.int .u64 0)] H1 fun v2 H2=>opt (loadN 6 v1 H2) fun v3=>E.call (E.fid i.f22) [v3] H2 fun v4 H3=>allocW [(.slice none 0 0),(.int .u32 0)] H3 fun v5 H4=>opt (storeN 2 v5 v4 H4) fun H5=>opt (lenSlc x2) fun v6=>LoopL (fun l H X0=>F.f10_l1 E Q (nth l 0) (nth l 1) (nth l 2) (nth l 3) (nth l 4) (nth l 5) H X0) [x1,v2,v5,x2,v6,(.int .i64 0)] H5

def F.f61 (E:Sy) (H:AH) (Q:VK):Prop :=
 opt (buildV [(0,3),(3,1),(4,1),(5,1),(6,1)] #[(.int .u32 0),(.int .i32 0),(.int .u32 0),(.map none),(.map none),(.int .i64 0),(.int .i64 0)] []) fun v1=>mk (boxO v1) H fun v2 H1=>Q v2 H1

def F.f12 (E:Sy) (x0 x1:Value) (H:AH) (Q:VK):Prop :=
 mk (boxO x0) H fun v1 H1=>opt (loadN 6 v1 H1) fun v2=>E.call (E.fid i.f13) [v2,x1] H1 fun v3 H2=>opt (ext v3 0) fun v4=>opt (ext v3 1) fun v5=>opt (binInt .neq v5 (.int .i64 0)) fun v6=>ifB v6 (
 Q (.tuple #[(.pointer none),v5]) H2) (
 E.call (E.fid i.f110) [v4] H2 fun v7 H3=>opt (ext v7 0) fun v8=>opt (ext v7 1) fun v9=>allocW [(.int .i64 0),(.int .i64 0)] H3 fun v10 H4=>opt (storeN 2 v10 v9 H4) fun H5=>opt (loadN 2 v10 H5) fun v11=>opt (buildV [(0,1),(1,1)] #[(.int .i64 0),(.int .i64 0)] []) fun v12=>opt (binAgg [0,0] .neq v11 v12) fun v13=>ifB v13 (
 opt (addOff v10 1) fun v14=>opt (load1 v14 H5) fun v15=>Q (.tuple #[(.pointer none),v15]) H5) (
 Q (.tuple #[v8,(.int .i64 0)]) H5))

def F.f108 (E:Sy) (x0:Value) (H:AH) (Q:VK):Prop :=
 opt (binNil eqPtr .eql x0 (.pointer none)) fun v1=>ifB v1 (
 Q (.int .i64 0) H) (
 opt (nilCk x0) fun v2=>opt (addOff v2 0) fun v3=>opt (load1 v3 H) fun v4=>opt (lenSlc v4) fun v5=>Q v5 H)

def F.f72 (E:Sy) (H:AH) (Q:VK):Prop :=
 opt (buildV [(0,1),(1,1),(2,1)] #[(.int .i64 0),(.string ⟨#[]⟩),(.int .i64 0)] [(0,(.int .i64 0)),(1,(.string ⟨#[114,101,97,100]⟩)),(2,(.int .i64 2))]) fun v1=>opt (buildV [(0,1),(1,1),(2,1)] #[(.int .i64 0),(.string ⟨#[]⟩),(.int .i64 0)] [(0,(.int .i64 1)),(1,(.string ⟨#[119,114,105,116,101]⟩)),(2,(.int .i64 2))]) fun v2=>opt (buildV [(0,1),(1,1),(2,1)] #[(.int .i64 0),(.string ⟨#[]⟩),(.int .i64 0)] [(0,(.int .i64 2)),(1,(.string ⟨#[111,112,101,110]⟩)),(2,(.int .i64 2))]) fun v3=>opt (buildV [(0,1),(1,1),(2,1)] #[(.int .i64 0),(.string ⟨#[]⟩),(.int .i64 0)] [(0,(.int .i64 3)),(1,(.string ⟨#[99,108,111,115,101]⟩)),(2,(.int .i64 1))]) fun v4=>opt (buildV [(0,1),(1,1),(2,1)] #[(.int .i64 0),(.string ⟨#[]⟩),(.int .i64 0)] [(0,(.int .i64 4)),(1,(.string ⟨#[115,116,97,116]⟩)),(2,(.int .i64 1))]) fun v5=>opt (buildV [(0,1),(1,1),(2,1)] #[(.int .i64 0),(.string ⟨#[]⟩),(.int .i64 0)] [(0,(.int .i64 8)),(1,(.string ⟨#[115,101,101,107]⟩)),(2,(.int .i64 2))]) fun v6=>opt (buildV [(0,1),(1,1),(2,1)] #[(.int .i64 0),(.string ⟨#[]⟩),(.int .i64 0)] [(0,(.int .i64 32)),(1,(.string ⟨#[100,117,112]⟩)),(2,(.int .i64 1))]) fun v7=>opt (buildV [(0,1),(1,1),(2,1)] #[(.int .i64 0),(.string ⟨#[]⟩),(.int .i64 0)] [(0,(.int .i64 39)),(1,(.string ⟨#[112,105,100]⟩)),(2,(.int .i64 0))]) fun v8=>opt (buildV [(0,1),(1,1),(2,1)] #[(.int .i64 0),(.string ⟨#[]⟩),(.int .i64 0)] [(0,(.int .i64 41)),(1,(.string ⟨#[115,111,99,107,101,116]⟩)),(2,(.int .i64 0))]) fun v9=>opt (buildV [(0,1),(1,1),(2,1)] #[(.int .i64 0),(.string ⟨#[]⟩),(.int .i64 0)] [(0,(.int .i64 42)),(1,(.string ⟨#[99,111,110,110,101,99,116]⟩)),(2,(.int .i64 2))]) fun v10=>opt (buildV [(0,1),(1,1),(2,1)] #[(.int .i64 0),(.string ⟨#[]⟩),(.int .i64 0)] [(0,(.int .i64 49)),(1,(.string ⟨#[98,105,110,100]⟩)),(2,(.int .i64 2))]) fun v11=>opt (buildV [(0,1),(1,1),(2,1)] #[(.int .i64 0),(.string ⟨#[]⟩),(.int .i64 0)] [(0,(.int .i64 50)),(1,(.string ⟨#[108,105,115,116,101,110]⟩)),(2,(.int .i64 1))]) fun v12=>opt (buildV [(0,1),(1,1),(2,1)] #[(.int .i64 0),(.string ⟨#[]⟩),(.int .i64 0)] [(0,(.int .i64 57)),(1,(.string ⟨#[102,111,114,107]⟩)),(2,(.int .i64 0))]) fun v13=>opt (buildV [(0,1),(1,1),(2,1)] #[(.int .i64 0),(.string ⟨#[]⟩),(.int .i64 0)] [(0,(.int .i64 60)),(1,(.string ⟨#[101,120,105,116]⟩)),(2,(.int .i64 1))]) fun v14=>opt (buildV [(0,1),(1,1),(2,1)] #[(.int .i64 0),(.string ⟨#[]⟩),(.int .i64 0)] [(0,(.int .i64 77)),(1,(.string ⟨#[116,114,117,110,99,97,116,101]⟩)),(2,(.int .i64 2))]) fun v15=>opt (buildV [(0,1),(1,1),(2,1)] #[(.int .i64 0),(.string ⟨#[]⟩),(.int .i64 0)] [(0,(.int .i64 78)),(1,(.string ⟨#[114,101,97,100,100,105,114]⟩)),(2,(.int .i64 1))]) fun v16=>opt (buildV [(0,1),(1,1),(2,1)] #[(.int .i64 0),(.string ⟨#[]⟩),(.int .i64 0)] [(0,(.int .i64 79)),(1,(.string ⟨#[99,119,100]⟩)),(2,(.int .i64 0))]) fun v17=>opt (buildV [(0,1),(1,1),(2,1)] #[(.int .i64 0),(.string ⟨#[]⟩),(.int .i64 0)] [(0,(.int .i64 80)),(1,(.string ⟨#[99,104,100,105,114]⟩)),(2,(.int .i64 1))]) fun v18=>opt (buildV [(0,1),(1,1),(2,1)] #[(.int .i64 0),(.string ⟨#[]⟩),(.int .i64 0)] [(0,(.int .i64 82)),(1,(.string ⟨#[114,101,110,97,109,101]⟩)),(2,(.int .i64 2))]) fun v19=>opt (buildV [(0,1),(1,1),(2,1)] #[(.int .i64 0),(.string ⟨#[]⟩),(.int .i64 0)] [(0,(.int .i64 83)),(1,(.string ⟨#[109,107,100,105,114]⟩)),(2,(.int .i64 1))]) fun v20=>opt (buildV [(0,1),(1,1),(2,1)] #[(.int .i64 0),(.string ⟨#[]⟩),(.int .i64 0)] [(0,(.int .i64 84)),(1,(.string ⟨#[114,109,100,105,114]⟩)),(2,(.int .i64 1))]) fun v21=>opt (buildV [(0,1),(1,1),(2,1)] #[(.int .i64 0),(.string ⟨#[]⟩),(.int .i64 0)] [(0,(.int .i64 86)),(1,(.string ⟨#[108,105,110,107]⟩)),(2,(.int .i64 2))]) fun v22=>opt (buildV [(0,1),(1,1),(2,1)] #[(.int .i64 0),(.string ⟨#[]⟩),(.int .i64 0)] [(0,(.int .i64 87)),(1,(.string ⟨#[117,110,108,105,110,107]⟩)),(2,(.int .i64 1))]) fun v23=>opt (buildV [(0,1),(1,1),(2,1)] #[(.int .i64 0),(.string ⟨#[]⟩),(.int .i64 0)] [(0,(.int .i64 88)),(1,(.string ⟨#[115,121,109,108,105,110,107]⟩)),(2,(.int .i64 2))]) fun v24=>opt (buildV [(0,1),(1,1),(2,1)] #[(.int .i64 0),(.string ⟨#[]⟩),(.int .i64 0)] [(0,(.int .i64 89)),(1,(.string ⟨#[114,101,97,100,108,105,110,107]⟩)),(2,(.int .i64 1))]) fun v25=>opt (buildV [(0,1),(1,1),(2,1)] #[(.int .i64 0),(.string ⟨#[]⟩),(.int .i64 0)] [(0,(.int .i64 157)),(1,(.string ⟨#[112,114,99,116,108]⟩)),(2,(.int .i64 1))]) fun v26=>opt (buildV [(0,1),(1,1),(2,1)] #[(.int .i64 0),(.string ⟨#[]⟩),(.int .i64 0)] [(0,(.int .i64 165)),(1,(.string ⟨#[109,111,117,110,116]⟩)),(2,(.int .i64 2))]) fun v27=>opt (buildV [(0,1),(1,1),(2,1)] #[(.int .i64 0),(.string ⟨#[]⟩),(.int .i64 0)] [(0,(.int .i64 166)),(1,(.string ⟨#[117,109,111,117,110,116]⟩)),(2,(.int .i64 1))]) fun v28=>opt (buildV [(0,1),(1,1),(2,1)] #[(.int .i64 0),(.string ⟨#[]⟩),(.int .i64 0)] [(0,(.int .i64 317)),(1,(.string ⟨#[115,101,99,99,111,109,112]⟩)),(2,(.int .i64 1))]) fun v29=>opt (buildV [(0,1),(1,1),(2,1)] #[(.int .i64 0),(.string ⟨#[]⟩),(.int .i64 0)] [(0,(.int .i64 446)),(1,(.string ⟨#[114,101,115,116,114,105,99,116]⟩)),(2,(.int .i64 1))]) fun v30=>mk (buildS 30 3 #[(.int .i64 0),(.string ⟨#[]⟩),(.int .i64 0)] [(0,v1),(1,v2),(2,v3),(3,v4),(4,v5),(5,v6),(6,v7),(7,v8),(8,v9),(9,v10),(10,v11),(11,v12),(12,v13),(13,v14),(14,v15),(15,v16),(16,v17),(17,v18),(18,v19),(19,v20),(20,v21),(21,v22),(22,v23),(23,v24),(24,v25),(25,v26),(26,v27),(27,v28),(28,v29),(29,v30)]) H fun v31 H1=>Q v31 H1

def F.f63 (E:Sy) (x0 x1:Value) (H:AH) (Q:VK):Prop :=
 opt (binInt .rem x0 (.int .u8 4)) fun v1=>opt (binInt .eql v1 (.int .u8 0)) fun v2=>ifB v2 (
 Q (.int .u32 2147483648) H) (
 opt (binInt .eql v1 (.int .u8 1)) fun v3=>ifB v3 (
 opt (convInt .i64 x1) fun v4=>opt (binInt .add (.int .i64 1) v4) fun v5=>E.call (E.fid i.f81) [v5] H fun v6 H1=>Q v6 H1) (
 opt (binInt .eql v1 (.int .u8 2)) fun v7=>ifB v7 (
 Q (.int .u32 2147221504) H) (
 Q (.int .u32 2147418112) H)))

def F.f64 (E:Sy) (x0:Value) (H:AH) (Q:VK):Prop :=
 mk (boxO x0) H fun v1 H1=>allocW [(.int .i64 0),(.int .u8 0),(.int .u64 0),(.int .u64 0)] H1 fun v2 H2=>E.call (E.fid i.f69) [] H2 fun v3 H3=>opt (addOff v1 0) fun v4=>opt (load1 v4 H3) fun v5=>opt (binInt .rem v5 (.int .u8 6)) fun v6=>opt (convInt .i64 v6) fun v7=>opt (addOff v1 1) fun v8=>opt (load1 v8 H3) fun v9=>opt (binInt .rem v9 (.int .u8 7)) fun v10=>opt (binInt .add (.int .u8 1) v10) fun v11=>opt (addOff v1 3) fun v12=>opt (load1 v12 H3) fun v13=>opt (convInt .i64 v13) fun v14=>opt (lenSlc v3) fun v15=>opt (binInt .rem v14 v15) fun v16=>opt (ixSlc 1 v3 v16) fun v17=>opt (load1 v17 H3) fun v18=>opt (buildV [(0,1),(1,1),(2,1),(3,1)] #[(.int .i64 0),(.int .u8 0),(.int .u64 0),(.int .u64 0)] [(0,v7),(1,v11),(3,v18)]) fun v19=>allocW [(.int .i64 0),(.int .u8 0),(.int .u64 0),(.int .u64 0)] H3 fun v20 H4=>opt (storeN 4 v20 v19 H4) fun H5=>opt (addOff v20 1) fun v21=>opt (load1 v21 H5) fun v22=>opt (binInt .eql v22 (.int .u8 7)) fun v23=>ifB v23 (
 opt (addOff v1 2) fun v24=>opt (load1 v24 H5) fun v25=>opt (convInt .i64 v25) fun v26=>opt (lenSlc v3) fun v27=>opt (binInt .sub v27 (.int .i64 1)) fun v28=>opt (binInt .rem v26 v28) fun v29=>opt (binInt .add (.int .i64 1) v29) fun v30=>opt (ixSlc 1 v3 v30) fun v31=>opt (load1 v31 H5) fun v32=>opt (addOff v20 2) fun v33=>opt (store1 v33 v32 H5) fun H6=>opt (addOff v20 3) fun v34=>opt (load1 v34 H6) fun v35=>opt (addOff v20 2) fun v36=>opt (load1 v36 H6) fun v37=>opt (binInt .and v35 v37) fun v38=>opt (addOff v20 3) fun v39=>opt (store1 v39 v38 H6) fun H7=>opt (loadN 4 v20 H7) fun v40=>opt (storeN 4 v2 v40 H7) fun H8=>opt (loadN 4 v2 H8) fun v41=>Q v41 H8) (
 opt (loadN 4 v20 H5) fun v42=>opt (storeN 4 v2 v42 H5) fun H9=>opt (loadN 4 v2 H9) fun v43=>Q v43 H9)

def F.f68 (E:Sy) (x0 x1 x2 x3:Value) (H:AH) (Q:VK):Prop :=
 opt (addOff x2 6) fun v1=>opt (load1 v1 H) fun v2=>opt (lenSlc v2) fun v3=>opt (binInt .geq x0 v3) fun v4=>ifB v4 (
 opt (addOff x3 3) fun v5=>opt (load1 v5 H) fun v6=>opt (binInt .and v6 x1) fun v7=>Q v7 H) (
 opt (addOff x2 6) fun v8=>opt (load1 v8 H) fun v9=>opt (ixSlc 1 v9 x0) fun v10=>opt (load1 v10 H) fun v11=>opt (addOff x3 3) fun v12=>opt (load1 v12 H) fun v13=>opt (binInt .and v11 v13) fun v14=>opt (binInt .and v14 x1) fun v15=>Q v15 H)

def F.f65 (E:Sy) (H:AH) (Q:VK):Prop :=
 mk (buildS 6 1 #[(.string ⟨#[]⟩)] [(0,(.string ⟨#[47]⟩)),(1,(.string ⟨#[47,97]⟩)),(2,(.string ⟨#[47,97,47,98]⟩)),(3,(.string ⟨#[47,102]⟩)),(4,(.string ⟨#[47,97,47,103]⟩)),(5,(.string ⟨#[47,99]⟩))]) H fun v1 H1=>Q v1 H1

def F.f0_l1 (E:Sy) (Q:VK) (t0 t2 t17 t18 t19:Value) (H:AH) (X0:LK):Prop :=
 opt (binInt .lss t19 t18) fun v1=>ifB v1 (
 opt (ixSlc 4 t17 t19) fun v2=>opt (loadN 4 v2 H) fun v3=>allocW [(.int .u16 0),(.int .u8 0),(.int .u8 0),(.int .u32 0)] H fun v4 H1=>opt (storeN 4 v4 v3 H1) fun H2=>opt (loadN 4 v4 H2) fun v5=>opt (lenSlc t0) fun v6=>E.call (E.fid i.f3) [v5,t19,v6] H2 fun v7 H3=>opt (binInt .neq v7 (.int .i64 0)) fun v8=>ifB v8 (
 opt (buildV [(0,1),(1,1)] #[(.int .i64 0),(.int .i64 0)] [(0,t19),(1,v7)]) fun v9=>opt (storeN 2 t2 v9 H3) fun H4=>opt (loadN 2 t2 H4) fun v10=>Q v10 H4) (
 opt (binInt .add t19 (.int .i64 1)) fun v11=>X0 [t0,t2,t17,t18,v11] H3)) (
 opt (lenSlc t0) fun v12=>opt (binInt .sub v12 (.int .i64 1)) fun v13=>opt (ixSlc 4 t0 v13) fun v14=>opt (loadN 4 v14 H) fun v15=>E.call (E.fid i.f1) [v15] H fun v16 H5=>opt (un .not v16) fun v17=>ifB v17 (
 opt (buildV [(0,1),(1,1)] #[(.int .i64 0),(.int .i64 0)] [(0,v13),(1,(.int .i64 209))]) fun v18=>opt (storeN 2 t2 v18 H5) fun H6=>opt (loadN 2 t2 H6) fun v19=>Q v19 H6) (
 E.call (E.fid i.f2) [t0] H5 fun v20 H7=>opt (storeN 2 t2 v20 H7) fun H8=>opt (loadN 2 t2 H8) fun v21=>Q v21 H8))
def F.f0 (E:Sy) (x0:Value) (H:AH) (Q:VK):Prop :=
 allocW [(.int .i64 0),(.int .i64 0)] H fun v1 H1=>opt (lenSlc x0) fun v2=>opt (binInt .eql v2 (.int .i64 0)) fun v3=>ifB v3 (
 opt (buildV [(0,1),(1,1)] #[(.int .i64 0),(.int .i64 0)] [(0,(.int .i64 0)),(1,(.int .i64 203))]) fun v4=>opt (storeN 2 v1 v4 H1) fun H2=>opt (loadN 2 v1 H2) fun v5=>Q v5 H2) (
 opt (lenSlc x0) fun v6=>opt (binInt .gtr v6 (.int .i64 4096)) fun v7=>ifB v7 (
 opt (buildV [(0,1),(1,1)] #[(.int .i64 0),(.int .i64 0)] [(0,(.int .i64 4096)),(1,(.int .i64 205))]) fun v8=>opt (storeN 2 v1 v8 H1) fun H3=>opt (loadN 2 v1 H3) fun v9=>Q v9 H3) (
 opt (lenSlc x0) fun v10=>LoopL (fun l H X0=>F.f0_l1 E Q (nth l 0) (nth l 1) (nth l 2) (nth l 3) (nth l 4) H X0) [x0,v1,x0,v10,(.int .i64 0)] H1))

def F.f22_l2 (E:Sy) (Q:VK) (t2 t3 t32:Value) (H:AH) (X0:LK):Prop :=
 nextM t32 H fun v1 H1=>opt (ext v1 0) fun v2=>ifB v2 (
 opt (entryR t32 H1) fun v3=>opt (ext v3 0) fun v4=>opt (ext v3 1) fun v5=>E.call (E.fid i.f93) [v5,(.func (.func (E.fid i.f23)) #[] #[])] H1 fun v6 H2=>opt (addOff t3 0) fun v7=>opt (load1 v7 H2) fun v8=>E.call (E.fid i.f28) [v5] H2 fun v9 H3=>load1 v7 H3=load1 v7 H2 /\
 opt (buildV [(0,1),(1,1)] #[(.int .u32 0),(.slice none 0 0)] [(0,v4),(1,v9)]) fun v10=>mk (buildS 1 2 #[(.int .u32 0),(.slice none 0 0)] [(0,v10)]) H3 fun v11 H4=>opt2 (app 2 32 v8 v11 H4) fun v12 H5=>opt (addOff t3 0) fun v13=>opt (store1 v13 v12 H5) fun H6=>X0 [t2,t3,t32] H6) (
 opt (addOff t3 0) fun v14=>opt (load1 v14 H1) fun v15=>E.call (E.fid i.f92) [v15,(.func (.func (E.fid i.f24)) #[] #[])] H1 fun v16 H7=>opt (loadN 2 t3 H7) fun v17=>opt (storeN 2 t2 v17 H7) fun H8=>opt (loadN 2 t2 H8) fun v18=>Q v18 H8)
def F.f22_l1 (E:Sy) (Q:VK) (t2 t3 t4 t14 t15 t16:Value) (H:AH) (X0:LK):Prop :=
 opt (binInt .lss t16 t15) fun v1=>ifB v1 (
 opt (ixSlc 3 t14 t16) fun v2=>opt (loadN 3 v2 H) fun v3=>allocW [(.int .u32 0),(.int .u32 0),(.slice none 0 0)] H fun v4 H1=>opt (storeN 3 v4 v3 H1) fun H2=>opt (addOff v4 0) fun v5=>opt (load1 v5 H2) fun v6=>opt (addOff v4 0) fun v7=>opt (load1 v7 H2) fun v8=>opt (look 0 (.slice none 0 0) false t4 v8 H2) fun v9=>opt (loadN 3 v4 H2) fun v10=>mk (buildS 1 3 #[(.int .u32 0),(.int .u32 0),(.slice none 0 0)] [(0,v10)]) H2 fun v11 H3=>opt2 (app 3 32 v9 v11 H3) fun v12 H4=>load1 v5 H4=load1 v5 H2 /\
 opt (setMap 0 t4 v6 v12 H4) fun H5=>opt (binInt .add t16 (.int .i64 1)) fun v13=>X0 [t2,t3,t4,t14,t15,v13] H5) (
 mk (rangeM t4 H) H fun v14 H6=>LoopL (fun l H X0=>F.f22_l2 E Q (nth l 0) (nth l 1) (nth l 2) H X0) [t2,t3,v14] H6)
def F.f22 (E:Sy) (x0:Value) (H:AH) (Q:VK):Prop :=
 mk (boxO x0) H fun v1 H1=>allocW [(.slice none 0 0),(.int .u32 0)] H1 fun v2 H2=>opt (addOff v1 1) fun v3=>opt (load1 v3 H2) fun v4=>opt (buildV [(0,1),(1,1)] #[(.slice none 0 0),(.int .u32 0)] [(1,v4)]) fun v5=>allocW [(.slice none 0 0),(.int .u32 0)] H2 fun v6 H3=>opt (storeN 2 v6 v5 H3) fun H4=>mapW H4 fun v7 H5=>opt (addOff v1 2) fun v8=>opt (load1 v8 H5) fun v9=>opt (lenSlc v9) fun v10=>LoopL (fun l H X0=>F.f22_l1 E Q (nth l 0) (nth l 1) (nth l 2) (nth l 3) (nth l 4) (nth l 5) H X0) [v2,v6,v7,v9,v10,(.int .i64 0)] H5

def F.f109_l1 (E:Sy) (Q:VK) (t0 t6 t7:Value) (H:AH) (X0:LK):Prop :=
 opt (addOff t6 29) fun v1=>opt (load1 v1 H) fun v2=>opt (un .not v2) fun v3=>gd v3 true (fun k=>opt (addOff t6 18) fun v=>k v H) H fun v4 H1=>gd v3 true (fun k=>opt (load1 v4 H1) fun v=>k v H1) H1 fun v5 H2=>gd v3 true (fun k=>k t0 H2) H2 fun v6 H3=>gd v3 true (fun k=>opt (nilCk v6) fun v=>k v H3) H3 fun v7 H4=>gd v3 true (fun k=>opt (addOff v7 0) fun v=>k v H4) H4 fun v8 H5=>gd v3 true (fun k=>opt (load1 v8 H5) fun v=>k v H5) H5 fun v9 H6=>gd v3 true (fun k=>opt (lenSlc v9) fun v=>k v H6) H6 fun v10 H7=>gd v3 true (fun k=>opt (binInt .lss v5 v10) fun v=>k v H7) H7 fun v11 H8=>opt (pick v3 v11 (.bool false)) fun v12=>ifB v12 (
 opt (nilCk t0) fun v13=>opt (addOff v13 0) fun v14=>opt (load1 v14 H8) fun v15=>opt (addOff t6 18) fun v16=>opt (load1 v16 H8) fun v17=>opt (ixSlc 4 v15 v17) fun v18=>opt (loadN 4 v18 H8) fun v19=>E.call (E.fid i.f115) [t6,v19] H8 fun v20 H9=>opt (binInt .add t7 (.int .i64 1)) fun v21=>X0 [t0,t6,v21] H9) (
 opt (nilCk t0) fun v22=>opt (addOff v22 1) fun v23=>E.call (E.fid i.f107) [v23,(.int .i64 1)] H8 fun v24 H10=>opt (nilCk t0) fun v25=>opt (addOff v25 2) fun v26=>E.call (E.fid i.f107) [v26,t7] H10 fun v27 H11=>opt (addOff t6 29) fun v28=>opt (load1 v28 H11) fun v29=>opt (un .not v29) fun v30=>ifB v30 (
 Q (.tuple #[(.int .u32 2147483648),t7]) H11) (
 opt (addOff t6 28) fun v31=>opt (load1 v31 H11) fun v32=>Q (.tuple #[v32,t7]) H11))
def F.f109 (E:Sy) (x0 x1:Value) (H:AH) (Q:VK):Prop :=
 mk (boxO x1) H fun v1 H1=>opt (binNil eqPtr .eql x0 (.pointer none)) fun v2=>ifB v2 (
 Q (.tuple #[(.int .u32 2147483648),(.int .i64 0)]) H1) (
 opt (loadN 9 v1 H1) fun v3=>opt (buildV [(0,1),(1,1),(2,16),(18,1),(19,9),(28,1),(29,1)] #[(.int .u32 0),(.int .u32 0),(.int .u32 0),(.int .u32 0),(.int .u32 0),(.int .u32 0),(.int .u32 0),(.int .u32 0),(.int .u32 0),(.int .u32 0),(.int .u32 0),(.int .u32 0),(.int .u32 0),(.int .u32 0),(.int .u32 0),(.int .u32 0),(.int .u32 0),(.int .u32 0),(.int .i64 0),(.int .u32 0),(.int .u32 0),(.int .u64 0),(.int .u64 0),(.int .u64 0),(.int .u64 0),(.int .u64 0),(.int .u64 0),(.int .u64 0),(.int .u32 0),(.bool false)] [(4,v3)]) fun v4=>allocW [(.int .u32 0),(.int .u32 0),(.int .u32 0),(.int .u32 0),(.int .u32 0),(.int .u32 0),(.int .u32 0),(.int .u32 0),(.int .u32 0),(.int .u32 0),(.int .u32 0),(.int .u32 0),(.int .u32 0),(.int .u32 0),(.int .u32 0),(.int .u32 0),(.int .u32 0),(.int .u32 0),(.int .i64 0),(.int .u32 0),(.int .u32 0),(.int .u64 0),(.int .u64 0),(.int .u64 0),(.int .u64 0),(.int .u64 0),(.int .u64 0),(.int .u64 0),(.int .u32 0),(.bool false)] H1 fun v5 H2=>opt (storeN 30 v5 v4 H2) fun H3=>LoopL (fun l H X0=>F.f109_l1 E Q (nth l 0) (nth l 1) (nth l 2) H X0) [x0,v5,(.int .i64 0)] H3)

def F.f25_l2 (E:Sy) (Q:VK) (X0:LK) (t2 t3 t8 t31 t32 t33 t38 t39 t40:Value) (H:AH) (X1:LK):Prop :=
 opt (binInt .lss t40 t39) fun v1=>ifB v1 (
 opt (ixSlc 4 t38 t40) fun v2=>opt (loadN 4 v2 H) fun v3=>allocW [(.int .i64 0),(.int .u8 0),(.int .u64 0),(.int .u64 0)] H fun v4 H1=>opt (storeN 4 v4 v3 H1) fun H2=>opt (loadN 4 v4 H2) fun v5=>opt (loadN 9 t3 H2) fun v6=>E.call (E.fid i.f60) [v5,v6] H2 fun v7 H3=>opt (un .not v7) fun v8=>ifB v8 (
 opt (binInt .add t33 (.int .i64 1)) fun v9=>X0 [t2,t3,t31,t32,v9] H3) (
 opt (binInt .add t40 (.int .i64 1)) fun v10=>X1 [t2,t3,t8,t31,t32,t33,t38,t39,v10] H3)) (
 opt (addOff t8 1) fun v11=>opt (load1 v11 H) fun v12=>Q v12 H)
def F.f25_l1 (E:Sy) (Q:VK) (t2 t3 t31 t32 t33:Value) (H:AH) (X0:LK):Prop :=
 opt (binInt .lss t33 t32) fun v1=>ifB v1 (
 opt (ixSlc 2 t31 t33) fun v2=>opt (loadN 2 v2 H) fun v3=>allocW [(.slice none 0 0),(.int .u32 0)] H fun v4 H1=>opt (storeN 2 v4 v3 H1) fun H2=>opt (addOff v4 0) fun v5=>opt (load1 v5 H2) fun v6=>opt (lenSlc v6) fun v7=>LoopL (fun l H X1=>F.f25_l2 E Q X0 (nth l 0) (nth l 1) (nth l 2) (nth l 3) (nth l 4) (nth l 5) (nth l 6) (nth l 7) (nth l 8) H X1) [t2,t3,v4,t31,t32,t33,v6,v7,(.int .i64 0)] H2) (
 opt (addOff t2 1) fun v8=>opt (load1 v8 H) fun v9=>Q v9 H)
def F.f25 (E:Sy) (x0 x1:Value) (H:AH) (Q:VK):Prop :=
 mk (boxO x0) H fun v1 H1=>mk (boxO x1) H1 fun v2 H2=>opt (addOff v2 1) fun v3=>opt (load1 v3 H2) fun v4=>opt (binInt .neq v4 (.int .u32 3221225534)) fun v5=>ifB v5 (
 Q (.int .u32 2147483648) H2) (
 opt (addOff v1 0) fun v6=>opt (load1 v6 H2) fun v7=>opt (addOff v2 0) fun v8=>opt (load1 v8 H2) fun v9=>E.call (E.fid i.f88) [v7,v9,(.func (.func (E.fid i.f26)) #[] #[])] H2 fun v10 H3=>opt (ext v10 0) fun v11=>opt (ext v10 1) fun v12=>opt (un .not v12) fun v13=>ifB v13 (
 opt (addOff v1 1) fun v14=>opt (load1 v14 H3) fun v15=>Q v15 H3) (
 opt (addOff v1 0) fun v16=>opt (load1 v16 H3) fun v17=>opt (ixSlc 2 v17 v11) fun v18=>opt (addOff v18 1) fun v19=>opt (load1 v19 H3) fun v20=>opt (lenSlc v20) fun v21=>LoopL (fun l H X0=>F.f25_l1 E Q (nth l 0) (nth l 1) (nth l 2) (nth l 3) (nth l 4) H X0) [v1,v2,v20,v21,(.int .i64 0)] H3))

def F.f13 (E:Sy) (x0 x1:Value) (H:AH) (Q:VK):Prop :=
 mk (boxO x0) H fun v1 H1=>opt (loadN 6 v1 H1) fun v2=>E.call (E.fid i.f74) [v2,x1] H1 fun v3 H2=>opt (binInt .neq v3 (.int .i64 0)) fun v4=>ifB v4 (
 Q (.tuple #[(.slice none 0 0),v3]) H2) (
 opt (loadN 6 v1 H2) fun v5=>E.call (E.fid i.f22) [v5] H2 fun v6 H3=>E.call (E.fid i.f49) [v6] H3 fun v7 H4=>E.call (E.fid i.f14) [v7] H4 fun v8 H5=>E.call (E.fid i.f40) [v8] H5 fun v9 H6=>E.call (E.fid i.f39) [v9] H6 fun v10 H7=>opt (ext v10 0) fun v11=>opt (ext v10 1) fun v12=>E.call (E.fid i.f39) [v8] H7 fun v13 H8=>opt (ext v13 0) fun v14=>opt (ext v13 1) fun v15=>opt (binInt .neq v12 (.int .i64 0)) fun v16=>gd v16 false (fun k=>k v15 H8) H8 fun v17 H9=>gd v16 false (fun k=>opt (binInt .eql v17 (.int .i64 0)) fun v=>k v H9) H9 fun v18 H10=>gd v16 false (fun k=>k v18 H10) H10 fun v19 H11=>gd v19 true (fun k=>k v14 H11) H11 fun v20 H12=>gd v19 true (fun k=>opt (lenSlc v20) fun v=>k v H12) H12 fun v21 H13=>gd v19 true (fun k=>k v11 H13) H13 fun v22 H14=>gd v19 true (fun k=>opt (lenSlc v22) fun v=>k v H14) H14 fun v23 H15=>gd v19 true (fun k=>opt (binInt .lss v21 v23) fun v=>k v H15) H15 fun v24 H16=>gd v16 false (fun k=>opt (pick v19 v24 (.bool false)) fun v=>k v H16) H16 fun v25 H17=>opt (pick v16 (.bool true) v25) fun v26=>ifB v26 (
 Q (.tuple #[v14,v15]) H17) (
 Q (.tuple #[v11,(.int .i64 0)]) H17))

def F.f81 (E:Sy) (x0:Value) (H:AH) (Q:VK):Prop :=
 opt (fold2 max2 [x0,(.int .i64 0)]) fun v1=>opt (fold2 min2 [v1,(.int .i64 4095)]) fun v2=>opt (convInt .u32 v2) fun v3=>opt (binInt .or (.int .u32 327680) v3) fun v4=>Q v4 H

def F.f69 (E:Sy) (H:AH) (Q:VK):Prop :=
 mk (buildS 12 1 #[(.int .u64 0)] [(0,(.int .u64 0)),(1,(.int .u64 1)),(2,(.int .u64 2)),(3,(.int .u64 3)),(4,(.int .u64 5)),(5,(.int .u64 255)),(6,(.int .u64 4294967295)),(7,(.int .u64 4294967296)),(8,(.int .u64 4294967297)),(9,(.int .u64 8589934597)),(10,(.int .u64 9223372036854775810)),(11,(.int .u64 18446744073709551615))]) H fun v1 H1=>Q v1 H1

def F.f3 (E:Sy) (x0 x1 x2:Value) (H:AH) (Q:VK):Prop :=
 mk (boxO x0) H fun v1 H1=>opt (binInt .sub x2 x1) fun v2=>opt (binInt .sub v2 (.int .i64 1)) fun v3=>opt (addOff v1 0) fun v4=>opt (load1 v4 H1) fun v5=>E.call (E.fid i.f17) [v5] H1 fun v6 H2=>opt (un .not v6) fun v7=>ifB v7 (
 Q (.int .i64 208) H2) (
 opt (addOff v1 0) fun v8=>opt (load1 v8 H2) fun v9=>opt (binInt .eql v9 (.int .u16 5)) fun v10=>gd v10 true (fun k=>opt (addOff v1 3) fun v=>k v H2) H2 fun v11 H3=>gd v10 true (fun k=>opt (load1 v11 H3) fun v=>k v H3) H3 fun v12 H4=>gd v10 true (fun k=>opt (convInt .u64 v12) fun v=>k v H4) H4 fun v13 H5=>gd v10 true (fun k=>k v3 H5) H5 fun v14 H6=>gd v10 true (fun k=>opt (convInt .u64 v14) fun v=>k v H6) H6 fun v15 H7=>gd v10 true (fun k=>opt (binInt .geq v13 v15) fun v=>k v H7) H7 fun v16 H8=>opt (pick v10 v16 (.bool false)) fun v17=>ifB v17 (
 Q (.int .i64 207) H8) (
 opt (addOff v1 0) fun v18=>opt (load1 v18 H8) fun v19=>E.call (E.fid i.f15) [v19] H8 fun v20 H9=>opt (binInt .eql v20 (.int .u16 5)) fun v21=>gd v21 true (fun k=>opt (addOff v1 0) fun v=>k v H9) H9 fun v22 H10=>gd v21 true (fun k=>opt (load1 v22 H10) fun v=>k v H10) H10 fun v23 H11=>gd v21 true (fun k=>opt (binInt .neq v23 (.int .u16 5)) fun v=>k v H11) H11 fun v24 H12=>opt (pick v21 v24 (.bool false)) fun v25=>gd v25 true (fun k=>opt (addOff v1 1) fun v=>k v H12) H12 fun v26 H13=>gd v25 true (fun k=>opt (load1 v26 H13) fun v=>k v H13) H13 fun v27 H14=>gd v25 true (fun k=>opt (addOff v1 2) fun v=>k v H14) H14 fun v28 H15=>gd v25 true (fun k=>opt (load1 v28 H15) fun v=>k v H15) H15 fun v29 H16=>gd v25 true (fun k=>opt (fold2 max2 [v27,v29]) fun v=>k v H16) H16 fun v30 H17=>gd v25 true (fun k=>opt (convInt .i64 v30) fun v=>k v H17) H17 fun v31 H18=>gd v25 true (fun k=>k v3 H18) H18 fun v32 H19=>gd v25 true (fun k=>opt (binInt .geq v31 v32) fun v=>k v H19) H19 fun v33 H20=>opt (pick v25 v33 (.bool false)) fun v34=>ifB v34 (
 Q (.int .i64 207) H20) (
 opt (addOff v1 0) fun v35=>opt (load1 v35 H20) fun v36=>opt (binInt .eql v36 (.int .u16 32)) fun v37=>gd v37 true (fun k=>opt (addOff v1 3) fun v=>k v H20) H20 fun v38 H21=>gd v37 true (fun k=>opt (load1 v38 H21) fun v=>k v H21) H21 fun v39 H22=>gd v37 true (fun k=>opt (binInt .rem v39 (.int .u32 4)) fun v=>k v H22) H22 fun v40 H23=>gd v37 true (fun k=>opt (binInt .neq v40 (.int .u32 0)) fun v=>k v H23) H23 fun v41 H24=>gd v37 true (fun k=>k v41 H24) H24 fun v42 H25=>gd v42 false (fun k=>opt (addOff v1 3) fun v=>k v H25) H25 fun v43 H26=>gd v42 false (fun k=>opt (load1 v43 H26) fun v=>k v H26) H26 fun v44 H27=>gd v42 false (fun k=>opt (binInt .gtr v44 (.int .u32 60)) fun v=>k v H27) H27 fun v45 H28=>gd v37 true (fun k=>opt (pick v42 (.bool true) v45) fun v=>k v H28) H28 fun v46 H29=>opt (pick v37 v46 (.bool false)) fun v47=>ifB v47 (
 Q (.int .i64 204) H29) (
 opt (addOff v1 0) fun v48=>opt (load1 v48 H29) fun v49=>E.call (E.fid i.f4) [v49] H29 fun v50 H30=>gd v50 true (fun k=>opt (addOff v1 3) fun v=>k v H30) H30 fun v51 H31=>gd v50 true (fun k=>opt (load1 v51 H31) fun v=>k v H31) H31 fun v52 H32=>gd v50 true (fun k=>opt (binInt .geq v52 (.int .u32 16)) fun v=>k v H32) H32 fun v53 H33=>opt (pick v50 v53 (.bool false)) fun v54=>ifB v54 (
 Q (.int .i64 204) H33) (
 opt (addOff v1 0) fun v55=>opt (load1 v55 H33) fun v56=>opt (binInt .eql v56 (.int .u16 52)) fun v57=>gd v57 true (fun k=>opt (addOff v1 3) fun v=>k v H33) H33 fun v58 H34=>gd v57 true (fun k=>opt (load1 v58 H34) fun v=>k v H34) H34 fun v59 H35=>gd v57 true (fun k=>opt (binInt .eql v59 (.int .u32 0)) fun v=>k v H35) H35 fun v60 H36=>opt (pick v57 v60 (.bool false)) fun v61=>ifB v61 (
 Q (.int .i64 204) H36) (
 opt (addOff v1 0) fun v62=>opt (load1 v62 H36) fun v63=>opt (binInt .eql v63 (.int .u16 100)) fun v64=>gd v64 false (fun k=>opt (addOff v1 0) fun v=>k v H36) H36 fun v65 H37=>gd v64 false (fun k=>opt (load1 v65 H37) fun v=>k v H37) H37 fun v66 H38=>gd v64 false (fun k=>opt (binInt .eql v66 (.int .u16 116)) fun v=>k v H38) H38 fun v67 H39=>opt (pick v64 (.bool true) v67) fun v68=>gd v68 true (fun k=>opt (addOff v1 3) fun v=>k v H39) H39 fun v69 H40=>gd v68 true (fun k=>opt (load1 v69 H40) fun v=>k v H40) H40 fun v70 H41=>gd v68 true (fun k=>opt (binInt .geq v70 (.int .u32 32)) fun v=>k v H41) H41 fun v71 H42=>opt (pick v68 v71 (.bool false)) fun v72=>ifB v72 (
 Q (.int .i64 204) H42) (
 Q (.int .i64 0) H42)))))))

def F.f1 (E:Sy) (x0:Value) (H:AH) (Q:VK):Prop :=
 mk (boxO x0) H fun v1 H1=>opt (addOff v1 0) fun v2=>opt (load1 v2 H1) fun v3=>E.call (E.fid i.f15) [v3] H1 fun v4 H2=>opt (binInt .eql v4 (.int .u16 6)) fun v5=>Q v5 H2

def F.f2_l3 (E:Sy) (Q:VK) (X0:LK) (t2 t3 t7 t24 t25 t26 t58 t59 t60:Value) (H:AH) (X1:LK):Prop :=
 opt (binInt .lss t60 t59) fun v1=>ifB v1 (
 opt (ixSlc 1 t58 t60) fun v2=>opt (load1 v2 H) fun v3=>opt (ixSlc 1 t3 v3) fun v4=>opt (load1 v4 H) fun v5=>opt (binInt .and v5 t7) fun v6=>opt (ixSlc 1 t3 v3) fun v7=>opt (store1 v7 v6 H) fun H1=>opt (binInt .add t60 (.int .i64 1)) fun v8=>X1 [t2,t3,t7,t24,t25,t26,t58,t59,v8] H1) (
 opt (binInt .add t26 (.int .i64 1)) fun v9=>X0 [t2,t3,t24,t25,v9] H)
def F.f2_j1 (E:Sy) (Q:VK) (X0:LK) (t2 t3 t5 t6 t7 t24 t25 t26:Value) (H:AH):Prop :=
 opt (loadN 4 t6 H) fun v1=>E.call (E.fid i.f5) [v1,t5] H fun v2 H1=>opt (lenSlc v2) fun v3=>LoopL (fun l H X1=>F.f2_l3 E Q X0 (nth l 0) (nth l 1) (nth l 2) (nth l 3) (nth l 4) (nth l 5) (nth l 6) (nth l 7) (nth l 8) H X1) [t2,t3,t7,t24,t25,t26,v2,v3,(.int .i64 0)] H1
def F.f2_j3 (E:Sy) (Q:VK) (X0:LK) (t2 t3 t5 t6 t7 t24 t25 t26 t48:Value) (H:AH):Prop :=
 ifB t48 (
 opt (addOff t6 3) fun v1=>opt (load1 v1 H) fun v2=>opt (binInt .shl (.int .u16 1) v2) fun v3=>opt (binInt .or t7 v3) fun v4=>F.f2_j1 E Q X0 t2 t3 t5 t6 v4 t24 t25 t26 H) (
 F.f2_j1 E Q X0 t2 t3 t5 t6 t7 t24 t25 t26 H)
def F.f2_j2 (E:Sy) (Q:VK) (X0:LK) (t2 t3 t5 t6 t7 t24 t25 t26 t36 t37:Value) (H:AH):Prop :=
 ifB t37 (
 opt (addOff t6 3) fun v1=>opt (load1 v1 H) fun v2=>opt (binInt .shr t7 v2) fun v3=>opt (binInt .and v3 (.int .u16 1)) fun v4=>opt (binInt .eql v4 (.int .u16 0)) fun v5=>ifB v5 (
 opt (buildV [(0,1),(1,1)] #[(.int .i64 0),(.int .i64 0)] [(0,t5),(1,(.int .i64 2))]) fun v6=>opt (storeN 2 t2 v6 H) fun H1=>opt (loadN 2 t2 H1) fun v7=>Q v7 H1) (
 F.f2_j1 E Q X0 t2 t3 t5 t6 t7 t24 t25 t26 H)) (
 opt (binInt .eql t36 (.int .u16 2)) fun v8=>ifB v8 (
 F.f2_j3 E Q X0 t2 t3 t5 t6 t7 t24 t25 t26 v8 H) (
 opt (binInt .eql t36 (.int .u16 3)) fun v9=>F.f2_j3 E Q X0 t2 t3 t5 t6 t7 t24 t25 t26 v9 H))
def F.f2_l2 (E:Sy) (Q:VK) (t2 t3 t24 t25 t26:Value) (H:AH) (X0:LK):Prop :=
 opt (binInt .lss t26 t25) fun v1=>ifB v1 (
 opt (ixSlc 4 t24 t26) fun v2=>opt (loadN 4 v2 H) fun v3=>allocW [(.int .u16 0),(.int .u8 0),(.int .u8 0),(.int .u32 0)] H fun v4 H1=>opt (storeN 4 v4 v3 H1) fun H2=>opt (ixSlc 1 t3 t26) fun v5=>opt (load1 v5 H2) fun v6=>opt (addOff v4 0) fun v7=>opt (load1 v7 H2) fun v8=>opt (binInt .eql v8 (.int .u16 96)) fun v9=>ifB v9 (
 F.f2_j2 E Q X0 t2 t3 t26 v4 v6 t24 t25 t26 v8 v9 H2) (
 opt (binInt .eql v8 (.int .u16 97)) fun v10=>F.f2_j2 E Q X0 t2 t3 t26 v4 v6 t24 t25 t26 v8 v10 H2)) (
 opt (buildV [(0,1),(1,1)] #[(.int .i64 0),(.int .i64 0)] []) fun v11=>opt (storeN 2 t2 v11 H) fun H3=>opt (loadN 2 t2 H3) fun v12=>Q v12 H3)
def F.f2_l1 (E:Sy) (Q:VK) (t0 t2 t3 t14 t15:Value) (H:AH) (X0:LK):Prop :=
 opt (binInt .lss t15 t14) fun v1=>ifB v1 (
 opt (ixSlc 1 t3 t15) fun v2=>opt (store1 v2 (.int .u16 65535) H) fun H1=>opt (binInt .add t15 (.int .i64 1)) fun v3=>X0 [t0,t2,t3,t14,v3] H1) (
 opt (ixSlc 1 t3 (.int .i64 0)) fun v4=>opt (store1 v4 (.int .u16 0) H) fun H2=>opt (lenSlc t0) fun v5=>LoopL (fun l H X0=>F.f2_l2 E Q (nth l 0) (nth l 1) (nth l 2) (nth l 3) (nth l 4) H X0) [t2,t3,t0,v5,(.int .i64 0)] H2)
def F.f2 (E:Sy) (x0:Value) (H:AH) (Q:VK):Prop :=
 allocW [(.int .i64 0),(.int .i64 0)] H fun v1 H1=>opt (lenSlc x0) fun v2=>mk (makeS 1 2 #[(.int .u16 0)] v2 v2) H1 fun v3 H2=>opt (lenSlc v3) fun v4=>LoopL (fun l H X0=>F.f2_l1 E Q (nth l 0) (nth l 1) (nth l 2) (nth l 3) (nth l 4) H X0) [x0,v1,v3,v4,(.int .i64 0)] H2

def F.f93 (E:Sy) (x0 x1:Value) (H:AH) (Q:VK):Prop :=
 opt (lenSlc x0) fun v1=>E.call (E.fid i.f104) [x0,v1,x1] H fun v2 H1=>Q (.tuple #[]) H1

def F.f23 (E:Sy) (x0 x1:Value) (H:AH) (Q:VK):Prop :=
 mk (boxO x0) H fun v1 H1=>mk (boxO x1) H1 fun v2 H2=>opt (addOff v1 1) fun v3=>opt (load1 v3 H2) fun v4=>opt (addOff v2 1) fun v5=>opt (load1 v5 H2) fun v6=>E.call (E.fid i.f30) [v4] H2 fun v7 H3=>load1 v5 H3=load1 v5 H2 /\
 E.call (E.fid i.f30) [v6] H3 fun v8 H4=>E.call (E.fid i.f6) [v7,v8] H4 fun v9 H5=>Q v9 H5

def F.f28_l1 (E:Sy) (Q:VK) (t3 t7 t8 t9:Value) (H:AH) (X0:LK):Prop :=
 opt (binInt .lss t9 t8) fun v1=>ifB v1 (
 opt (ixSlc 3 t7 t9) fun v2=>opt (loadN 3 v2 H) fun v3=>allocW [(.int .u32 0),(.int .u32 0),(.slice none 0 0)] H fun v4 H1=>opt (storeN 3 v4 v3 H1) fun H2=>opt (addOff v4 2) fun v5=>opt (load1 v5 H2) fun v6=>opt (addOff v4 1) fun v7=>opt (load1 v7 H2) fun v8=>allocW [(.slice none 0 0),(.int .u32 0)] H2 fun v9 H3=>E.call (E.fid i.f31) [v6] H3 fun v10 H4=>H4.get H2.next=H3.get H2.next /\
 load1 v7 H4=load1 v7 H2 /\
 opt (buildV [(0,1),(1,1)] #[(.slice none 0 0),(.int .u32 0)] [(0,v10),(1,v8)]) fun v11=>opt (storeN 2 v9 v11 H4) fun H5=>opt (addOff v9 0) fun v12=>opt (load1 v12 H5) fun v13=>E.call (E.fid i.f29) [v13] H5 fun v14 H6=>ifB v14 (
 opt (binInt .add t9 (.int .i64 1)) fun v15=>X0 [t3,t7,t8,v15] H6) (
 opt (loadN 2 v9 H6) fun v16=>mk (buildS 1 2 #[(.slice none 0 0),(.int .u32 0)] [(0,v16)]) H6 fun v17 H7=>opt2 (app 2 32 t3 v17 H7) fun v18 H8=>opt (addOff v9 0) fun v19=>opt (load1 v19 H8) fun v20=>opt (lenSlc v20) fun v21=>opt (binInt .eql v21 (.int .i64 0)) fun v22=>ifB v22 (
 Q v18 H8) (
 opt (binInt .add t9 (.int .i64 1)) fun v23=>X0 [v18,t7,t8,v23] H8))) (
 Q t3 H)
def F.f28 (E:Sy) (x0:Value) (H:AH) (Q:VK):Prop :=
 opt (lenSlc x0) fun v1=>LoopL (fun l H X0=>F.f28_l1 E Q (nth l 0) (nth l 1) (nth l 2) (nth l 3) H X0) [(.slice none 0 0),x0,v1,(.int .i64 0)] H

def F.f92 (E:Sy) (x0 x1:Value) (H:AH) (Q:VK):Prop :=
 opt (lenSlc x0) fun v1=>opt (convInt .u64 v1) fun v2=>E.call (E.fid i.f57) [v2] H fun v3 H1=>E.call (E.fid i.f102) [x0,(.int .i64 0),v1,v3,x1] H1 fun v4 H2=>Q (.tuple #[]) H2

def F.f24 (E:Sy) (x0 x1:Value) (H:AH) (Q:VK):Prop :=
 mk (boxO x0) H fun v1 H1=>mk (boxO x1) H1 fun v2 H2=>opt (addOff v1 0) fun v3=>opt (load1 v3 H2) fun v4=>opt (addOff v2 0) fun v5=>opt (load1 v5 H2) fun v6=>E.call (E.fid i.f7) [v4,v6] H2 fun v7 H3=>Q v7 H3

def F.f115 (E:Sy) (x0 x1:Value) (H:AH) (Q:VK):Prop :=
 mk (boxO x1) H fun v1 H1=>opt (nilCk x0) fun v2=>opt (addOff v2 18) fun v3=>opt (load1 v3 H1) fun v4=>opt (binInt .add v4 (.int .i64 1)) fun v5=>opt (nilCk x0) fun v6=>opt (addOff v6 18) fun v7=>opt (store1 v7 v5 H1) fun H2=>opt (addOff v1 0) fun v8=>opt (load1 v8 H2) fun v9=>E.call (E.fid i.f15) [v9] H2 fun v10 H3=>opt (binInt .eql v10 (.int .u16 0)) fun v11=>ifB v11 (
 opt (loadN 4 v1 H3) fun v12=>E.call (E.fid i.f112) [x0,v12] H3 fun v13 H4=>opt (nilCk x0) fun v14=>opt (addOff v14 0) fun v15=>opt (store1 v15 v13 H4) fun H5=>Q (.tuple #[]) H5) (
 opt (binInt .eql v10 (.int .u16 1)) fun v16=>ifB v16 (
 opt (loadN 4 v1 H3) fun v17=>E.call (E.fid i.f112) [x0,v17] H3 fun v18 H6=>opt (nilCk x0) fun v19=>opt (addOff v19 1) fun v20=>opt (store1 v20 v18 H6) fun H7=>Q (.tuple #[]) H7) (
 opt (binInt .eql v10 (.int .u16 2)) fun v21=>ifB v21 (
 opt (addOff v1 3) fun v22=>opt (load1 v22 H3) fun v23=>opt (binInt .rem v23 (.int .u32 16)) fun v24=>opt (nilCk x0) fun v25=>opt (addOff v25 0) fun v26=>opt (load1 v26 H3) fun v27=>opt (nilCk x0) fun v28=>opt (addOff v28 2) fun v29=>opt (ixArr 16 1 v29 v24) fun v30=>opt (store1 v30 v27 H3) fun H8=>Q (.tuple #[]) H8) (
 opt (binInt .eql v10 (.int .u16 3)) fun v31=>ifB v31 (
 opt (addOff v1 3) fun v32=>opt (load1 v32 H3) fun v33=>opt (binInt .rem v33 (.int .u32 16)) fun v34=>opt (nilCk x0) fun v35=>opt (addOff v35 1) fun v36=>opt (load1 v36 H3) fun v37=>opt (nilCk x0) fun v38=>opt (addOff v38 2) fun v39=>opt (ixArr 16 1 v39 v34) fun v40=>opt (store1 v40 v37 H3) fun H9=>Q (.tuple #[]) H9) (
 opt (binInt .eql v10 (.int .u16 4)) fun v41=>ifB v41 (
 opt (loadN 4 v1 H3) fun v42=>E.call (E.fid i.f114) [x0,v42] H3 fun v43 H10=>Q (.tuple #[]) H10) (
 opt (binInt .eql v10 (.int .u16 5)) fun v44=>ifB v44 (
 opt (loadN 4 v1 H3) fun v45=>E.call (E.fid i.f111) [x0,v45] H3 fun v46 H11=>Q (.tuple #[]) H11) (
 opt (binInt .eql v10 (.int .u16 6)) fun v47=>ifB v47 (
 opt (addOff v1 3) fun v48=>opt (load1 v48 H3) fun v49=>opt (nilCk x0) fun v50=>opt (addOff v50 29) fun v51=>opt (store1 v51 (.bool true) H3) fun H12=>load1 v48 H12=load1 v48 H3 /\
 opt (nilCk x0) fun v52=>opt (addOff v52 28) fun v53=>opt (store1 v53 v49 H12) fun H13=>opt (addOff v1 0) fun v54=>opt (load1 v54 H13) fun v55=>opt (binInt .eql v55 (.int .u16 22)) fun v56=>ifB v56 (
 opt (nilCk x0) fun v57=>opt (addOff v57 0) fun v58=>opt (load1 v58 H13) fun v59=>opt (nilCk x0) fun v60=>opt (addOff v60 28) fun v61=>opt (store1 v61 v59 H13) fun H14=>Q (.tuple #[]) H14) (
 Q (.tuple #[]) H13)) (
 opt (binInt .eql v10 (.int .u16 7)) fun v62=>ifB v62 (
 opt (addOff v1 0) fun v63=>opt (load1 v63 H3) fun v64=>opt (binInt .eql v64 (.int .u16 7)) fun v65=>ifB v65 (
 opt (nilCk x0) fun v66=>opt (addOff v66 0) fun v67=>opt (load1 v67 H3) fun v68=>opt (nilCk x0) fun v69=>opt (addOff v69 1) fun v70=>opt (store1 v70 v68 H3) fun H15=>Q (.tuple #[]) H15) (
 opt (nilCk x0) fun v71=>opt (addOff v71 1) fun v72=>opt (load1 v72 H3) fun v73=>opt (nilCk x0) fun v74=>opt (addOff v74 0) fun v75=>opt (store1 v75 v73 H3) fun H16=>Q (.tuple #[]) H16)) (
 Q (.tuple #[]) H3))))))))

def F.f107 (E:Sy) (x0 x1:Value) (H:AH) (Q:VK):Prop :=
 opt (nilCk x0) fun v1=>opt (addOff v1 0) fun v2=>E.call (E.fid i.f106) [v2,x1] H fun v3 H1=>Q v3 H1

def F.f88_l1 (E:Sy) (Q:VK) (t0 t1 t2 t8 t9 t10:Value) (H:AH) (X0:LK):Prop :=
 opt (binInt .lss t9 t10) fun v1=>ifB v1 (
 opt (binInt .add t9 t10) fun v2=>opt (convInt .u64 v2) fun v3=>opt (binInt .shr v3 (.int .u64 1)) fun v4=>opt (convInt .i64 v4) fun v5=>opt (ixSlc 2 t0 v5) fun v6=>opt (loadN 2 v6 H) fun v7=>callV E.call t2 [v7,t1] H fun v8 H1=>opt (binInt .lss v8 (.int .i64 0)) fun v9=>ifB v9 (
 opt (binInt .add v5 (.int .i64 1)) fun v10=>X0 [t0,t1,t2,t8,v10,t10] H1) (
 X0 [t0,t1,t2,t8,t9,v5] H1)) (
 opt (binInt .lss t9 t8) fun v11=>gd v11 true (fun k=>k t2 H) H fun v12 H2=>gd v11 true (fun k=>k t0 H2) H2 fun v13 H3=>gd v11 true (fun k=>k t9 H3) H3 fun v14 H4=>gd v11 true (fun k=>opt (ixSlc 2 v13 v14) fun v=>k v H4) H4 fun v15 H5=>gd v11 true (fun k=>opt (loadN 2 v15 H5) fun v=>k v H5) H5 fun v16 H6=>gd v11 true (fun k=>k t1 H6) H6 fun v17 H7=>gd v11 true (fun k=>callV E.call v12 [v16,v17] H7 fun v h=>k v h) H7 fun v18 H8=>gd v11 true (fun k=>opt (binInt .eql v18 (.int .i64 0)) fun v=>k v H8) H8 fun v19 H9=>opt (pick v11 v19 (.bool false)) fun v20=>Q (.tuple #[t9,v20]) H9)
def F.f88 (E:Sy) (x0 x1 x2:Value) (H:AH) (Q:VK):Prop :=
 opt (lenSlc x0) fun v1=>LoopL (fun l H X0=>F.f88_l1 E Q (nth l 0) (nth l 1) (nth l 2) (nth l 3) (nth l 4) (nth l 5) H X0) [x0,x1,x2,v1,(.int .i64 0),v1] H

def F.f74_l1 (E:Sy) (Q:VK) (t1 t2 t45 t46 t47:Value) (H:AH) (X0:LK):Prop :=
 opt (binInt .lss t47 t46) fun v1=>ifB v1 (
 opt (ixSlc 3 t45 t47) fun v2=>opt (loadN 3 v2 H) fun v3=>allocW [(.int .u32 0),(.int .u32 0),(.slice none 0 0)] H fun v4 H1=>opt (storeN 3 v4 v3 H1) fun H2=>opt (loadN 3 v4 H2) fun v5=>E.call (E.fid i.f78) [v5,t1] H2 fun v6 H3=>opt (binInt .neq v6 (.int .i64 0)) fun v7=>ifB v7 (
 Q v6 H3) (
 opt (binInt .add t47 (.int .i64 1)) fun v8=>X0 [t1,t2,t45,t46,v8] H3)) (
 opt (loadN 6 t2 H) fun v9=>E.call (E.fid i.f76) [v9] H fun v10 H4=>opt (binInt .neq v10 (.int .i64 0)) fun v11=>ifB v11 (
 Q v10 H4) (
 opt (loadN 6 t2 H4) fun v12=>E.call (E.fid i.f77) [v12] H4 fun v13 H5=>Q v13 H5))
def F.f74 (E:Sy) (x0 x1:Value) (H:AH) (Q:VK):Prop :=
 mk (boxO x0) H fun v1 H1=>opt (binNil eqPtr .eql x1 (.pointer none)) fun v2=>ifB v2 (
 Q (.int .i64 201) H1) (
 opt (addOff v1 0) fun v3=>opt (load1 v3 H1) fun v4=>E.call (E.fid i.f62) [v4] H1 fun v5 H2=>opt (un .not v5) fun v6=>ifB v6 (
 Q (.int .i64 202) H2) (
 opt (addOff v1 1) fun v7=>opt (load1 v7 H2) fun v8=>E.call (E.fid i.f79) [v8] H2 fun v9 H3=>opt (un .not v9) fun v10=>ifB v10 (
 Q (.int .i64 210) H3) (
 opt (addOff v1 2) fun v11=>opt (load1 v11 H3) fun v12=>opt (lenSlc v12) fun v13=>opt (binInt .gtr v13 (.int .i64 64)) fun v14=>gd v14 false (fun k=>opt (addOff v1 4) fun v=>k v H3) H3 fun v15 H4=>gd v14 false (fun k=>opt (load1 v15 H4) fun v=>k v H4) H4 fun v16 H5=>gd v14 false (fun k=>opt (lenSlc v16) fun v=>k v H5) H5 fun v17 H6=>gd v14 false (fun k=>opt (binInt .gtr v17 (.int .i64 32)) fun v=>k v H6) H6 fun v18 H7=>opt (pick v14 (.bool true) v18) fun v19=>gd v19 false (fun k=>opt (addOff v1 5) fun v=>k v H7) H7 fun v20 H8=>gd v19 false (fun k=>opt (load1 v20 H8) fun v=>k v H8) H8 fun v21 H9=>gd v19 false (fun k=>opt (lenSlc v21) fun v=>k v H9) H9 fun v22 H10=>gd v19 false (fun k=>opt (binInt .gtr v22 (.int .i64 32)) fun v=>k v H10) H10 fun v23 H11=>opt (pick v19 (.bool true) v23) fun v24=>ifB v24 (
 Q (.int .i64 205) H11) (
 opt (addOff v1 3) fun v25=>opt (load1 v25 H11) fun v26=>E.call (E.fid i.f87) [v26] H11 fun v27 H12=>opt (un .not v27) fun v28=>ifB v28 (
 Q (.int .i64 204) H12) (
 opt (addOff v1 2) fun v29=>opt (load1 v29 H12) fun v30=>opt (lenSlc v30) fun v31=>LoopL (fun l H X0=>F.f74_l1 E Q (nth l 0) (nth l 1) (nth l 2) (nth l 3) (nth l 4) H X0) [x1,v1,v30,v31,(.int .i64 0)] H12)))))

def F.f49_l2 (E:Sy) (Q:VK) (t3 t6 t70 t71 t72:Value) (H:AH) (X0:LK):Prop :=
 opt (binInt .lss t72 t71) fun v1=>ifB v1 (
 opt (ixSlc 2 t70 t72) fun v2=>opt (loadN 2 v2 H) fun v3=>allocW [(.int .u32 0),(.slice none 0 0)] H fun v4 H1=>opt (storeN 2 v4 v3 H1) fun H2=>opt (nilCk t3) fun v5=>opt (addOff v5 0) fun v6=>opt (addOff v4 0) fun v7=>opt (load1 v7 H2) fun v8=>opt (look 0 (.int .i64 0) false t6 v8 H2) fun v9=>E.call (E.fid i.f33) [v6,v9] H2 fun v10 H3=>opt (addOff v4 1) fun v11=>opt (load1 v11 H3) fun v12=>E.call (E.fid i.f51) [t3,v12] H3 fun v13 H4=>opt (binInt .add t72 (.int .i64 1)) fun v14=>X0 [t3,t6,t70,t71,v14] H4) (
 E.call (E.fid i.f54) [t3] H fun v15 H5=>opt (nilCk t3) fun v16=>opt (addOff v16 0) fun v17=>E.call (E.fid i.f36) [v17] H5 fun v18 H6=>Q v18 H6)
def F.f49_l1 (E:Sy) (Q:VK) (t1 t3 t6 t45 t46 t47:Value) (H:AH) (X0:LK):Prop :=
 opt (binInt .lss t47 t46) fun v1=>ifB v1 (
 opt (ixSlc 2 t45 t47) fun v2=>opt (loadN 2 v2 H) fun v3=>allocW [(.int .u32 0),(.slice none 0 0)] H fun v4 H1=>opt (storeN 2 v4 v3 H1) fun H2=>opt (addOff v4 0) fun v5=>opt (load1 v5 H2) fun v6=>opt (nilCk t3) fun v7=>opt (addOff v7 0) fun v8=>E.call (E.fid i.f35) [v8] H2 fun v9 H3=>load1 v5 H3=load1 v5 H2 /\
 opt (setMap 0 t6 v6 v9 H3) fun H4=>opt (binInt .add t47 (.int .i64 1)) fun v10=>X0 [t1,t3,t6,t45,t46,v10] H4) (
 opt (nilCk t3) fun v11=>opt (addOff v11 0) fun v12=>E.call (E.fid i.f18) [(.int .u32 0)] H fun v13 H5=>E.call (E.fid i.f37) [v12,v13] H5 fun v14 H6=>opt (addOff t1 0) fun v15=>opt (load1 v15 H6) fun v16=>E.call (E.fid i.f52) [t3,v16,t6] H6 fun v17 H7=>opt (addOff t1 0) fun v18=>opt (load1 v18 H7) fun v19=>opt (lenSlc v19) fun v20=>LoopL (fun l H X0=>F.f49_l2 E Q (nth l 0) (nth l 1) (nth l 2) (nth l 3) (nth l 4) H X0) [t3,t6,v19,v20,(.int .i64 0)] H7)
def F.f49 (E:Sy) (x0:Value) (H:AH) (Q:VK):Prop :=
 mk (boxO x0) H fun v1 H1=>mapW H1 fun v2 H2=>opt (buildV [(0,2),(2,1),(3,1),(4,1)] #[(.slice none 0 0),(.int .i64 0),(.int .i64 0),(.map none),(.slice none 0 0)] [(2,v2)]) fun v3=>mk (boxO v3) H2 fun v4 H3=>opt (addOff v1 1) fun v5=>opt (load1 v5 H3) fun v6=>E.call (E.fid i.f50) [v4,v6] H3 fun v7 H4=>opt (nilCk v4) fun v8=>opt (addOff v8 2) fun v9=>opt (store1 v9 v7 H4) fun H5=>opt (nilCk v4) fun v10=>opt (addOff v10 0) fun v11=>E.call (E.fid i.f50) [v4,(.int .u32 2147483648)] H5 fun v12 H6=>E.call (E.fid i.f35) [v11] H6 fun v13 H7=>opt (nilCk v4) fun v14=>opt (addOff v14 0) fun v15=>E.call (E.fid i.f18) [(.int .u32 4)] H7 fun v16 H8=>E.call (E.fid i.f37) [v15,v16] H8 fun v17 H9=>opt (nilCk v4) fun v18=>opt (addOff v18 0) fun v19=>E.call (E.fid i.f34) [v19,(.int .u16 16),(.int .u32 3221225534),v13,v12] H9 fun v20 H10=>opt (nilCk v4) fun v21=>opt (addOff v21 0) fun v22=>E.call (E.fid i.f33) [v22,v13] H10 fun v23 H11=>mapW H11 fun v24 H12=>opt (addOff v1 0) fun v25=>opt (load1 v25 H12) fun v26=>opt (lenSlc v26) fun v27=>LoopL (fun l H X0=>F.f49_l1 E Q (nth l 0) (nth l 1) (nth l 2) (nth l 3) (nth l 4) (nth l 5) H X0) [v1,v4,v24,v26,v27,(.int .i64 0)] H12

def F.f14_j1 (E:Sy) (Q:VK) (X0:LK) (t3 t4 t6 t7 t8 t9:Value) (H:AH):Prop :=
 opt (loadN 7 t6 H) fun v1=>mk (buildS 1 7 #[(.int .u8 0),(.int .i64 0),(.int .i64 0),(.int .u16 0),(.int .u8 0),(.int .u8 0),(.int .u32 0)] [(0,v1)]) H fun v2 H1=>opt2 (app 7 32 t3 v2 H1) fun v3 H2=>opt (binInt .add t9 (.int .i64 1)) fun v4=>X0 [v3,t4,t7,t8,v4] H2
def F.f14_l1 (E:Sy) (Q:VK) (t3 t4 t7 t8 t9:Value) (H:AH) (X0:LK):Prop :=
 opt (binInt .lss t9 t8) fun v1=>ifB v1 (
 opt (ixSlc 7 t7 t9) fun v2=>opt (loadN 7 v2 H) fun v3=>allocW [(.int .u8 0),(.int .i64 0),(.int .i64 0),(.int .u16 0),(.int .u8 0),(.int .u8 0),(.int .u32 0)] H fun v4 H1=>opt (storeN 7 v4 v3 H1) fun H2=>opt (addOff v4 0) fun v5=>opt (load1 v5 H2) fun v6=>opt (binInt .eql v6 (.int .u8 1)) fun v7=>ifB v7 (
 opt (buildV [(0,1),(1,1)] #[(.bool false),(.int .u32 0)] []) fun v8=>opt (storeN 2 t4 v8 H2) fun H3=>F.f14_j1 E Q X0 t3 t4 v4 t7 t8 t9 H3) (
 opt (addOff v4 0) fun v9=>opt (load1 v9 H2) fun v10=>opt (binInt .eql v10 (.int .u8 2)) fun v11=>gd v11 true (fun k=>opt (addOff v4 3) fun v=>k v H2) H2 fun v12 H4=>gd v11 true (fun k=>opt (addOff v12 0) fun v=>k v H4) H4 fun v13 H5=>gd v11 true (fun k=>opt (load1 v13 H5) fun v=>k v H5) H5 fun v14 H6=>gd v11 true (fun k=>opt (binInt .eql v14 (.int .u16 32)) fun v=>k v H6) H6 fun v15 H7=>opt (pick v11 v15 (.bool false)) fun v16=>ifB v16 (
 opt (loadN 2 t4 H7) fun v17=>opt (addOff v4 3) fun v18=>opt (addOff v18 3) fun v19=>opt (load1 v19 H7) fun v20=>opt (buildV [(0,1),(1,1)] #[(.bool false),(.int .u32 0)] [(0,(.bool true)),(1,v20)]) fun v21=>opt (binAgg [2,0] .eql v17 v21) fun v22=>ifB v22 (
 opt (binInt .add t9 (.int .i64 1)) fun v23=>X0 [t3,t4,t7,t8,v23] H7) (
 opt (addOff v4 3) fun v24=>opt (addOff v24 3) fun v25=>opt (load1 v25 H7) fun v26=>opt (buildV [(0,1),(1,1)] #[(.bool false),(.int .u32 0)] [(0,(.bool true)),(1,v26)]) fun v27=>opt (storeN 2 t4 v27 H7) fun H8=>F.f14_j1 E Q X0 t3 t4 v4 t7 t8 t9 H8)) (
 opt (addOff v4 0) fun v28=>opt (load1 v28 H7) fun v29=>opt (binInt .eql v29 (.int .u8 2)) fun v30=>ifB v30 (
 opt (buildV [(0,1),(1,1)] #[(.bool false),(.int .u32 0)] []) fun v31=>opt (storeN 2 t4 v31 H7) fun H9=>F.f14_j1 E Q X0 t3 t4 v4 t7 t8 t9 H9) (
 F.f14_j1 E Q X0 t3 t4 v4 t7 t8 t9 H7)))) (
 Q t3 H)
def F.f14 (E:Sy) (x0:Value) (H:AH) (Q:VK):Prop :=
 allocW [(.bool false),(.int .u32 0)] H fun v1 H1=>opt (lenSlc x0) fun v2=>LoopL (fun l H X0=>F.f14_l1 E Q (nth l 0) (nth l 1) (nth l 2) (nth l 3) (nth l 4) H X0) [(.slice none 0 0),v1,x0,v2,(.int .i64 0)] H1

def F.f40_l1 (E:Sy) (Q:VK) (t0:Value) (H:AH) (X0:LK):Prop :=
 E.call (E.fid i.f47) [t0] H fun v1 H1=>opt (lenSlc v1) fun v2=>opt (lenSlc t0) fun v3=>opt (binInt .eql v2 v3) fun v4=>ifB v4 (
 Q v1 H1) (
 X0 [v1] H1)
def F.f40 (E:Sy) (x0:Value) (H:AH) (Q:VK):Prop :=
 LoopL (fun l H X0=>F.f40_l1 E Q (nth l 0) H X0) [x0] H

def F.f39_l2 (E:Sy) (Q:VK) (t4 t7 t8:Value) (H:AH) (X0:LK):Prop :=
 opt (binInt .geq t8 (.int .i64 0)) fun v1=>ifB v1 (
 opt (nilCk t4) fun v2=>opt (addOff v2 0) fun v3=>opt (load1 v3 H) fun v4=>opt (ixSlc 4 v4 t8) fun v5=>opt (loadN 4 v5 H) fun v6=>mk (buildS 1 4 #[(.int .u16 0),(.int .u8 0),(.int .u8 0),(.int .u32 0)] [(0,v6)]) H fun v7 H1=>opt2 (app 4 8 t7 v7 H1) fun v8 H2=>opt (binInt .sub t8 (.int .i64 1)) fun v9=>X0 [t4,v8,v9] H2) (
 Q (.tuple #[t7,(.int .i64 0)]) H)
def F.f39_l1 (E:Sy) (Q:VK) (t0 t4 t5:Value) (H:AH) (X0:LK):Prop :=
 opt (binInt .geq t5 (.int .i64 0)) fun v1=>ifB v1 (
 opt (ixSlc 7 t0 t5) fun v2=>opt (loadN 7 v2 H) fun v3=>E.call (E.fid i.f46) [t4,v3] H fun v4 H1=>opt (binInt .neq v4 (.int .i64 0)) fun v5=>ifB v5 (
 Q (.tuple #[(.slice none 0 0),v4]) H1) (
 opt (nilCk t4) fun v6=>opt (addOff v6 0) fun v7=>opt (load1 v7 H1) fun v8=>opt (lenSlc v8) fun v9=>opt (binInt .gtr v9 (.int .i64 4096)) fun v10=>ifB v10 (
 Q (.tuple #[(.slice none 0 0),(.int .i64 205)]) H1) (
 opt (binInt .sub t5 (.int .i64 1)) fun v11=>X0 [t0,t4,v11] H1))) (
 opt (nilCk t4) fun v12=>opt (addOff v12 0) fun v13=>opt (load1 v13 H) fun v14=>opt (lenSlc v14) fun v15=>mk (makeS 4 8 #[(.int .u16 0),(.int .u8 0),(.int .u8 0),(.int .u32 0)] (.int .i64 0) v15) H fun v16 H2=>opt (nilCk t4) fun v17=>opt (addOff v17 0) fun v18=>opt (load1 v18 H2) fun v19=>opt (lenSlc v19) fun v20=>opt (binInt .sub v20 (.int .i64 1)) fun v21=>LoopL (fun l H X0=>F.f39_l2 E Q (nth l 0) (nth l 1) (nth l 2) H X0) [t4,v16,v21] H2)
def F.f39 (E:Sy) (x0:Value) (H:AH) (Q:VK):Prop :=
 mapW H fun v1 H1=>opt (buildV [(0,1),(1,1)] #[(.slice none 0 0),(.map none)] [(1,v1)]) fun v2=>mk (boxO v2) H1 fun v3 H2=>opt (lenSlc x0) fun v4=>opt (binInt .sub v4 (.int .i64 1)) fun v5=>LoopL (fun l H X0=>F.f39_l1 E Q (nth l 0) (nth l 1) (nth l 2) H X0) [x0,v3,v5] H2

def F.f17_j3 (E:Sy) (Q:VK) (t0 t44:Value) (H:AH):Prop :=
 ifB t44 (
 E.call (E.fid i.f15) [t0] H fun v1 H1=>opt (binInt .eql v1 (.int .u16 5)) fun v2=>Q v2 H1) (
 Q (.bool false) H)
def F.f17_j2 (E:Sy) (Q:VK) (t0 t3:Value) (H:AH):Prop :=
 opt (binInt .or t3 (.int .u16 7)) fun v1=>opt (binInt .andNot t0 v1) fun v2=>opt (binInt .eql v2 (.int .u16 16)) fun v3=>ifB v3 (
 F.f17_j3 E Q t0 v3 H) (
 opt (binInt .eql v2 (.int .u16 32)) fun v4=>ifB v4 (
 F.f17_j3 E Q t0 v4 H) (
 opt (binInt .eql v2 (.int .u16 48)) fun v5=>ifB v5 (
 F.f17_j3 E Q t0 v5 H) (
 opt (binInt .eql v2 (.int .u16 64)) fun v6=>F.f17_j3 E Q t0 v6 H)))
def F.f17_j4 (E:Sy) (Q:VK) (t0 t3 t27:Value) (H:AH):Prop :=
 ifB t27 (
 E.call (E.fid i.f15) [t0] H fun v1 H1=>opt (binInt .eql v1 (.int .u16 4)) fun v2=>ifB v2 (
 Q (.bool true) H1) (
 F.f17_j2 E Q t0 t3 H1)) (
 F.f17_j2 E Q t0 t3 H)
def F.f17_j1 (E:Sy) (Q:VK) (t0 t5:Value) (H:AH):Prop :=
 ifB t5 (
 Q (.bool true) H) (
 opt (binInt .and t0 (.int .u16 8)) fun v1=>opt (binInt .or v1 (.int .u16 7)) fun v2=>opt (binInt .andNot t0 v2) fun v3=>opt (binInt .eql v3 (.int .u16 0)) fun v4=>ifB v4 (
 F.f17_j4 E Q t0 v1 v4 H) (
 opt (binInt .eql v3 (.int .u16 16)) fun v5=>ifB v5 (
 F.f17_j4 E Q t0 v1 v5 H) (
 opt (binInt .eql v3 (.int .u16 32)) fun v6=>ifB v6 (
 F.f17_j4 E Q t0 v1 v6 H) (
 opt (binInt .eql v3 (.int .u16 48)) fun v7=>ifB v7 (
 F.f17_j4 E Q t0 v1 v7 H) (
 opt (binInt .eql v3 (.int .u16 64)) fun v8=>ifB v8 (
 F.f17_j4 E Q t0 v1 v8 H) (
 opt (binInt .eql v3 (.int .u16 80)) fun v9=>ifB v9 (
 F.f17_j4 E Q t0 v1 v9 H) (
 opt (binInt .eql v3 (.int .u16 96)) fun v10=>ifB v10 (
 F.f17_j4 E Q t0 v1 v10 H) (
 opt (binInt .eql v3 (.int .u16 112)) fun v11=>ifB v11 (
 F.f17_j4 E Q t0 v1 v11 H) (
 opt (binInt .eql v3 (.int .u16 160)) fun v12=>F.f17_j4 E Q t0 v1 v12 H)))))))))
def F.f17 (E:Sy) (x0:Value) (H:AH) (Q:VK):Prop :=
 opt (binInt .eql x0 (.int .u16 32)) fun v1=>ifB v1 (
 F.f17_j1 E Q x0 v1 H) (
 opt (binInt .eql x0 (.int .u16 0)) fun v2=>ifB v2 (
 F.f17_j1 E Q x0 v2 H) (
 opt (binInt .eql x0 (.int .u16 96)) fun v3=>ifB v3 (
 F.f17_j1 E Q x0 v3 H) (
 opt (binInt .eql x0 (.int .u16 128)) fun v4=>ifB v4 (
 F.f17_j1 E Q x0 v4 H) (
 opt (binInt .eql x0 (.int .u16 1)) fun v5=>ifB v5 (
 F.f17_j1 E Q x0 v5 H) (
 opt (binInt .eql x0 (.int .u16 97)) fun v6=>ifB v6 (
 F.f17_j1 E Q x0 v6 H) (
 opt (binInt .eql x0 (.int .u16 129)) fun v7=>ifB v7 (
 F.f17_j1 E Q x0 v7 H) (
 opt (binInt .eql x0 (.int .u16 2)) fun v8=>ifB v8 (
 F.f17_j1 E Q x0 v8 H) (
 opt (binInt .eql x0 (.int .u16 3)) fun v9=>ifB v9 (
 F.f17_j1 E Q x0 v9 H) (
 opt (binInt .eql x0 (.int .u16 6)) fun v10=>ifB v10 (
 F.f17_j1 E Q x0 v10 H) (
 opt (binInt .eql x0 (.int .u16 22)) fun v11=>ifB v11 (
 F.f17_j1 E Q x0 v11 H) (
 opt (binInt .eql x0 (.int .u16 7)) fun v12=>ifB v12 (
 F.f17_j1 E Q x0 v12 H) (
 opt (binInt .eql x0 (.int .u16 135)) fun v13=>ifB v13 (
 F.f17_j1 E Q x0 v13 H) (
 opt (binInt .eql x0 (.int .u16 5)) fun v14=>ifB v14 (
 F.f17_j1 E Q x0 v14 H) (
 opt (binInt .eql x0 (.int .u16 132)) fun v15=>F.f17_j1 E Q x0 v15 H))))))))))))))

def F.f15 (E:Sy) (x0:Value) (H:AH) (Q:VK):Prop :=
 opt (binInt .and x0 (.int .u16 7)) fun v1=>Q v1 H

def F.f4_j1 (E:Sy) (Q:VK) (t4:Value) (H:AH):Prop :=
 ifB t4 (
 Q (.bool true) H) (
 Q (.bool false) H)
def F.f4 (E:Sy) (x0:Value) (H:AH) (Q:VK):Prop :=
 opt (binInt .eql x0 (.int .u16 96)) fun v1=>ifB v1 (
 F.f4_j1 E Q v1 H) (
 opt (binInt .eql x0 (.int .u16 97)) fun v2=>ifB v2 (
 F.f4_j1 E Q v2 H) (
 opt (binInt .eql x0 (.int .u16 2)) fun v3=>ifB v3 (
 F.f4_j1 E Q v3 H) (
 opt (binInt .eql x0 (.int .u16 3)) fun v4=>F.f4_j1 E Q v4 H)))

def F.f5 (E:Sy) (x0 x1:Value) (H:AH) (Q:VK):Prop :=
 mk (boxO x0) H fun v1 H1=>opt (loadN 4 v1 H1) fun v2=>E.call (E.fid i.f1) [v2] H1 fun v3 H2=>ifB v3 (
 Q (.slice none 0 0) H2) (
 opt (addOff v1 0) fun v4=>opt (load1 v4 H2) fun v5=>opt (binInt .eql v5 (.int .u16 5)) fun v6=>ifB v6 (
 opt (binInt .add x1 (.int .i64 1)) fun v7=>opt (addOff v1 3) fun v8=>opt (load1 v8 H2) fun v9=>opt (convInt .i64 v9) fun v10=>opt (binInt .add v7 v10) fun v11=>mk (buildS 1 1 #[(.int .i64 0)] [(0,v11)]) H2 fun v12 H3=>Q v12 H3) (
 opt (addOff v1 0) fun v13=>opt (load1 v13 H2) fun v14=>E.call (E.fid i.f15) [v14] H2 fun v15 H4=>opt (binInt .eql v15 (.int .u16 5)) fun v16=>ifB v16 (
 opt (binInt .add x1 (.int .i64 1)) fun v17=>opt (addOff v1 1) fun v18=>opt (load1 v18 H4) fun v19=>opt (convInt .i64 v19) fun v20=>opt (binInt .add v17 v20) fun v21=>opt (binInt .add x1 (.int .i64 1)) fun v22=>opt (addOff v1 2) fun v23=>opt (load1 v23 H4) fun v24=>opt (convInt .i64 v24) fun v25=>opt (binInt .add v22 v25) fun v26=>mk (buildS 2 1 #[(.int .i64 0)] [(0,v21),(1,v26)]) H4 fun v27 H5=>Q v27 H5) (
 opt (binInt .add x1 (.int .i64 1)) fun v28=>mk (buildS 1 1 #[(.int .i64 0)] [(0,v28)]) H4 fun v29 H6=>Q v29 H6)))

def F.f104_l3 (E:Sy) (Q:VK) (X0:LK) (t0 t1 t2 t6 t7 t8:Value) (H:AH) (X1:LK):Prop :=
 opt (binInt .leq t8 t1) fun v1=>ifB v1 (
 opt (binInt .add t7 t6) fun v2=>E.call (E.fid i.f105) [t0,t7,v2,t8,t2] H fun v3 H1=>opt (binInt .mul (.int .i64 2) t6) fun v4=>opt (binInt .add t8 v4) fun v5=>X1 [t0,t1,t2,t6,t8,v5] H1) (
 opt (binInt .add t7 t6) fun v6=>opt (binInt .lss v6 t1) fun v7=>ifB v7 (
 E.call (E.fid i.f105) [t0,t7,v6,t1,t2] H fun v8 H2=>opt (binInt .mul t6 (.int .i64 2)) fun v9=>X0 [t0,t1,t2,v9] H2) (
 opt (binInt .mul t6 (.int .i64 2)) fun v10=>X0 [t0,t1,t2,v10] H))
def F.f104_l2 (E:Sy) (Q:VK) (t0 t1 t2 t6:Value) (H:AH) (X0:LK):Prop :=
 opt (binInt .lss t6 t1) fun v1=>ifB v1 (
 opt (binInt .mul (.int .i64 2) t6) fun v2=>LoopL (fun l H X1=>F.f104_l3 E Q X0 (nth l 0) (nth l 1) (nth l 2) (nth l 3) (nth l 4) (nth l 5) H X1) [t0,t1,t2,t6,(.int .i64 0),v2] H) (
 Q (.tuple #[]) H)
def F.f104_l1 (E:Sy) (Q:VK) (t0 t1 t2 t6 t7 t8:Value) (H:AH) (X0:LK):Prop :=
 opt (binInt .leq t8 t1) fun v1=>ifB v1 (
 E.call (E.fid i.f98) [t0,t7,t8,t2] H fun v2 H1=>opt (binInt .add t8 t6) fun v3=>X0 [t0,t1,t2,t6,t8,v3] H1) (
 E.call (E.fid i.f98) [t0,t7,t1,t2] H fun v4 H2=>LoopL (fun l H X0=>F.f104_l2 E Q (nth l 0) (nth l 1) (nth l 2) (nth l 3) H X0) [t0,t1,t2,t6] H2)
def F.f104 (E:Sy) (x0 x1 x2:Value) (H:AH) (Q:VK):Prop :=
 LoopL (fun l H X0=>F.f104_l1 E Q (nth l 0) (nth l 1) (nth l 2) (nth l 3) (nth l 4) (nth l 5) H X0) [x0,x1,x2,(.int .i64 20),(.int .i64 0),(.int .i64 20)] H

def F.f30 (E:Sy) (x0:Value) (H:AH) (Q:VK):Prop :=
 opt (buildA 1 #[(.int .u32 0),(.int .u32 0),(.int .u32 0),(.int .u32 0)] [(0,(.int .u32 2147483648)),(1,(.int .u32 327680)),(2,(.int .u32 2147221504)),(3,(.int .u32 2147418112))]) fun v1=>allocW [(.int .u32 0),(.int .u32 0),(.int .u32 0),(.int .u32 0)] H fun v2 H1=>opt (storeN 4 v2 v1 H1) fun H2=>opt (slArr 4 1 v2 none none none) fun v3=>E.call (E.fid i.f80) [x0] H2 fun v4 H3=>E.call (E.fid i.f91) [v3,v4] H3 fun v5 H4=>Q v5 H4

def F.f6 (E:Sy) (x0 x1:Value) (H:AH) (Q:VK):Prop :=
 E.call (E.fid i.f8) [x0] H fun v1 H1=>E.call (E.fid i.f8) [x1] H1 fun v2 H2=>ifB v1 (
 ifB v2 (
 Q (.int .i64 0) H2) (
 Q (.int .i64 (-1)) H2)) (
 ifB v2 (
 Q (.int .i64 1) H2) (
 opt (binInt .lss x0 x1) fun v3=>ifB v3 (
 Q (.int .i64 (-1)) H2) (
 opt (binInt .gtr x0 x1) fun v4=>ifB v4 (
 Q (.int .i64 1) H2) (
 Q (.int .i64 0) H2))))

def F.f31_l1 (E:Sy) (Q:VK) (t3 t6 t7 t8:Value) (H:AH) (X0:LK):Prop :=
 opt (binInt .lss t8 t7) fun v1=>ifB v1 (
 opt (ixSlc 4 t6 t8) fun v2=>opt (loadN 4 v2 H) fun v3=>allocW [(.int .i64 0),(.int .u8 0),(.int .u64 0),(.int .u64 0)] H fun v4 H1=>opt (storeN 4 v4 v3 H1) fun H2=>opt (loadN 4 v4 H2) fun v5=>E.call (E.fid i.f27) [v5] H2 fun v6 H3=>opt (un .not v6) fun v7=>gd v7 true (fun k=>k t3 H3) H3 fun v8 H4=>gd v7 true (fun k=>opt (loadN 4 v4 H4) fun v=>k v H4) H4 fun v9 H5=>gd v7 true (fun k=>E.call (E.fid i.f89) [v8,v9] H5 fun v h=>k v h) H5 fun v10 H6=>gd v7 true (fun k=>opt (un .not v10) fun v=>k v H6) H6 fun v11 H7=>opt (pick v7 v11 (.bool false)) fun v12=>ifB v12 (
 opt (loadN 4 v4 H7) fun v13=>mk (buildS 1 4 #[(.int .i64 0),(.int .u8 0),(.int .u64 0),(.int .u64 0)] [(0,v13)]) H7 fun v14 H8=>opt2 (app 4 32 t3 v14 H8) fun v15 H9=>opt (binInt .add t8 (.int .i64 1)) fun v16=>X0 [v15,t6,t7,v16] H9) (
 opt (binInt .add t8 (.int .i64 1)) fun v17=>X0 [t3,t6,t7,v17] H7)) (
 Q t3 H)
def F.f31 (E:Sy) (x0:Value) (H:AH) (Q:VK):Prop :=
 opt (lenSlc x0) fun v1=>LoopL (fun l H X0=>F.f31_l1 E Q (nth l 0) (nth l 1) (nth l 2) (nth l 3) H X0) [(.slice none 0 0),x0,v1,(.int .i64 0)] H

def F.f29_l2 (E:Sy) (Q:VK) (X0:LK) (t0 t4 t7 t8 t9 t33 t34 t35:Value) (H:AH) (X1:LK):Prop :=
 opt (binInt .lss t35 t34) fun v1=>ifB v1 (
 opt (ixSlc 4 t33 t35) fun v2=>opt (loadN 4 v2 H) fun v3=>allocW [(.int .i64 0),(.int .u8 0),(.int .u64 0),(.int .u64 0)] H fun v4 H1=>opt (storeN 4 v4 v3 H1) fun H2=>opt (addOff t4 0) fun v5=>opt (load1 v5 H2) fun v6=>opt (addOff v4 0) fun v7=>opt (load1 v7 H2) fun v8=>opt (binInt .eql v6 v8) fun v9=>gd v9 true (fun k=>opt (addOff t4 1) fun v=>k v H2) H2 fun v10 H3=>gd v9 true (fun k=>opt (load1 v10 H3) fun v=>k v H3) H3 fun v11 H4=>gd v9 true (fun k=>opt (binInt .eql v11 (.int .u8 1)) fun v=>k v H4) H4 fun v12 H5=>opt (pick v9 v12 (.bool false)) fun v13=>gd v13 true (fun k=>opt (addOff v4 1) fun v=>k v H5) H5 fun v14 H6=>gd v13 true (fun k=>opt (load1 v14 H6) fun v=>k v H6) H6 fun v15 H7=>gd v13 true (fun k=>opt (binInt .eql v15 (.int .u8 1)) fun v=>k v H7) H7 fun v16 H8=>opt (pick v13 v16 (.bool false)) fun v17=>gd v17 true (fun k=>opt (addOff t4 3) fun v=>k v H8) H8 fun v18 H9=>gd v17 true (fun k=>opt (load1 v18 H9) fun v=>k v H9) H9 fun v19 H10=>gd v17 true (fun k=>opt (addOff v4 3) fun v=>k v H10) H10 fun v20 H11=>gd v17 true (fun k=>opt (load1 v20 H11) fun v=>k v H11) H11 fun v21 H12=>gd v17 true (fun k=>opt (binInt .neq v19 v21) fun v=>k v H12) H12 fun v22 H13=>opt (pick v17 v22 (.bool false)) fun v23=>ifB v23 (
 Q (.bool true) H13) (
 opt (binInt .add t35 (.int .i64 1)) fun v24=>X1 [t0,t4,t7,t8,t9,t33,t34,v24] H13)) (
 opt (binInt .add t9 (.int .i64 1)) fun v25=>X0 [t0,t7,t8,v25] H)
def F.f29_j1 (E:Sy) (Q:VK) (X0:LK) (t0 t3 t4 t7 t8 t9 t14:Value) (H:AH):Prop :=
 ifB t14 (
 Q (.bool true) H) (
 opt (slSlc 4 t0 none (some t3) none H) fun v1=>opt (lenSlc v1) fun v2=>LoopL (fun l H X1=>F.f29_l2 E Q X0 (nth l 0) (nth l 1) (nth l 2) (nth l 3) (nth l 4) (nth l 5) (nth l 6) (nth l 7) H X1) [t0,t4,t7,t8,t9,v1,v2,(.int .i64 0)] H)
def F.f29_l1 (E:Sy) (Q:VK) (t0 t7 t8 t9:Value) (H:AH) (X0:LK):Prop :=
 opt (binInt .lss t9 t8) fun v1=>ifB v1 (
 opt (ixSlc 4 t7 t9) fun v2=>opt (loadN 4 v2 H) fun v3=>allocW [(.int .i64 0),(.int .u8 0),(.int .u64 0),(.int .u64 0)] H fun v4 H1=>opt (storeN 4 v4 v3 H1) fun H2=>opt (addOff v4 1) fun v5=>opt (load1 v5 H2) fun v6=>opt (binInt .eql v6 (.int .u8 3)) fun v7=>gd v7 true (fun k=>opt (addOff v4 3) fun v=>k v H2) H2 fun v8 H3=>gd v7 true (fun k=>opt (load1 v8 H3) fun v=>k v H3) H3 fun v9 H4=>gd v7 true (fun k=>opt (binInt .eql v9 (.int .u64 0)) fun v=>k v H4) H4 fun v10 H5=>opt (pick v7 v10 (.bool false)) fun v11=>ifB v11 (
 F.f29_j1 E Q X0 t0 t9 v4 t7 t8 t9 v11 H5) (
 opt (addOff v4 1) fun v12=>opt (load1 v12 H5) fun v13=>opt (binInt .eql v13 (.int .u8 5)) fun v14=>gd v14 true (fun k=>opt (addOff v4 3) fun v=>k v H5) H5 fun v15 H6=>gd v14 true (fun k=>opt (load1 v15 H6) fun v=>k v H6) H6 fun v16 H7=>gd v14 true (fun k=>opt (binInt .eql v16 (.int .u64 18446744073709551615)) fun v=>k v H7) H7 fun v17 H8=>opt (pick v14 v17 (.bool false)) fun v18=>F.f29_j1 E Q X0 t0 t9 v4 t7 t8 t9 v18 H8)) (
 Q (.bool false) H)
def F.f29 (E:Sy) (x0:Value) (H:AH) (Q:VK):Prop :=
 opt (lenSlc x0) fun v1=>LoopL (fun l H X0=>F.f29_l1 E Q (nth l 0) (nth l 1) (nth l 2) (nth l 3) H X0) [x0,x0,v1,(.int .i64 0)] H

def F.f57 (E:Sy) (x0:Value) (H:AH) (Q:VK):Prop :=
 ifB (.bool false) (
 opt (convInt .u32 x0) fun v1=>E.call (E.fid i.f58) [v1] H fun v2 H1=>Q v2 H1) (
 E.call (E.fid i.f59) [x0] H fun v3 H2=>Q v3 H2)

def F.f102_j3 (E:Sy) (Q:VK) (X0:LK) (t0 t1 t2 t3 t4 t10 t11 t12 t13:Value) (H:AH):Prop :=
 opt (binInt .gtr t1 (.int .i64 0)) fun v1=>gd v1 true (fun k=>k t4 H) H fun v2 H1=>gd v1 true (fun k=>k t0 H1) H1 fun v3 H2=>gd v1 true (fun k=>k t1 H2) H2 fun v4 H3=>gd v1 true (fun k=>opt (binInt .sub v4 (.int .i64 1)) fun v=>k v H3) H3 fun v5 H4=>gd v1 true (fun k=>opt (ixSlc 2 v3 v5) fun v=>k v H4) H4 fun v6 H5=>gd v1 true (fun k=>opt (loadN 2 v6 H5) fun v=>k v H5) H5 fun v7 H6=>gd v1 true (fun k=>k t0 H6) H6 fun v8 H7=>gd v1 true (fun k=>k t13 H7) H7 fun v9 H8=>gd v1 true (fun k=>opt (ixSlc 2 v8 v9) fun v=>k v H8) H8 fun v10 H9=>gd v1 true (fun k=>opt (loadN 2 v10 H9) fun v=>k v H9) H9 fun v11 H10=>gd v1 true (fun k=>callV E.call v2 [v7,v11] H10 fun v h=>k v h) H10 fun v12 H11=>gd v1 true (fun k=>opt (binInt .lss v12 (.int .i64 0)) fun v=>k v H11) H11 fun v13 H12=>gd v1 true (fun k=>opt (un .not v13) fun v=>k v H12) H12 fun v14 H13=>opt (pick v1 v14 (.bool false)) fun v15=>ifB v15 (
 E.call (E.fid i.f101) [t0,t1,t2,t13,t4] H13 fun v16 H14=>X0 [t0,v16,t2,t3,t4,t10,t11] H14) (
 E.call (E.fid i.f100) [t0,t1,t2,t13,t4] H13 fun v17 H15=>opt (ext v17 0) fun v18=>opt (ext v17 1) fun v19=>opt (binInt .sub v18 t1) fun v20=>opt (binInt .sub t2 v18) fun v21=>opt (binInt .quo t12 (.int .i64 8)) fun v22=>opt (binInt .lss v20 v21) fun v23=>ifB v23 (
 opt (binInt .geq v20 v22) fun v24=>E.call (E.fid i.f102) [t0,t1,v18,t3,t4] H15 fun v25 H16=>opt (binInt .add v18 (.int .i64 1)) fun v26=>X0 [t0,v26,t2,t3,t4,v24,v19] H16) (
 opt (binInt .geq v21 v22) fun v27=>opt (binInt .add v18 (.int .i64 1)) fun v28=>E.call (E.fid i.f102) [t0,v28,t2,t3,t4] H15 fun v29 H17=>X0 [t0,t1,v18,t3,t4,v27,v19] H17))
def F.f102_j2 (E:Sy) (Q:VK) (X0:LK) (t0 t1 t2 t3 t4 t10 t11 t12 t13 t14:Value) (H:AH):Prop :=
 gd t10 true (fun k=>k t11 H) H fun v1 H1=>opt (pick t10 v1 (.bool false)) fun v2=>gd v2 true (fun k=>k t14 H1) H1 fun v3 H2=>gd v2 true (fun k=>opt (binInt .eql v3 (.int .i64 1)) fun v=>k v H2) H2 fun v4 H3=>opt (pick v2 v4 (.bool false)) fun v5=>ifB v5 (
 E.call (E.fid i.f99) [t0,t1,t2,t4] H3 fun v6 H4=>ifB v6 (
 Q (.tuple #[]) H4) (
 F.f102_j3 E Q X0 t0 t1 t2 t3 t4 t10 t11 t12 t13 H4)) (
 F.f102_j3 E Q X0 t0 t1 t2 t3 t4 t10 t11 t12 t13 H3)
def F.f102_j1 (E:Sy) (Q:VK) (X0:LK) (t0 t1 t2 t3 t4 t10 t11 t12:Value) (H:AH):Prop :=
 E.call (E.fid i.f95) [t0,t1,t2,t4] H fun v1 H1=>opt (ext v1 0) fun v2=>opt (ext v1 1) fun v3=>opt (binInt .eql v3 (.int .i64 2)) fun v4=>ifB v4 (
 E.call (E.fid i.f103) [t0,t1,t2,t4] H1 fun v5 H2=>opt (binInt .sub t2 (.int .i64 1)) fun v6=>opt (binInt .sub v2 t1) fun v7=>opt (binInt .sub v6 v7) fun v8=>F.f102_j2 E Q X0 t0 t1 t2 t3 t4 t10 t11 t12 v8 (.int .i64 1) H2) (
 F.f102_j2 E Q X0 t0 t1 t2 t3 t4 t10 t11 t12 v2 v3 H1)
def F.f102_l1 (E:Sy) (Q:VK) (t0 t1 t2 t3 t4 t10 t11:Value) (H:AH) (X0:LK):Prop :=
 opt (binInt .sub t2 t1) fun v1=>opt (binInt .leq v1 (.int .i64 12)) fun v2=>ifB v2 (
 E.call (E.fid i.f97) [t0,t1,t2,t4] H fun v3 H1=>Q (.tuple #[]) H1) (
 opt (binInt .eql t3 (.int .i64 0)) fun v4=>ifB v4 (
 E.call (E.fid i.f96) [t0,t1,t2,t4] H fun v5 H2=>Q (.tuple #[]) H2) (
 opt (un .not t10) fun v6=>ifB v6 (
 E.call (E.fid i.f94) [t0,t1,t2,t4] H fun v7 H3=>opt (binInt .sub t3 (.int .i64 1)) fun v8=>F.f102_j1 E Q X0 t0 t1 t2 v8 t4 t10 t11 v1 H3) (
 F.f102_j1 E Q X0 t0 t1 t2 t3 t4 t10 t11 v1 H)))
def F.f102 (E:Sy) (x0 x1 x2 x3 x4:Value) (H:AH) (Q:VK):Prop :=
 LoopL (fun l H X0=>F.f102_l1 E Q (nth l 0) (nth l 1) (nth l 2) (nth l 3) (nth l 4) (nth l 5) (nth l 6) H X0) [x0,x1,x2,x3,x4,(.bool true),(.bool true)] H

def F.f7 (E:Sy) (x0 x1:Value) (H:AH) (Q:VK):Prop :=
 E.call (E.fid i.f9) [x0] H fun v1 H1=>E.call (E.fid i.f9) [x1] H1 fun v2 H2=>ifB v1 (
 ifB v2 (
 Q (.int .i64 0) H2) (
 Q (.int .i64 (-1)) H2)) (
 ifB v2 (
 Q (.int .i64 1) H2) (
 opt (binInt .lss x0 x1) fun v3=>ifB v3 (
 Q (.int .i64 (-1)) H2) (
 opt (binInt .gtr x0 x1) fun v4=>ifB v4 (
 Q (.int .i64 1) H2) (
 Q (.int .i64 0) H2))))

def F.f112 (E:Sy) (x0 x1:Value) (H:AH) (Q:VK):Prop :=
 mk (boxO x1) H fun v1 H1=>opt (addOff v1 0) fun v2=>opt (load1 v2 H1) fun v3=>opt (binInt .andNot v3 (.int .u16 7)) fun v4=>opt (binInt .eql v4 (.int .u16 32)) fun v5=>ifB v5 (
 opt (nilCk x0) fun v6=>opt (addOff v6 19) fun v7=>opt (loadN 9 v7 H1) fun v8=>opt (addOff v1 3) fun v9=>opt (load1 v9 H1) fun v10=>E.call (E.fid i.f84) [v8,v10] H1 fun v11 H2=>opt (ext v11 0) fun v12=>opt (ext v11 1) fun v13=>Q v12 H2) (
 opt (binInt .eql v4 (.int .u16 96)) fun v14=>ifB v14 (
 opt (addOff v1 3) fun v15=>opt (load1 v15 H1) fun v16=>opt (binInt .rem v16 (.int .u32 16)) fun v17=>opt (nilCk x0) fun v18=>opt (addOff v18 2) fun v19=>opt (ixArr 16 1 v19 v17) fun v20=>opt (load1 v20 H1) fun v21=>Q v21 H1) (
 opt (binInt .eql v4 (.int .u16 128)) fun v22=>ifB v22 (
 Q (.int .u32 64) H1) (
 opt (addOff v1 3) fun v23=>opt (load1 v23 H1) fun v24=>Q v24 H1)))

def F.f114 (E:Sy) (x0 x1:Value) (H:AH) (Q:VK):Prop :=
 mk (boxO x1) H fun v1 H1=>opt (loadN 4 v1 H1) fun v2=>E.call (E.fid i.f113) [x0,v2] H1 fun v3 H2=>opt (addOff v1 0) fun v4=>opt (load1 v4 H2) fun v5=>opt (binInt .andNot v5 (.int .u16 15)) fun v6=>opt (binInt .eql v6 (.int .u16 0)) fun v7=>ifB v7 (
 opt (nilCk x0) fun v8=>opt (addOff v8 0) fun v9=>opt (load1 v9 H2) fun v10=>opt (binInt .add v10 v3) fun v11=>opt (nilCk x0) fun v12=>opt (addOff v12 0) fun v13=>opt (store1 v13 v11 H2) fun H3=>Q (.tuple #[]) H3) (
 opt (binInt .eql v6 (.int .u16 16)) fun v14=>ifB v14 (
 opt (nilCk x0) fun v15=>opt (addOff v15 0) fun v16=>opt (load1 v16 H2) fun v17=>opt (binInt .sub v17 v3) fun v18=>opt (nilCk x0) fun v19=>opt (addOff v19 0) fun v20=>opt (store1 v20 v18 H2) fun H4=>Q (.tuple #[]) H4) (
 opt (binInt .eql v6 (.int .u16 32)) fun v21=>ifB v21 (
 opt (nilCk x0) fun v22=>opt (addOff v22 0) fun v23=>opt (load1 v23 H2) fun v24=>opt (binInt .mul v24 v3) fun v25=>opt (nilCk x0) fun v26=>opt (addOff v26 0) fun v27=>opt (store1 v27 v25 H2) fun H5=>Q (.tuple #[]) H5) (
 opt (binInt .eql v6 (.int .u16 48)) fun v28=>ifB v28 (
 opt (binInt .eql v3 (.int .u32 0)) fun v29=>ifB v29 (
 opt (nilCk x0) fun v30=>opt (addOff v30 29) fun v31=>opt (store1 v31 (.bool true) H2) fun H6=>Q (.tuple #[]) H6) (
 opt (nilCk x0) fun v32=>opt (addOff v32 0) fun v33=>opt (load1 v33 H2) fun v34=>opt (binInt .quo v34 v3) fun v35=>opt (nilCk x0) fun v36=>opt (addOff v36 0) fun v37=>opt (store1 v37 v35 H2) fun H7=>Q (.tuple #[]) H7)) (
 opt (binInt .eql v6 (.int .u16 64)) fun v38=>ifB v38 (
 opt (nilCk x0) fun v39=>opt (addOff v39 0) fun v40=>opt (load1 v40 H2) fun v41=>opt (binInt .or v41 v3) fun v42=>opt (nilCk x0) fun v43=>opt (addOff v43 0) fun v44=>opt (store1 v44 v42 H2) fun H8=>Q (.tuple #[]) H8) (
 opt (binInt .eql v6 (.int .u16 80)) fun v45=>ifB v45 (
 opt (nilCk x0) fun v46=>opt (addOff v46 0) fun v47=>opt (load1 v47 H2) fun v48=>opt (binInt .and v48 v3) fun v49=>opt (nilCk x0) fun v50=>opt (addOff v50 0) fun v51=>opt (store1 v51 v49 H2) fun H9=>Q (.tuple #[]) H9) (
 opt (binInt .eql v6 (.int .u16 160)) fun v52=>ifB v52 (
 opt (nilCk x0) fun v53=>opt (addOff v53 0) fun v54=>opt (load1 v54 H2) fun v55=>opt (binInt .xor v55 v3) fun v56=>opt (nilCk x0) fun v57=>opt (addOff v57 0) fun v58=>opt (store1 v58 v56 H2) fun H10=>Q (.tuple #[]) H10) (
 opt (binInt .eql v6 (.int .u16 96)) fun v59=>ifB v59 (
 opt (nilCk x0) fun v60=>opt (addOff v60 0) fun v61=>opt (load1 v61 H2) fun v62=>opt (binInt .and v3 (.int .u32 31)) fun v63=>opt (binInt .shl v62 v63) fun v64=>opt (nilCk x0) fun v65=>opt (addOff v65 0) fun v66=>opt (store1 v66 v64 H2) fun H11=>Q (.tuple #[]) H11) (
 opt (binInt .eql v6 (.int .u16 112)) fun v67=>ifB v67 (
 opt (nilCk x0) fun v68=>opt (addOff v68 0) fun v69=>opt (load1 v69 H2) fun v70=>opt (binInt .and v3 (.int .u32 31)) fun v71=>opt (binInt .shr v70 v71) fun v72=>opt (nilCk x0) fun v73=>opt (addOff v73 0) fun v74=>opt (store1 v74 v72 H2) fun H12=>Q (.tuple #[]) H12) (
 opt (binInt .eql v6 (.int .u16 128)) fun v75=>ifB v75 (
 opt (nilCk x0) fun v76=>opt (addOff v76 0) fun v77=>opt (load1 v77 H2) fun v78=>opt (un .neg v78) fun v79=>opt (nilCk x0) fun v80=>opt (addOff v80 0) fun v81=>opt (store1 v81 v79 H2) fun H13=>Q (.tuple #[]) H13) (
 Q (.tuple #[]) H2))))))))))

def F.f111_j1 (E:Sy) (Q:VK) (t0 t3 t5:Value) (H:AH):Prop :=
 ifB t5 (
 opt (nilCk t0) fun v1=>opt (addOff v1 18) fun v2=>opt (load1 v2 H) fun v3=>opt (addOff t3 1) fun v4=>opt (load1 v4 H) fun v5=>opt (convInt .i64 v5) fun v6=>opt (binInt .add v3 v6) fun v7=>opt (nilCk t0) fun v8=>opt (addOff v8 18) fun v9=>opt (store1 v9 v7 H) fun H1=>Q (.tuple #[]) H1) (
 opt (nilCk t0) fun v10=>opt (addOff v10 18) fun v11=>opt (load1 v11 H) fun v12=>opt (addOff t3 2) fun v13=>opt (load1 v13 H) fun v14=>opt (convInt .i64 v14) fun v15=>opt (binInt .add v12 v15) fun v16=>opt (nilCk t0) fun v17=>opt (addOff v17 18) fun v18=>opt (store1 v18 v16 H) fun H2=>Q (.tuple #[]) H2)
def F.f111 (E:Sy) (x0 x1:Value) (H:AH) (Q:VK):Prop :=
 mk (boxO x1) H fun v1 H1=>opt (loadN 4 v1 H1) fun v2=>E.call (E.fid i.f113) [x0,v2] H1 fun v3 H2=>opt (addOff v1 0) fun v4=>opt (load1 v4 H2) fun v5=>opt (binInt .andNot v5 (.int .u16 15)) fun v6=>opt (binInt .eql v6 (.int .u16 0)) fun v7=>ifB v7 (
 opt (nilCk x0) fun v8=>opt (addOff v8 18) fun v9=>opt (load1 v9 H2) fun v10=>opt (addOff v1 3) fun v11=>opt (load1 v11 H2) fun v12=>opt (convInt .i64 v12) fun v13=>opt (binInt .add v10 v13) fun v14=>opt (nilCk x0) fun v15=>opt (addOff v15 18) fun v16=>opt (store1 v16 v14 H2) fun H3=>Q (.tuple #[]) H3) (
 opt (binInt .eql v6 (.int .u16 16)) fun v17=>ifB v17 (
 opt (nilCk x0) fun v18=>opt (addOff v18 0) fun v19=>opt (load1 v19 H2) fun v20=>opt (binInt .eql v20 v3) fun v21=>F.f111_j1 E Q x0 v1 v21 H2) (
 opt (binInt .eql v6 (.int .u16 32)) fun v22=>ifB v22 (
 opt (nilCk x0) fun v23=>opt (addOff v23 0) fun v24=>opt (load1 v24 H2) fun v25=>opt (binInt .gtr v25 v3) fun v26=>F.f111_j1 E Q x0 v1 v26 H2) (
 opt (binInt .eql v6 (.int .u16 48)) fun v27=>ifB v27 (
 opt (nilCk x0) fun v28=>opt (addOff v28 0) fun v29=>opt (load1 v29 H2) fun v30=>opt (binInt .geq v30 v3) fun v31=>F.f111_j1 E Q x0 v1 v31 H2) (
 opt (binInt .eql v6 (.int .u16 64)) fun v32=>ifB v32 (
 opt (nilCk x0) fun v33=>opt (addOff v33 0) fun v34=>opt (load1 v34 H2) fun v35=>opt (binInt .and v35 v3) fun v36=>opt (binInt .neq v36 (.int .u32 0)) fun v37=>F.f111_j1 E Q x0 v1 v37 H2) (
 F.f111_j1 E Q x0 v1 (.bool false) H2)))))

def F.f62_l1 (E:Sy) (Q:VK) (t24:Value) (H:AH) (X0:LK):Prop :=
 opt2 (nextS t24 H) fun v1 H1=>opt (ext v1 0) fun v2=>ifB v2 (
 opt (ext v1 2) fun v3=>opt (binInt .lss v3 (.int .i32 97)) fun v4=>gd v4 false (fun k=>k v3 H1) H1 fun v5 H2=>gd v4 false (fun k=>opt (binInt .gtr v5 (.int .i32 122)) fun v=>k v H2) H2 fun v6 H3=>opt (pick v4 (.bool true) v6) fun v7=>gd v7 true (fun k=>k v3 H3) H3 fun v8 H4=>gd v7 true (fun k=>opt (binInt .lss v8 (.int .i32 48)) fun v=>k v H4) H4 fun v9 H5=>gd v7 true (fun k=>k v9 H5) H5 fun v10 H6=>gd v10 false (fun k=>k v3 H6) H6 fun v11 H7=>gd v10 false (fun k=>opt (binInt .gtr v11 (.int .i32 57)) fun v=>k v H7) H7 fun v12 H8=>gd v7 true (fun k=>opt (pick v10 (.bool true) v12) fun v=>k v H8) H8 fun v13 H9=>opt (pick v7 v13 (.bool false)) fun v14=>gd v14 true (fun k=>k v3 H9) H9 fun v15 H10=>gd v14 true (fun k=>opt (binInt .neq v15 (.int .i32 45)) fun v=>k v H10) H10 fun v16 H11=>opt (pick v14 v16 (.bool false)) fun v17=>gd v17 true (fun k=>k v3 H11) H11 fun v18 H12=>gd v17 true (fun k=>opt (binInt .neq v18 (.int .i32 95)) fun v=>k v H12) H12 fun v19 H13=>opt (pick v17 v19 (.bool false)) fun v20=>ifB v20 (
 Q (.bool false) H13) (
 X0 [t24] H13)) (
 Q (.bool true) H1)
def F.f62 (E:Sy) (x0:Value) (H:AH) (Q:VK):Prop :=
 opt (lenStr x0) fun v1=>opt (binInt .lss v1 (.int .i64 1)) fun v2=>gd v2 false (fun k=>k x0 H) H fun v3 H1=>gd v2 false (fun k=>opt (lenStr v3) fun v=>k v H1) H1 fun v4 H2=>gd v2 false (fun k=>opt (binInt .gtr v4 (.int .i64 14)) fun v=>k v H2) H2 fun v5 H3=>opt (pick v2 (.bool true) v5) fun v6=>gd v6 false (fun k=>k x0 H3) H3 fun v7 H4=>gd v6 false (fun k=>opt (ixStr v7 (.int .i64 0)) fun v=>k v H4) H4 fun v8 H5=>gd v6 false (fun k=>opt (binInt .lss v8 (.int .u8 97)) fun v=>k v H5) H5 fun v9 H6=>opt (pick v6 (.bool true) v9) fun v10=>gd v10 false (fun k=>k x0 H6) H6 fun v11 H7=>gd v10 false (fun k=>opt (ixStr v11 (.int .i64 0)) fun v=>k v H7) H7 fun v12 H8=>gd v10 false (fun k=>opt (binInt .gtr v12 (.int .u8 122)) fun v=>k v H8) H8 fun v13 H9=>opt (pick v10 (.bool true) v13) fun v14=>ifB v14 (
 Q (.bool false) H9) (
 mk (rangeS x0) H9 fun v15 H10=>LoopL (fun l H X0=>F.f62_l1 E Q (nth l 0) H X0) [v15] H10)

def F.f79_j1 (E:Sy) (Q:VK) (t0 t5:Value) (H:AH):Prop :=
 ifB t5 (
 Q (.bool true) H) (
 opt (binInt .and t0 (.int .u32 65535)) fun v1=>E.call (E.fid i.f80) [t0] H fun v2 H1=>opt (binInt .eql v2 (.int .u32 327680)) fun v3=>gd v3 true (fun k=>k v1 H1) H1 fun v4 H2=>gd v3 true (fun k=>opt (binInt .geq v4 (.int .u32 1)) fun v=>k v H2) H2 fun v5 H3=>opt (pick v3 v5 (.bool false)) fun v6=>gd v6 true (fun k=>k v1 H3) H3 fun v7 H4=>gd v6 true (fun k=>opt (binInt .leq v7 (.int .u32 4095)) fun v=>k v H4) H4 fun v8 H5=>opt (pick v6 v8 (.bool false)) fun v9=>Q v9 H5)
def F.f79 (E:Sy) (x0:Value) (H:AH) (Q:VK):Prop :=
 opt (binInt .eql x0 (.int .u32 2147483648)) fun v1=>ifB v1 (
 F.f79_j1 E Q x0 v1 H) (
 opt (binInt .eql x0 (.int .u32 2147221504)) fun v2=>ifB v2 (
 F.f79_j1 E Q x0 v2 H) (
 opt (binInt .eql x0 (.int .u32 2147418112)) fun v3=>F.f79_j1 E Q x0 v3 H))

def F.f87 (E:Sy) (x0:Value) (H:AH) (Q:VK):Prop :=
 opt (binInt .andNot x0 (.int .u16 51199)) fun v1=>opt (binInt .eql v1 (.int .u16 0)) fun v2=>Q v2 H

def F.f76_l1 (E:Sy) (Q:VK) (t1 t3 t8 t9 t10:Value) (H:AH) (X0:LK):Prop :=
 opt (binInt .lss t10 t9) fun v1=>ifB v1 (
 opt (ixSlc 2 t8 t10) fun v2=>opt (loadN 2 v2 H) fun v3=>allocW [(.string ⟨#[]⟩),(.int .u16 0)] H fun v4 H1=>opt (storeN 2 v4 v3 H1) fun H2=>opt (addOff v4 0) fun v5=>opt (load1 v5 H2) fun v6=>E.call (E.fid i.f73) [v6] H2 fun v7 H3=>opt (un .not v7) fun v8=>ifB v8 (
 Q (.int .i64 203) H3) (
 opt (loadN 6 t1 H3) fun v9=>opt (addOff v4 1) fun v10=>opt (load1 v10 H3) fun v11=>E.call (E.fid i.f75) [v9,v11,(.int .u16 2047)] H3 fun v12 H4=>opt (un .not v12) fun v13=>ifB v13 (
 Q (.int .i64 204) H4) (
 opt (addOff v4 0) fun v14=>opt (load1 v14 H4) fun v15=>opt (look 1 (.bool false) false t3 v15 H4) fun v16=>ifB v16 (
 Q (.int .i64 206) H4) (
 opt (addOff v4 0) fun v17=>opt (load1 v17 H4) fun v18=>opt (setMap 1 t3 v18 (.bool true) H4) fun H5=>opt (binInt .add t10 (.int .i64 1)) fun v19=>X0 [t1,t3,t8,t9,v19] H5)))) (
 Q (.int .i64 0) H)
def F.f76 (E:Sy) (x0:Value) (H:AH) (Q:VK):Prop :=
 mk (boxO x0) H fun v1 H1=>mapW H1 fun v2 H2=>opt (addOff v1 4) fun v3=>opt (load1 v3 H2) fun v4=>opt (lenSlc v4) fun v5=>LoopL (fun l H X0=>F.f76_l1 E Q (nth l 0) (nth l 1) (nth l 2) (nth l 3) (nth l 4) H X0) [v1,v2,v4,v5,(.int .i64 0)] H2

def F.f77_l1 (E:Sy) (Q:VK) (t1 t3 t8 t9 t10:Value) (H:AH) (X0:LK):Prop :=
 opt (binInt .lss t10 t9) fun v1=>ifB v1 (
 opt (ixSlc 2 t8 t10) fun v2=>opt (loadN 2 v2 H) fun v3=>allocW [(.int .u16 0),(.int .u16 0)] H fun v4 H1=>opt (storeN 2 v4 v3 H1) fun H2=>opt (loadN 6 t1 H2) fun v5=>opt (addOff v4 1) fun v6=>opt (load1 v6 H2) fun v7=>E.call (E.fid i.f75) [v5,v7,(.int .u16 49152)] H2 fun v8 H3=>opt (un .not v8) fun v9=>ifB v9 (
 Q (.int .i64 204) H3) (
 opt (addOff v4 0) fun v10=>opt (load1 v10 H3) fun v11=>opt (look 0 (.bool false) false t3 v11 H3) fun v12=>ifB v12 (
 Q (.int .i64 206) H3) (
 opt (addOff v4 0) fun v13=>opt (load1 v13 H3) fun v14=>opt (setMap 0 t3 v14 (.bool true) H3) fun H4=>opt (binInt .add t10 (.int .i64 1)) fun v15=>X0 [t1,t3,t8,t9,v15] H4))) (
 Q (.int .i64 0) H)
def F.f77 (E:Sy) (x0:Value) (H:AH) (Q:VK):Prop :=
 mk (boxO x0) H fun v1 H1=>mapW H1 fun v2 H2=>opt (addOff v1 5) fun v3=>opt (load1 v3 H2) fun v4=>opt (lenSlc v4) fun v5=>LoopL (fun l H X0=>F.f77_l1 E Q (nth l 0) (nth l 1) (nth l 2) (nth l 3) (nth l 4) H X0) [v1,v2,v4,v5,(.int .i64 0)] H2

def F.f50 (E:Sy) (x0 x1:Value) (H:AH) (Q:VK):Prop :=
 opt (nilCk x0) fun v1=>opt (addOff v1 3) fun v2=>opt (load1 v2 H) fun v3=>opt (look 0 (.int .i64 0) true v3 x1 H) fun v4=>opt (ext v4 0) fun v5=>opt (ext v4 1) fun v6=>ifB v6 (
 Q v5 H) (
 opt (nilCk x0) fun v7=>opt (addOff v7 0) fun v8=>E.call (E.fid i.f35) [v8] H fun v9 H1=>opt (nilCk x0) fun v10=>opt (addOff v10 3) fun v11=>opt (load1 v11 H1) fun v12=>opt (setMap 0 v12 x1 v9 H1) fun H2=>opt (nilCk x0) fun v13=>opt (addOff v13 4) fun v14=>opt (load1 v14 H2) fun v15=>mk (buildS 1 1 #[(.int .u32 0)] [(0,x1)]) H2 fun v16 H3=>opt2 (app 1 4 v15 v16 H3) fun v17 H4=>opt (nilCk x0) fun v18=>opt (addOff v18 4) fun v19=>opt (store1 v19 v17 H4) fun H5=>Q v9 H5)

def F.f35 (E:Sy) (x0:Value) (H:AH) (Q:VK):Prop :=
 opt (binNil eqPtr .eql x0 (.pointer none)) fun v1=>ifB v1 (
 Q (.int .i64 0) H) (
 opt (nilCk x0) fun v2=>opt (addOff v2 1) fun v3=>opt (load1 v3 H) fun v4=>opt (binInt .add v4 (.int .i64 1)) fun v5=>opt (nilCk x0) fun v6=>opt (addOff v6 1) fun v7=>opt (store1 v7 v5 H) fun H1=>opt (nilCk x0) fun v8=>opt (addOff v8 1) fun v9=>opt (load1 v9 H1) fun v10=>Q v10 H1)

def F.f18 (E:Sy) (x0:Value) (H:AH) (Q:VK):Prop :=
 allocW [(.int .u16 0),(.int .u8 0),(.int .u8 0),(.int .u32 0)] H fun v1 H1=>opt (buildV [(0,1),(1,1),(2,1),(3,1)] #[(.int .u16 0),(.int .u8 0),(.int .u8 0),(.int .u32 0)] [(0,(.int .u16 32)),(3,x0)]) fun v2=>opt (storeN 4 v1 v2 H1) fun H2=>opt (loadN 4 v1 H2) fun v3=>Q v3 H2

def F.f37 (E:Sy) (x0 x1:Value) (H:AH) (Q:VK):Prop :=
 mk (boxO x1) H fun v1 H1=>opt (loadN 4 v1 H1) fun v2=>opt (buildV [(0,1),(1,1),(2,1),(3,4)] #[(.int .u8 0),(.int .i64 0),(.int .i64 0),(.int .u16 0),(.int .u8 0),(.int .u8 0),(.int .u32 0)] [(0,(.int .u8 2)),(3,v2)]) fun v3=>E.call (E.fid i.f38) [x0,v3] H1 fun v4 H2=>Q (.tuple #[]) H2

def F.f34 (E:Sy) (x0 x1 x2 x3 x4:Value) (H:AH) (Q:VK):Prop :=
 E.call (E.fid i.f16) [x1,x2,(.int .u8 0),(.int .u8 0)] H fun v1 H1=>opt (buildV [(0,1),(1,1),(2,1),(3,4)] #[(.int .u8 0),(.int .i64 0),(.int .i64 0),(.int .u16 0),(.int .u8 0),(.int .u8 0),(.int .u32 0)] [(0,(.int .u8 3)),(1,x3),(2,x4),(3,v1)]) fun v2=>E.call (E.fid i.f38) [x0,v2] H1 fun v3 H2=>Q (.tuple #[]) H2

def F.f33 (E:Sy) (x0 x1:Value) (H:AH) (Q:VK):Prop :=
 opt (buildV [(0,1),(1,1),(2,1),(3,4)] #[(.int .u8 0),(.int .i64 0),(.int .i64 0),(.int .u16 0),(.int .u8 0),(.int .u8 0),(.int .u32 0)] [(0,(.int .u8 1)),(1,x1)]) fun v1=>E.call (E.fid i.f38) [x0,v1] H fun v2 H1=>Q (.tuple #[]) H1

def F.f52 (E:Sy) (x0 x1 x2:Value) (H:AH) (Q:VK):Prop :=
 opt (lenSlc x1) fun v1=>opt (binInt .eql v1 (.int .i64 0)) fun v2=>ifB v2 (
 opt (nilCk x0) fun v3=>opt (addOff v3 0) fun v4=>opt (nilCk x0) fun v5=>opt (addOff v5 2) fun v6=>opt (load1 v6 H) fun v7=>E.call (E.fid i.f32) [v4,v7] H fun v8 H1=>Q (.tuple #[]) H1) (
 opt (binInt .eql v1 (.int .i64 1)) fun v9=>ifB v9 (
 opt (nilCk x0) fun v10=>opt (addOff v10 0) fun v11=>opt (ixSlc 2 x1 (.int .i64 0)) fun v12=>opt (addOff v12 0) fun v13=>opt (load1 v13 H) fun v14=>opt (ixSlc 2 x1 (.int .i64 0)) fun v15=>opt (addOff v15 0) fun v16=>opt (load1 v16 H) fun v17=>opt (look 0 (.int .i64 0) false x2 v17 H) fun v18=>opt (nilCk x0) fun v19=>opt (addOff v19 2) fun v20=>opt (load1 v20 H) fun v21=>E.call (E.fid i.f34) [v11,(.int .u16 16),v14,v18,v21] H fun v22 H2=>Q (.tuple #[]) H2) (
 opt (lenSlc x1) fun v23=>opt (binInt .quo v23 (.int .i64 2)) fun v24=>opt (nilCk x0) fun v25=>opt (addOff v25 0) fun v26=>opt (nilCk x0) fun v27=>opt (addOff v27 0) fun v28=>E.call (E.fid i.f35) [v26] H fun v29 H3=>E.call (E.fid i.f35) [v28] H3 fun v30 H4=>opt (nilCk x0) fun v31=>opt (addOff v31 0) fun v32=>opt (ixSlc 2 x1 v24) fun v33=>opt (addOff v33 0) fun v34=>opt (load1 v34 H4) fun v35=>E.call (E.fid i.f34) [v32,(.int .u16 48),v35,v30,v29] H4 fun v36 H5=>opt (nilCk x0) fun v37=>opt (addOff v37 0) fun v38=>E.call (E.fid i.f33) [v38,v29] H5 fun v39 H6=>opt (slSlc 2 x1 none (some v24) none H6) fun v40=>E.call (E.fid i.f52) [x0,v40,x2] H6 fun v41 H7=>opt (nilCk x0) fun v42=>opt (addOff v42 0) fun v43=>E.call (E.fid i.f33) [v43,v30] H7 fun v44 H8=>opt (slSlc 2 x1 (some v24) none none H8) fun v45=>E.call (E.fid i.f52) [x0,v45,x2] H8 fun v46 H9=>Q (.tuple #[]) H9))

def F.f51_l2 (E:Sy) (Q:VK) (X0:LK) (t0 t5 t6 t10 t11 t12 t21 t22 t23:Value) (H:AH) (X1:LK):Prop :=
 opt (binInt .lss t23 t22) fun v1=>ifB v1 (
 opt (ixSlc 4 t21 t23) fun v2=>opt (loadN 4 v2 H) fun v3=>allocW [(.int .i64 0),(.int .u8 0),(.int .u64 0),(.int .u64 0)] H fun v4 H1=>opt (storeN 4 v4 v3 H1) fun H2=>opt (nilCk t0) fun v5=>opt (addOff v5 0) fun v6=>E.call (E.fid i.f35) [v6] H2 fun v7 H3=>opt (loadN 4 v4 H3) fun v8=>E.call (E.fid i.f53) [t0,v8,v7,t6] H3 fun v9 H4=>opt (nilCk t0) fun v10=>opt (addOff v10 0) fun v11=>E.call (E.fid i.f33) [v11,v7] H4 fun v12 H5=>opt (binInt .add t23 (.int .i64 1)) fun v13=>X1 [t0,t5,t6,t10,t11,t12,t21,t22,v13] H5) (
 opt (nilCk t0) fun v14=>opt (addOff v14 0) fun v15=>opt (addOff t5 1) fun v16=>opt (load1 v16 H) fun v17=>E.call (E.fid i.f50) [t0,v17] H fun v18 H6=>E.call (E.fid i.f32) [v15,v18] H6 fun v19 H7=>opt (nilCk t0) fun v20=>opt (addOff v20 0) fun v21=>E.call (E.fid i.f33) [v21,t6] H7 fun v22 H8=>opt (binInt .add t12 (.int .i64 1)) fun v23=>X0 [t0,t10,t11,v23] H8)
def F.f51_l1 (E:Sy) (Q:VK) (t0 t10 t11 t12:Value) (H:AH) (X0:LK):Prop :=
 opt (binInt .lss t12 t11) fun v1=>ifB v1 (
 opt (ixSlc 2 t10 t12) fun v2=>opt (loadN 2 v2 H) fun v3=>allocW [(.slice none 0 0),(.int .u32 0)] H fun v4 H1=>opt (storeN 2 v4 v3 H1) fun H2=>opt (nilCk t0) fun v5=>opt (addOff v5 0) fun v6=>E.call (E.fid i.f35) [v6] H2 fun v7 H3=>opt (addOff v4 0) fun v8=>opt (load1 v8 H3) fun v9=>opt (lenSlc v9) fun v10=>LoopL (fun l H X1=>F.f51_l2 E Q X0 (nth l 0) (nth l 1) (nth l 2) (nth l 3) (nth l 4) (nth l 5) (nth l 6) (nth l 7) (nth l 8) H X1) [t0,v4,v7,t10,t11,t12,v9,v10,(.int .i64 0)] H3) (
 opt (nilCk t0) fun v11=>opt (addOff v11 0) fun v12=>opt (nilCk t0) fun v13=>opt (addOff v13 2) fun v14=>opt (load1 v14 H) fun v15=>E.call (E.fid i.f32) [v12,v15] H fun v16 H4=>Q (.tuple #[]) H4)
def F.f51 (E:Sy) (x0 x1:Value) (H:AH) (Q:VK):Prop :=
 opt (lenSlc x1) fun v1=>LoopL (fun l H X0=>F.f51_l1 E Q (nth l 0) (nth l 1) (nth l 2) (nth l 3) H X0) [x0,x1,v1,(.int .i64 0)] H

def F.f54_l1 (E:Sy) (Q:VK) (t0 t7 t8 t9:Value) (H:AH) (X0:LK):Prop :=
 opt (binInt .lss t9 t8) fun v1=>ifB v1 (
 opt (ixSlc 1 t7 t9) fun v2=>opt (load1 v2 H) fun v3=>opt (nilCk t0) fun v4=>opt (addOff v4 0) fun v5=>opt (nilCk t0) fun v6=>opt (addOff v6 3) fun v7=>opt (load1 v7 H) fun v8=>opt (look 0 (.int .i64 0) false v8 v3 H) fun v9=>E.call (E.fid i.f33) [v5,v9] H fun v10 H1=>opt (nilCk t0) fun v11=>opt (addOff v11 0) fun v12=>E.call (E.fid i.f20) [v3] H1 fun v13 H2=>E.call (E.fid i.f37) [v12,v13] H2 fun v14 H3=>opt (binInt .add t9 (.int .i64 1)) fun v15=>X0 [t0,t7,t8,v15] H3) (
 Q (.tuple #[]) H)
def F.f54 (E:Sy) (x0:Value) (H:AH) (Q:VK):Prop :=
 opt (nilCk x0) fun v1=>opt (addOff v1 4) fun v2=>opt (load1 v2 H) fun v3=>opt (lenSlc v3) fun v4=>LoopL (fun l H X0=>F.f54_l1 E Q (nth l 0) (nth l 1) (nth l 2) (nth l 3) H X0) [x0,v3,v4,(.int .i64 0)] H

def F.f36 (E:Sy) (x0:Value) (H:AH) (Q:VK):Prop :=
 opt (binNil eqPtr .eql x0 (.pointer none)) fun v1=>ifB v1 (
 Q (.slice none 0 0) H) (
 mk (buildS 0 7 #[(.int .u8 0),(.int .i64 0),(.int .i64 0),(.int .u16 0),(.int .u8 0),(.int .u8 0),(.int .u32 0)] []) H fun v2 H1=>opt (nilCk x0) fun v3=>opt (addOff v3 0) fun v4=>opt (load1 v4 H1) fun v5=>opt2 (app 7 32 v2 v5 H1) fun v6 H2=>Q v6 H2)

def F.f47_j1 (E:Sy) (Q:VK) (X0:LK) (t3 t4 t5 t7 t15 t16 t17:Value) (H:AH):Prop :=
 opt (loadN 7 t7 H) fun v1=>mk (buildS 1 7 #[(.int .u8 0),(.int .i64 0),(.int .i64 0),(.int .u16 0),(.int .u8 0),(.int .u8 0),(.int .u32 0)] [(0,v1)]) H fun v2 H1=>opt2 (app 7 32 t5 v2 H1) fun v3 H2=>opt (binInt .add t17 (.int .i64 1)) fun v4=>X0 [t3,t4,v3,t15,t16,v4] H2
def F.f47_j2 (E:Sy) (Q:VK) (X0:LK) (t4 t5 t8 t9 t11 t56 t57 t58:Value) (H:AH):Prop :=
 opt (loadN 7 t11 H) fun v1=>mk (buildS 1 7 #[(.int .u8 0),(.int .i64 0),(.int .i64 0),(.int .u16 0),(.int .u8 0),(.int .u8 0),(.int .u32 0)] [(0,v1)]) H fun v2 H1=>opt2 (app 7 32 t8 v2 H1) fun v3 H2=>opt (binInt .add t58 (.int .i64 1)) fun v4=>X0 [t4,t5,v3,t9,t56,t57,v4] H2
def F.f47_j3 (E:Sy) (Q:VK) (X0:LK) (t4 t5 t8 t9 t11 t56 t57 t58 t87:Value) (H:AH):Prop :=
 ifB t87 (
 opt (binInt .add t58 (.int .i64 1)) fun v1=>X0 [t4,t5,t8,t9,t56,t57,v1] H) (
 opt (addOff t11 0) fun v2=>opt (load1 v2 H) fun v3=>opt (binInt .eql v3 (.int .u8 4)) fun v4=>gd v4 false (fun k=>opt (addOff t11 0) fun v=>k v H) H fun v5 H1=>gd v4 false (fun k=>opt (load1 v5 H1) fun v=>k v H1) H1 fun v6 H2=>gd v4 false (fun k=>opt (binInt .eql v6 (.int .u8 2)) fun v=>k v H2) H2 fun v7 H3=>gd v4 false (fun k=>k v7 H3) H3 fun v8 H4=>gd v8 true (fun k=>opt (addOff t11 3) fun v=>k v H4) H4 fun v9 H5=>gd v8 true (fun k=>opt (addOff v9 0) fun v=>k v H5) H5 fun v10 H6=>gd v8 true (fun k=>opt (load1 v10 H6) fun v=>k v H6) H6 fun v11 H7=>gd v8 true (fun k=>E.call (E.fid i.f15) [v11] H7 fun v h=>k v h) H7 fun v12 H8=>gd v8 true (fun k=>opt (binInt .eql v12 (.int .u16 6)) fun v=>k v H8) H8 fun v13 H9=>gd v4 false (fun k=>opt (pick v8 v13 (.bool false)) fun v=>k v H9) H9 fun v14 H10=>opt (pick v4 (.bool true) v14) fun v15=>F.f47_j2 E Q X0 t4 t5 t8 v15 t11 t56 t57 t58 H10)
def F.f47_l2 (E:Sy) (Q:VK) (t4 t5 t8 t9 t56 t57 t58:Value) (H:AH) (X0:LK):Prop :=
 opt (binInt .lss t58 t57) fun v1=>ifB v1 (
 opt (ixSlc 7 t56 t58) fun v2=>opt (loadN 7 v2 H) fun v3=>allocW [(.int .u8 0),(.int .i64 0),(.int .i64 0),(.int .u16 0),(.int .u8 0),(.int .u8 0),(.int .u32 0)] H fun v4 H1=>opt (storeN 7 v4 v3 H1) fun H2=>opt (addOff v4 0) fun v5=>opt (load1 v5 H2) fun v6=>opt (binInt .eql v6 (.int .u8 1)) fun v7=>ifB v7 (
 opt (addOff v4 1) fun v8=>opt (load1 v8 H2) fun v9=>opt (look 0 (.bool false) false t4 v9 H2) fun v10=>opt (un .not v10) fun v11=>ifB v11 (
 opt (binInt .add t58 (.int .i64 1)) fun v12=>X0 [t4,t5,t8,t9,t56,t57,v12] H2) (
 F.f47_j2 E Q X0 t4 t5 t8 (.bool false) v4 t56 t57 t58 H2)) (
 ifB t9 (
 F.f47_j3 E Q X0 t4 t5 t8 t9 v4 t56 t57 t58 t9 H2) (
 opt (addOff v4 0) fun v13=>opt (load1 v13 H2) fun v14=>opt (binInt .eql v14 (.int .u8 4)) fun v15=>gd v15 true (fun k=>k t5 H2) H2 fun v16 H3=>gd v15 true (fun k=>k t58 H3) H3 fun v17 H4=>gd v15 true (fun k=>opt (binInt .add v17 (.int .i64 1)) fun v=>k v H4) H4 fun v18 H5=>gd v15 true (fun k=>opt (slSlc 7 v16 (some v18) none none H5) fun v=>k v H5) H5 fun v19 H6=>gd v15 true (fun k=>opt (addOff v4 1) fun v=>k v H6) H6 fun v20 H7=>gd v15 true (fun k=>opt (load1 v20 H7) fun v=>k v H7) H7 fun v21 H8=>gd v15 true (fun k=>E.call (E.fid i.f42) [v19,v21] H8 fun v h=>k v h) H8 fun v22 H9=>opt (pick v15 v22 (.bool false)) fun v23=>F.f47_j3 E Q X0 t4 t5 t8 t9 v4 t56 t57 t58 v23 H9))) (
 Q t8 H)
def F.f47_l1 (E:Sy) (Q:VK) (t3 t4 t5 t15 t16 t17:Value) (H:AH) (X0:LK):Prop :=
 opt (binInt .lss t17 t16) fun v1=>ifB v1 (
 opt (ixSlc 7 t15 t17) fun v2=>opt (loadN 7 v2 H) fun v3=>allocW [(.int .u8 0),(.int .i64 0),(.int .i64 0),(.int .u16 0),(.int .u8 0),(.int .u8 0),(.int .u32 0)] H fun v4 H1=>opt (storeN 7 v4 v3 H1) fun H2=>opt (addOff v4 0) fun v5=>opt (load1 v5 H2) fun v6=>opt (binInt .eql v6 (.int .u8 4)) fun v7=>ifB v7 (
 opt (addOff v4 1) fun v8=>opt (load1 v8 H2) fun v9=>E.call (E.fid i.f41) [t3,v9] H2 fun v10 H3=>opt (addOff v4 1) fun v11=>opt (store1 v11 v10 H3) fun H4=>opt (addOff v4 1) fun v12=>opt (load1 v12 H4) fun v13=>opt (setMap 0 t4 v13 (.bool true) H4) fun H5=>F.f47_j1 E Q X0 t3 t4 t5 v4 t15 t16 t17 H5) (
 opt (binInt .eql v6 (.int .u8 3)) fun v14=>ifB v14 (
 opt (addOff v4 1) fun v15=>opt (load1 v15 H2) fun v16=>opt (addOff v4 2) fun v17=>opt (load1 v17 H2) fun v18=>E.call (E.fid i.f41) [t3,v16] H2 fun v19 H6=>load1 v17 H6=load1 v17 H2 /\
 opt (addOff v4 1) fun v20=>E.call (E.fid i.f41) [t3,v18] H6 fun v21 H7=>opt (store1 v20 v19 H7) fun H8=>opt (addOff v4 2) fun v22=>opt (store1 v22 v21 H8) fun H9=>opt (addOff v4 1) fun v23=>opt (load1 v23 H9) fun v24=>opt (addOff v4 2) fun v25=>opt (load1 v25 H9) fun v26=>opt (setMap 0 t4 v24 (.bool true) H9) fun H10=>load1 v25 H10=load1 v25 H9 /\
 opt (setMap 0 t4 v26 (.bool true) H10) fun H11=>F.f47_j1 E Q X0 t3 t4 t5 v4 t15 t16 t17 H11) (
 F.f47_j1 E Q X0 t3 t4 t5 v4 t15 t16 t17 H2))) (
 opt (lenSlc t5) fun v27=>LoopL (fun l H X0=>F.f47_l2 E Q (nth l 0) (nth l 1) (nth l 2) (nth l 3) (nth l 4) (nth l 5) (nth l 6) H X0) [t4,t5,(.slice none 0 0),(.bool false),t5,v27,(.int .i64 0)] H)
def F.f47 (E:Sy) (x0:Value) (H:AH) (Q:VK):Prop :=
 E.call (E.fid i.f48) [x0] H fun v1 H1=>mapW H1 fun v2 H2=>opt (lenSlc x0) fun v3=>LoopL (fun l H X0=>F.f47_l1 E Q (nth l 0) (nth l 1) (nth l 2) (nth l 3) (nth l 4) (nth l 5) H X0) [v1,v2,(.slice none 0 0),x0,v3,(.int .i64 0)] H2

def F.f46 (E:Sy) (x0 x1:Value) (H:AH) (Q:VK):Prop :=
 mk (boxO x1) H fun v1 H1=>opt (addOff v1 0) fun v2=>opt (load1 v2 H1) fun v3=>opt (binInt .eql v3 (.int .u8 1)) fun v4=>ifB v4 (
 opt (nilCk x0) fun v5=>opt (addOff v5 1) fun v6=>opt (load1 v6 H1) fun v7=>opt (addOff v1 1) fun v8=>opt (load1 v8 H1) fun v9=>opt (look 0 (.int .i64 0) true v7 v9 H1) fun v10=>opt (ext v10 0) fun v11=>opt (ext v10 1) fun v12=>ifB v12 (
 Q (.int .i64 206) H1) (
 opt (nilCk x0) fun v13=>opt (addOff v13 1) fun v14=>opt (load1 v14 H1) fun v15=>opt (addOff v1 1) fun v16=>opt (load1 v16 H1) fun v17=>opt (nilCk x0) fun v18=>opt (addOff v18 0) fun v19=>opt (load1 v19 H1) fun v20=>opt (lenSlc v20) fun v21=>opt (setMap 0 v15 v17 v21 H1) fun H2=>Q (.int .i64 0) H2)) (
 opt (binInt .eql v3 (.int .u8 2)) fun v22=>ifB v22 (
 opt (addOff v1 3) fun v23=>opt (addOff v23 0) fun v24=>opt (load1 v24 H1) fun v25=>E.call (E.fid i.f15) [v25] H1 fun v26 H3=>opt (binInt .eql v26 (.int .u16 5)) fun v27=>ifB v27 (
 Q (.int .i64 210) H3) (
 opt (nilCk x0) fun v28=>opt (addOff v28 0) fun v29=>opt (load1 v29 H3) fun v30=>opt (addOff v1 3) fun v31=>opt (loadN 4 v31 H3) fun v32=>mk (buildS 1 4 #[(.int .u16 0),(.int .u8 0),(.int .u8 0),(.int .u32 0)] [(0,v32)]) H3 fun v33 H4=>opt2 (app 4 8 v30 v33 H4) fun v34 H5=>opt (nilCk x0) fun v35=>opt (addOff v35 0) fun v36=>opt (store1 v36 v34 H5) fun H6=>Q (.int .i64 0) H6)) (
 opt (binInt .eql v3 (.int .u8 4)) fun v37=>ifB v37 (
 opt (addOff v1 1) fun v38=>opt (load1 v38 H1) fun v39=>E.call (E.fid i.f43) [x0,v39] H1 fun v40 H7=>opt (ext v40 0) fun v41=>opt (ext v40 1) fun v42=>opt (un .not v42) fun v43=>ifB v43 (
 Q (.int .i64 207) H7) (
 E.call (E.fid i.f45) [x0,v41] H7 fun v44 H8=>Q (.int .i64 0) H8)) (
 opt (binInt .eql v3 (.int .u8 3)) fun v45=>ifB v45 (
 opt (loadN 7 v1 H1) fun v46=>E.call (E.fid i.f44) [x0,v46] H1 fun v47 H9=>Q v47 H9) (
 Q (.int .i64 210) H1))))

def F.f98_l2 (E:Sy) (Q:VK) (X0:LK) (t0 t1 t2 t3 t8 t9:Value) (H:AH) (X1:LK):Prop :=
 opt (binInt .gtr t9 t1) fun v1=>gd v1 true (fun k=>k t3 H) H fun v2 H1=>gd v1 true (fun k=>k t0 H1) H1 fun v3 H2=>gd v1 true (fun k=>k t9 H2) H2 fun v4 H3=>gd v1 true (fun k=>opt (ixSlc 3 v3 v4) fun v=>k v H3) H3 fun v5 H4=>gd v1 true (fun k=>opt (loadN 3 v5 H4) fun v=>k v H4) H4 fun v6 H5=>gd v1 true (fun k=>k t0 H5) H5 fun v7 H6=>gd v1 true (fun k=>k t9 H6) H6 fun v8 H7=>gd v1 true (fun k=>opt (binInt .sub v8 (.int .i64 1)) fun v=>k v H7) H7 fun v9 H8=>gd v1 true (fun k=>opt (ixSlc 3 v7 v9) fun v=>k v H8) H8 fun v10 H9=>gd v1 true (fun k=>opt (loadN 3 v10 H9) fun v=>k v H9) H9 fun v11 H10=>gd v1 true (fun k=>callV E.call v2 [v6,v11] H10 fun v h=>k v h) H10 fun v12 H11=>gd v1 true (fun k=>opt (binInt .lss v12 (.int .i64 0)) fun v=>k v H11) H11 fun v13 H12=>opt (pick v1 v13 (.bool false)) fun v14=>ifB v14 (
 opt (binInt .sub t9 (.int .i64 1)) fun v15=>opt (binInt .sub t9 (.int .i64 1)) fun v16=>opt (ixSlc 3 t0 v16) fun v17=>opt (loadN 3 v17 H12) fun v18=>opt (ixSlc 3 t0 t9) fun v19=>opt (loadN 3 v19 H12) fun v20=>opt (ixSlc 3 t0 t9) fun v21=>opt (storeN 3 v21 v18 H12) fun H13=>opt (ixSlc 3 t0 v15) fun v22=>opt (storeN 3 v22 v20 H13) fun H14=>opt (binInt .sub t9 (.int .i64 1)) fun v23=>X1 [t0,t1,t2,t3,t8,v23] H14) (
 opt (binInt .add t8 (.int .i64 1)) fun v24=>X0 [t0,t1,t2,t3,v24] H12)
def F.f98_l1 (E:Sy) (Q:VK) (t0 t1 t2 t3 t8:Value) (H:AH) (X0:LK):Prop :=
 opt (binInt .lss t8 t2) fun v1=>ifB v1 (
 LoopL (fun l H X1=>F.f98_l2 E Q X0 (nth l 0) (nth l 1) (nth l 2) (nth l 3) (nth l 4) (nth l 5) H X1) [t0,t1,t2,t3,t8,t8] H) (
 Q (.tuple #[]) H)
def F.f98 (E:Sy) (x0 x1 x2 x3:Value) (H:AH) (Q:VK):Prop :=
 opt (binInt .add x1 (.int .i64 1)) fun v1=>LoopL (fun l H X0=>F.f98_l1 E Q (nth l 0) (nth l 1) (nth l 2) (nth l 3) (nth l 4) H X0) [x0,x1,x2,x3,v1] H

def F.f80_j1 (E:Sy) (Q:VK) (t3 t7:Value) (H:AH):Prop :=
 ifB t7 (
 Q t3 H) (
 Q (.int .u32 2147483648) H)
def F.f80 (E:Sy) (x0:Value) (H:AH) (Q:VK):Prop :=
 opt (binInt .andNot x0 (.int .u32 65535)) fun v1=>opt (binInt .eql v1 (.int .u32 327680)) fun v2=>ifB v2 (
 F.f80_j1 E Q v1 v2 H) (
 opt (binInt .eql v1 (.int .u32 2147221504)) fun v3=>ifB v3 (
 F.f80_j1 E Q v1 v3 H) (
 opt (binInt .eql v1 (.int .u32 2147418112)) fun v4=>F.f80_j1 E Q v1 v4 H))

def F.f91_l1 (E:Sy) (Q:VK) (t0 t1 t7 t8:Value) (H:AH) (X0:LK):Prop :=
 opt (binInt .lss t8 t7) fun v1=>ifB v1 (
 opt (ixSlc 1 t0 t8) fun v2=>opt (load1 v2 H) fun v3=>opt (binInt .eql t1 v3) fun v4=>ifB v4 (
 Q t8 H) (
 opt (binInt .add t8 (.int .i64 1)) fun v5=>X0 [t0,t1,t7,v5] H)) (
 Q (.int .i64 (-1)) H)
def F.f91 (E:Sy) (x0 x1:Value) (H:AH) (Q:VK):Prop :=
 opt (lenSlc x0) fun v1=>LoopL (fun l H X0=>F.f91_l1 E Q (nth l 0) (nth l 1) (nth l 2) (nth l 3) H X0) [x0,x1,v1,(.int .i64 0)] H

def F.f8 (E:Sy) (x0:Value) (H:AH) (Q:VK):Prop :=
 opt (binInt .neq x0 x0) fun v1=>Q v1 H

def F.f27 (E:Sy) (x0:Value) (H:AH) (Q:VK):Prop :=
 mk (boxO x0) H fun v1 H1=>opt (addOff v1 0) fun v2=>opt (load1 v2 H1) fun v3=>opt (binInt .lss v3 (.int .i64 0)) fun v4=>gd v4 false (fun k=>opt (addOff v1 0) fun v=>k v H1) H1 fun v5 H2=>gd v4 false (fun k=>opt (load1 v5 H2) fun v=>k v H2) H2 fun v6 H3=>gd v4 false (fun k=>opt (binInt .gtr v6 (.int .i64 5)) fun v=>k v H3) H3 fun v7 H4=>opt (pick v4 (.bool true) v7) fun v8=>ifB v8 (
 Q (.bool false) H4) (
 opt (addOff v1 1) fun v9=>opt (load1 v9 H4) fun v10=>opt (binInt .eql v10 (.int .u8 6)) fun v11=>ifB v11 (
 opt (addOff v1 3) fun v12=>opt (load1 v12 H4) fun v13=>opt (binInt .eql v13 (.int .u64 0)) fun v14=>Q v14 H4) (
 opt (binInt .eql v10 (.int .u8 4)) fun v15=>ifB v15 (
 opt (addOff v1 3) fun v16=>opt (load1 v16 H4) fun v17=>opt (binInt .eql v17 (.int .u64 18446744073709551615)) fun v18=>Q v18 H4) (
 Q (.bool false) H4)))

def F.f89 (E:Sy) (x0 x1:Value) (H:AH) (Q:VK):Prop :=
 mk (boxO x1) H fun v1 H1=>opt (loadN 4 v1 H1) fun v2=>E.call (E.fid i.f90) [x0,v2] H1 fun v3 H2=>opt (binInt .geq v3 (.int .i64 0)) fun v4=>Q v4 H2

def F.f59_j3 (E:Sy) (Q:VK) (t0 t2:Value) (H:AH):Prop :=
 opt (convInt .u8 t0) fun v1=>opt (ixStr (.string ⟨#[0,1,2,2,3,3,3,3,4,4,4,4,4,4,4,4,5,5,5,5,5,5,5,5,5,5,5,5,5,5,5,5,6,6,6,6,6,6,6,6,6,6,6,6,6,6,6,6,6,6,6,6,6,6,6,6,6,6,6,6,6,6,6,6,7,7,7,7,7,7,7,7,7,7,7,7,7,7,7,7,7,7,7,7,7,7,7,7,7,7,7,7,7,7,7,7,7,7,7,7,7,7,7,7,7,7,7,7,7,7,7,7,7,7,7,7,7,7,7,7,7,7,7,7,7,7,7,7,8,8,8,8,8,8,8,8,8,8,8,8,8,8,8,8,8,8,8,8,8,8,8,8,8,8,8,8,8,8,8,8,8,8,8,8,8,8,8,8,8,8,8,8,8,8,8,8,8,8,8,8,8,8,8,8,8,8,8,8,8,8,8,8,8,8,8,8,8,8,8,8,8,8,8,8,8,8,8,8,8,8,8,8,8,8,8,8,8,8,8,8,8,8,8,8,8,8,8,8,8,8,8,8,8,8,8,8,8,8,8,8,8,8,8,8,8,8,8,8,8,8,8,8,8,8,8,8]⟩) v1) fun v2=>opt (convInt .i64 v2) fun v3=>opt (binInt .add t2 v3) fun v4=>Q v4 H
def F.f59_j2 (E:Sy) (Q:VK) (t0 t2:Value) (H:AH):Prop :=
 opt (binInt .geq t0 (.int .u64 256)) fun v1=>ifB v1 (
 opt (binInt .shr t0 (.int .u64 8)) fun v2=>opt (binInt .add t2 (.int .i64 8)) fun v3=>F.f59_j3 E Q v2 v3 H) (
 F.f59_j3 E Q t0 t2 H)
def F.f59_j1 (E:Sy) (Q:VK) (t0 t2:Value) (H:AH):Prop :=
 opt (binInt .geq t0 (.int .u64 65536)) fun v1=>ifB v1 (
 opt (binInt .shr t0 (.int .u64 16)) fun v2=>opt (binInt .add t2 (.int .i64 16)) fun v3=>F.f59_j2 E Q v2 v3 H) (
 F.f59_j2 E Q t0 t2 H)
def F.f59 (E:Sy) (x0:Value) (H:AH) (Q:VK):Prop :=
 opt (binInt .geq x0 (.int .u64 4294967296)) fun v1=>ifB v1 (
 opt (binInt .shr x0 (.int .u64 32)) fun v2=>F.f59_j1 E Q v2 (.int .i64 32) H) (
 F.f59_j1 E Q x0 (.int .i64 0) H)

def F.f97_l2 (E:Sy) (Q:VK) (X0:LK) (t0 t1 t2 t3 t8 t9:Value) (H:AH) (X1:LK):Prop :=
 opt (binInt .gtr t9 t1) fun v1=>gd v1 true (fun k=>k t3 H) H fun v2 H1=>gd v1 true (fun k=>k t0 H1) H1 fun v3 H2=>gd v1 true (fun k=>k t9 H2) H2 fun v4 H3=>gd v1 true (fun k=>opt (ixSlc 2 v3 v4) fun v=>k v H3) H3 fun v5 H4=>gd v1 true (fun k=>opt (loadN 2 v5 H4) fun v=>k v H4) H4 fun v6 H5=>gd v1 true (fun k=>k t0 H5) H5 fun v7 H6=>gd v1 true (fun k=>k t9 H6) H6 fun v8 H7=>gd v1 true (fun k=>opt (binInt .sub v8 (.int .i64 1)) fun v=>k v H7) H7 fun v9 H8=>gd v1 true (fun k=>opt (ixSlc 2 v7 v9) fun v=>k v H8) H8 fun v10 H9=>gd v1 true (fun k=>opt (loadN 2 v10 H9) fun v=>k v H9) H9 fun v11 H10=>gd v1 true (fun k=>callV E.call v2 [v6,v11] H10 fun v h=>k v h) H10 fun v12 H11=>gd v1 true (fun k=>opt (binInt .lss v12 (.int .i64 0)) fun v=>k v H11) H11 fun v13 H12=>opt (pick v1 v13 (.bool false)) fun v14=>ifB v14 (
 opt (binInt .sub t9 (.int .i64 1)) fun v15=>opt (binInt .sub t9 (.int .i64 1)) fun v16=>opt (ixSlc 2 t0 v16) fun v17=>opt (loadN 2 v17 H12) fun v18=>opt (ixSlc 2 t0 t9) fun v19=>opt (loadN 2 v19 H12) fun v20=>opt (ixSlc 2 t0 t9) fun v21=>opt (storeN 2 v21 v18 H12) fun H13=>opt (ixSlc 2 t0 v15) fun v22=>opt (storeN 2 v22 v20 H13) fun H14=>opt (binInt .sub t9 (.int .i64 1)) fun v23=>X1 [t0,t1,t2,t3,t8,v23] H14) (
 opt (binInt .add t8 (.int .i64 1)) fun v24=>X0 [t0,t1,t2,t3,v24] H12)
def F.f97_l1 (E:Sy) (Q:VK) (t0 t1 t2 t3 t8:Value) (H:AH) (X0:LK):Prop :=
 opt (binInt .lss t8 t2) fun v1=>ifB v1 (
 LoopL (fun l H X1=>F.f97_l2 E Q X0 (nth l 0) (nth l 1) (nth l 2) (nth l 3) (nth l 4) (nth l 5) H X1) [t0,t1,t2,t3,t8,t8] H) (
 Q (.tuple #[]) H)
def F.f97 (E:Sy) (x0 x1 x2 x3:Value) (H:AH) (Q:VK):Prop :=
 opt (binInt .add x1 (.int .i64 1)) fun v1=>LoopL (fun l H X0=>F.f97_l1 E Q (nth l 0) (nth l 1) (nth l 2) (nth l 3) (nth l 4) H X0) [x0,x1,x2,x3,v1] H

def F.f9 (E:Sy) (x0:Value) (H:AH) (Q:VK):Prop :=
 opt (binInt .neq x0 x0) fun v1=>Q v1 H

def F.f84 (E:Sy) (x0 x1:Value) (H:AH) (Q:VK):Prop :=
 mk (boxO x0) H fun v1 H1=>opt (binInt .rem x1 (.int .u32 4)) fun v2=>opt (binInt .neq v2 (.int .u32 0)) fun v3=>gd v3 false (fun k=>k x1 H1) H1 fun v4 H2=>gd v3 false (fun k=>opt (binInt .gtr v4 (.int .u32 60)) fun v=>k v H2) H2 fun v5 H3=>opt (pick v3 (.bool true) v5) fun v6=>ifB v6 (
 Q (.tuple #[(.int .u32 0),(.bool false)]) H3) (
 opt (loadN 9 v1 H3) fun v7=>E.call (E.fid i.f83) [v7] H3 fun v8 H4=>allocW (zs 64 (.int .u8 0)) H4 fun v9 H5=>opt (storeN 64 v9 v8 H5) fun H6=>opt (slArr 64 1 v9 (some x1) none none) fun v10=>E.call (E.fid i.f86) [v10,(.int .i64 4)] H6 fun v11 H7=>opt (convInt .u32 v11) fun v12=>Q (.tuple #[v12,(.bool true)]) H7)

def F.f113 (E:Sy) (x0 x1:Value) (H:AH) (Q:VK):Prop :=
 mk (boxO x1) H fun v1 H1=>opt (addOff v1 0) fun v2=>opt (load1 v2 H1) fun v3=>opt (binInt .and v3 (.int .u16 8)) fun v4=>opt (binInt .neq v4 (.int .u16 0)) fun v5=>ifB v5 (
 opt (nilCk x0) fun v6=>opt (addOff v6 1) fun v7=>opt (load1 v7 H1) fun v8=>Q v8 H1) (
 opt (addOff v1 3) fun v9=>opt (load1 v9 H1) fun v10=>Q v10 H1)

def F.f38 (E:Sy) (x0 x1:Value) (H:AH) (Q:VK):Prop :=
 mk (boxO x1) H fun v1 H1=>opt (binNil eqPtr .neq x0 (.pointer none)) fun v2=>ifB v2 (
 opt (nilCk x0) fun v3=>opt (addOff v3 0) fun v4=>opt (load1 v4 H1) fun v5=>opt (loadN 7 v1 H1) fun v6=>mk (buildS 1 7 #[(.int .u8 0),(.int .i64 0),(.int .i64 0),(.int .u16 0),(.int .u8 0),(.int .u8 0),(.int .u32 0)] [(0,v6)]) H1 fun v7 H2=>opt2 (app 7 32 v5 v7 H2) fun v8 H3=>opt (nilCk x0) fun v9=>opt (addOff v9 0) fun v10=>opt (store1 v10 v8 H3) fun H4=>Q (.tuple #[]) H4) (
 Q (.tuple #[]) H1)

def F.f16 (E:Sy) (x0 x1 x2 x3:Value) (H:AH) (Q:VK):Prop :=
 allocW [(.int .u16 0),(.int .u8 0),(.int .u8 0),(.int .u32 0)] H fun v1 H1=>opt (binInt .or (.int .u16 5) x0) fun v2=>opt (binInt .or v2 (.int .u16 0)) fun v3=>opt (buildV [(0,1),(1,1),(2,1),(3,1)] #[(.int .u16 0),(.int .u8 0),(.int .u8 0),(.int .u32 0)] [(0,v3),(1,x2),(2,x3),(3,x1)]) fun v4=>opt (storeN 4 v1 v4 H1) fun H2=>opt (loadN 4 v1 H2) fun v5=>Q v5 H2

def F.f32 (E:Sy) (x0 x1:Value) (H:AH) (Q:VK):Prop :=
 opt (buildV [(0,1),(1,1),(2,1),(3,4)] #[(.int .u8 0),(.int .i64 0),(.int .i64 0),(.int .u16 0),(.int .u8 0),(.int .u8 0),(.int .u32 0)] [(0,(.int .u8 4)),(1,x1)]) fun v1=>E.call (E.fid i.f38) [x0,v1] H fun v2 H1=>Q (.tuple #[]) H1

def F.f53 (E:Sy) (x0 x1 x2 x3:Value) (H:AH) (Q:VK):Prop :=
 mk (boxO x1) H fun v1 H1=>opt (addOff v1 3) fun v2=>opt (load1 v2 H1) fun v3=>opt (binInt .shr v3 (.int .u64 32)) fun v4=>opt (convInt .u32 v4) fun v5=>opt (addOff v1 3) fun v6=>opt (load1 v6 H1) fun v7=>opt (convInt .u32 v7) fun v8=>opt (nilCk x0) fun v9=>opt (addOff v9 0) fun v10=>E.call (E.fid i.f35) [v10] H1 fun v11 H2=>opt (nilCk x0) fun v12=>opt (addOff v12 0) fun v13=>opt (addOff v1 0) fun v14=>opt (load1 v14 H2) fun v15=>E.call (E.fid i.f82) [v15,(.bool true)] H2 fun v16 H3=>E.call (E.fid i.f18) [v16] H3 fun v17 H4=>E.call (E.fid i.f37) [v13,v17] H4 fun v18 H5=>opt (addOff v1 1) fun v19=>opt (load1 v19 H5) fun v20=>opt (binInt .eql v20 (.int .u8 1)) fun v21=>ifB v21 (
 opt (nilCk x0) fun v22=>opt (addOff v22 0) fun v23=>E.call (E.fid i.f34) [v23,(.int .u16 16),v5,v11,x3] H5 fun v24 H6=>opt (loadN 4 v1 H6) fun v25=>E.call (E.fid i.f56) [x0,v25,v11] H6 fun v26 H7=>opt (nilCk x0) fun v27=>opt (addOff v27 0) fun v28=>E.call (E.fid i.f34) [v28,(.int .u16 16),v8,x2,x3] H7 fun v29 H8=>Q (.tuple #[]) H8) (
 opt (binInt .eql v20 (.int .u8 2)) fun v30=>ifB v30 (
 opt (nilCk x0) fun v31=>opt (addOff v31 0) fun v32=>E.call (E.fid i.f34) [v32,(.int .u16 16),v5,v11,x2] H5 fun v33 H9=>opt (loadN 4 v1 H9) fun v34=>E.call (E.fid i.f56) [x0,v34,v11] H9 fun v35 H10=>opt (nilCk x0) fun v36=>opt (addOff v36 0) fun v37=>E.call (E.fid i.f34) [v37,(.int .u16 16),v8,x3,x2] H10 fun v38 H11=>Q (.tuple #[]) H11) (
 opt (binInt .eql v20 (.int .u8 5)) fun v39=>ifB v39 (
 opt (loadN 4 v1 H5) fun v40=>E.call (E.fid i.f55) [x0,v40,(.int .u16 32),x2,x3] H5 fun v41 H12=>Q (.tuple #[]) H12) (
 opt (binInt .eql v20 (.int .u8 6)) fun v42=>ifB v42 (
 opt (loadN 4 v1 H5) fun v43=>E.call (E.fid i.f55) [x0,v43,(.int .u16 48),x2,x3] H5 fun v44 H13=>Q (.tuple #[]) H13) (
 opt (binInt .eql v20 (.int .u8 3)) fun v45=>ifB v45 (
 opt (loadN 4 v1 H5) fun v46=>E.call (E.fid i.f55) [x0,v46,(.int .u16 48),x3,x2] H5 fun v47 H14=>Q (.tuple #[]) H14) (
 opt (binInt .eql v20 (.int .u8 4)) fun v48=>ifB v48 (
 opt (loadN 4 v1 H5) fun v49=>E.call (E.fid i.f55) [x0,v49,(.int .u16 32),x3,x2] H5 fun v50 H15=>Q (.tuple #[]) H15) (
 opt (binInt .eql v20 (.int .u8 7)) fun v51=>ifB v51 (
 opt (nilCk x0) fun v52=>opt (addOff v52 0) fun v53=>opt (addOff v1 2) fun v54=>opt (load1 v54 H5) fun v55=>opt (binInt .shr v55 (.int .u64 32)) fun v56=>opt (convInt .u32 v56) fun v57=>E.call (E.fid i.f19) [v57] H5 fun v58 H16=>E.call (E.fid i.f37) [v53,v58] H16 fun v59 H17=>opt (nilCk x0) fun v60=>opt (addOff v60 0) fun v61=>E.call (E.fid i.f34) [v61,(.int .u16 16),v5,v11,x3] H17 fun v62 H18=>opt (loadN 4 v1 H18) fun v63=>E.call (E.fid i.f56) [x0,v63,v11] H18 fun v64 H19=>opt (nilCk x0) fun v65=>opt (addOff v65 0) fun v66=>opt (addOff v1 2) fun v67=>opt (load1 v67 H19) fun v68=>opt (convInt .u32 v68) fun v69=>E.call (E.fid i.f19) [v69] H19 fun v70 H20=>E.call (E.fid i.f37) [v66,v70] H20 fun v71 H21=>opt (nilCk x0) fun v72=>opt (addOff v72 0) fun v73=>E.call (E.fid i.f34) [v73,(.int .u16 16),v8,x2,x3] H21 fun v74 H22=>Q (.tuple #[]) H22) (
 opt (nilCk x0) fun v75=>opt (addOff v75 0) fun v76=>E.call (E.fid i.f32) [v76,x3] H5 fun v77 H23=>Q (.tuple #[]) H23)))))))

def F.f48_l2 (E:Sy) (Q:VK) (X0:LK) (t0 t3 t5 t6 t8 t9 t10:Value) (H:AH) (X1:LK):Prop :=
 opt (lenSlc t0) fun v1=>opt (binInt .lss t6 v1) fun v2=>gd v2 true (fun k=>k t0 H) H fun v3 H1=>gd v2 true (fun k=>k t6 H1) H1 fun v4 H2=>gd v2 true (fun k=>opt (ixSlc 7 v3 v4) fun v=>k v H2) H2 fun v5 H3=>gd v2 true (fun k=>opt (addOff v5 0) fun v=>k v H3) H3 fun v6 H4=>gd v2 true (fun k=>opt (load1 v6 H4) fun v=>k v H4) H4 fun v7 H5=>gd v2 true (fun k=>opt (binInt .eql v7 (.int .u8 1)) fun v=>k v H5) H5 fun v8 H6=>opt (pick v2 v8 (.bool false)) fun v9=>ifB v9 (
 opt (binInt .add t6 (.int .i64 1)) fun v10=>X1 [t0,t3,t5,v10,t8,t9,t10] H6) (
 opt (lenSlc t0) fun v11=>opt (binInt .lss t6 v11) fun v12=>gd v12 true (fun k=>k t0 H6) H6 fun v13 H7=>gd v12 true (fun k=>k t6 H7) H7 fun v14 H8=>gd v12 true (fun k=>opt (ixSlc 7 v13 v14) fun v=>k v H8) H8 fun v15 H9=>gd v12 true (fun k=>opt (addOff v15 0) fun v=>k v H9) H9 fun v16 H10=>gd v12 true (fun k=>opt (load1 v16 H10) fun v=>k v H10) H10 fun v17 H11=>gd v12 true (fun k=>opt (binInt .eql v17 (.int .u8 4)) fun v=>k v H11) H11 fun v18 H12=>opt (pick v12 v18 (.bool false)) fun v19=>ifB v19 (
 opt (addOff t5 1) fun v20=>opt (load1 v20 H12) fun v21=>opt (ixSlc 7 t0 t6) fun v22=>opt (addOff v22 1) fun v23=>opt (load1 v23 H12) fun v24=>opt (setMap 0 t3 v21 v24 H12) fun H13=>opt (binInt .add t10 (.int .i64 1)) fun v25=>X0 [t0,t3,t8,t9,v25] H13) (
 opt (binInt .add t10 (.int .i64 1)) fun v26=>X0 [t0,t3,t8,t9,v26] H12))
def F.f48_l1 (E:Sy) (Q:VK) (t0 t3 t8 t9 t10:Value) (H:AH) (X0:LK):Prop :=
 opt (binInt .lss t10 t9) fun v1=>ifB v1 (
 opt (ixSlc 7 t8 t10) fun v2=>opt (loadN 7 v2 H) fun v3=>allocW [(.int .u8 0),(.int .i64 0),(.int .i64 0),(.int .u16 0),(.int .u8 0),(.int .u8 0),(.int .u32 0)] H fun v4 H1=>opt (storeN 7 v4 v3 H1) fun H2=>opt (addOff v4 0) fun v5=>opt (load1 v5 H2) fun v6=>opt (binInt .neq v6 (.int .u8 1)) fun v7=>ifB v7 (
 opt (binInt .add t10 (.int .i64 1)) fun v8=>X0 [t0,t3,t8,t9,v8] H2) (
 LoopL (fun l H X1=>F.f48_l2 E Q X0 (nth l 0) (nth l 1) (nth l 2) (nth l 3) (nth l 4) (nth l 5) (nth l 6) H X1) [t0,t3,v4,t10,t8,t9,t10] H2)) (
 Q t3 H)
def F.f48 (E:Sy) (x0:Value) (H:AH) (Q:VK):Prop :=
 mapW H fun v1 H1=>opt (lenSlc x0) fun v2=>LoopL (fun l H X0=>F.f48_l1 E Q (nth l 0) (nth l 1) (nth l 2) (nth l 3) (nth l 4) H X0) [x0,v1,x0,v2,(.int .i64 0)] H1

def F.f41_l1 (E:Sy) (Q:VK) (t0 t1 t8 t9:Value) (H:AH) (X0:LK):Prop :=
 opt (binInt .lss t9 t8) fun v1=>ifB v1 (
 opt (look 0 (.int .i64 0) true t0 t1 H) fun v2=>opt (ext v2 0) fun v3=>opt (ext v2 1) fun v4=>opt (un .not v4) fun v5=>ifB v5 (
 Q t1 H) (
 opt (binInt .add t9 (.int .i64 1)) fun v6=>X0 [t0,v3,t8,v6] H)) (
 Q t1 H)
def F.f41 (E:Sy) (x0 x1:Value) (H:AH) (Q:VK):Prop :=
 opt (lenMap x0 H) fun v1=>LoopL (fun l H X0=>F.f41_l1 E Q (nth l 0) (nth l 1) (nth l 2) (nth l 3) H X0) [x0,x1,v1,(.int .i64 0)] H

def F.f42_l1 (E:Sy) (Q:VK) (t1 t7 t8 t9:Value) (H:AH) (X0:LK):Prop :=
 opt (binInt .lss t9 t8) fun v1=>ifB v1 (
 opt (ixSlc 7 t7 t9) fun v2=>opt (loadN 7 v2 H) fun v3=>allocW [(.int .u8 0),(.int .i64 0),(.int .i64 0),(.int .u16 0),(.int .u8 0),(.int .u8 0),(.int .u32 0)] H fun v4 H1=>opt (storeN 7 v4 v3 H1) fun H2=>opt (addOff v4 0) fun v5=>opt (load1 v5 H2) fun v6=>opt (binInt .neq v6 (.int .u8 1)) fun v7=>ifB v7 (
 Q (.bool false) H2) (
 opt (addOff v4 1) fun v8=>opt (load1 v8 H2) fun v9=>opt (binInt .eql v9 t1) fun v10=>ifB v10 (
 Q (.bool true) H2) (
 opt (binInt .add t9 (.int .i64 1)) fun v11=>X0 [t1,t7,t8,v11] H2))) (
 Q (.bool false) H)
def F.f42 (E:Sy) (x0 x1:Value) (H:AH) (Q:VK):Prop :=
 opt (lenSlc x0) fun v1=>LoopL (fun l H X0=>F.f42_l1 E Q (nth l 0) (nth l 1) (nth l 2) (nth l 3) H X0) [x1,x0,v1,(.int .i64 0)] H

def F.f43 (E:Sy) (x0 x1:Value) (H:AH) (Q:VK):Prop :=
 opt (nilCk x0) fun v1=>opt (addOff v1 1) fun v2=>opt (load1 v2 H) fun v3=>opt (look 0 (.int .i64 0) true v3 x1 H) fun v4=>opt (ext v4 0) fun v5=>opt (ext v4 1) fun v6=>opt (nilCk x0) fun v7=>opt (addOff v7 0) fun v8=>opt (load1 v8 H) fun v9=>opt (lenSlc v9) fun v10=>opt (binInt .sub v10 v5) fun v11=>Q (.tuple #[v11,v6]) H

def F.f45 (E:Sy) (x0 x1:Value) (H:AH) (Q:VK):Prop :=
 opt (nilCk x0) fun v1=>opt (addOff v1 0) fun v2=>opt (load1 v2 H) fun v3=>opt (convInt .u32 x1) fun v4=>E.call (E.fid i.f21) [v4] H fun v5 H1=>load1 v2 H1=load1 v2 H /\
 mk (buildS 1 4 #[(.int .u16 0),(.int .u8 0),(.int .u8 0),(.int .u32 0)] [(0,v5)]) H1 fun v6 H2=>opt2 (app 4 8 v3 v6 H2) fun v7 H3=>opt (nilCk x0) fun v8=>opt (addOff v8 0) fun v9=>opt (store1 v9 v7 H3) fun H4=>Q (.tuple #[]) H4

def F.f44_j2 (E:Sy) (Q:VK) (t0 t3 t5 t7:Value) (H:AH):Prop :=
 opt (addOff t3 3) fun v1=>opt (loadN 4 v1 H) fun v2=>allocW [(.int .u16 0),(.int .u8 0),(.int .u8 0),(.int .u32 0)] H fun v3 H1=>opt (storeN 4 v3 v2 H1) fun H2=>opt (convInt .u8 t5) fun v4=>opt (convInt .u8 t7) fun v5=>opt (addOff v3 1) fun v6=>opt (store1 v6 v4 H2) fun H3=>opt (addOff v3 2) fun v7=>opt (store1 v7 v5 H3) fun H4=>opt (nilCk t0) fun v8=>opt (addOff v8 0) fun v9=>opt (load1 v9 H4) fun v10=>opt (loadN 4 v3 H4) fun v11=>mk (buildS 1 4 #[(.int .u16 0),(.int .u8 0),(.int .u8 0),(.int .u32 0)] [(0,v11)]) H4 fun v12 H5=>opt2 (app 4 8 v10 v12 H5) fun v13 H6=>opt (nilCk t0) fun v14=>opt (addOff v14 0) fun v15=>opt (store1 v15 v13 H6) fun H7=>Q (.int .i64 0) H7
def F.f44_j1 (E:Sy) (Q:VK) (t0 t3 t5 t7:Value) (H:AH):Prop :=
 opt (binInt .gtr t5 (.int .i64 253)) fun v1=>ifB v1 (
 E.call (E.fid i.f45) [t0,t5] H fun v2 H1=>opt (binInt .add t7 (.int .i64 1)) fun v3=>F.f44_j2 E Q t0 t3 (.int .i64 0) v3 H1) (
 F.f44_j2 E Q t0 t3 t5 t7 H)
def F.f44 (E:Sy) (x0 x1:Value) (H:AH) (Q:VK):Prop :=
 mk (boxO x1) H fun v1 H1=>opt (addOff v1 1) fun v2=>opt (load1 v2 H1) fun v3=>E.call (E.fid i.f43) [x0,v3] H1 fun v4 H2=>opt (ext v4 0) fun v5=>opt (ext v4 1) fun v6=>opt (addOff v1 2) fun v7=>opt (load1 v7 H2) fun v8=>E.call (E.fid i.f43) [x0,v8] H2 fun v9 H3=>opt (ext v9 0) fun v10=>opt (ext v9 1) fun v11=>opt (addOff v1 3) fun v12=>opt (addOff v12 0) fun v13=>opt (load1 v13 H3) fun v14=>E.call (E.fid i.f15) [v14] H3 fun v15 H4=>opt (binInt .neq v15 (.int .u16 5)) fun v16=>gd v16 false (fun k=>opt (addOff v1 3) fun v=>k v H4) H4 fun v17 H5=>gd v16 false (fun k=>opt (addOff v17 0) fun v=>k v H5) H5 fun v18 H6=>gd v16 false (fun k=>opt (load1 v18 H6) fun v=>k v H6) H6 fun v19 H7=>gd v16 false (fun k=>opt (binInt .eql v19 (.int .u16 5)) fun v=>k v H7) H7 fun v20 H8=>opt (pick v16 (.bool true) v20) fun v21=>ifB v21 (
 Q (.int .i64 210) H8) (
 opt (un .not v6) fun v22=>gd v22 false (fun k=>k v11 H8) H8 fun v23 H9=>gd v22 false (fun k=>opt (un .not v23) fun v=>k v H9) H9 fun v24 H10=>opt (pick v22 (.bool true) v24) fun v25=>ifB v25 (
 Q (.int .i64 207) H10) (
 opt (binInt .gtr v10 (.int .i64 253)) fun v26=>ifB v26 (
 E.call (E.fid i.f45) [x0,v10] H10 fun v27 H11=>opt (binInt .add v5 (.int .i64 1)) fun v28=>F.f44_j1 E Q x0 v1 v28 (.int .i64 0) H11) (
 F.f44_j1 E Q x0 v1 v5 v10 H10)))

def F.f90_l1 (E:Sy) (Q:VK) (t0 t3 t7 t8:Value) (H:AH) (X0:LK):Prop :=
 opt (binInt .lss t8 t7) fun v1=>ifB v1 (
 opt (loadN 4 t3 H) fun v2=>opt (ixSlc 4 t0 t8) fun v3=>opt (loadN 4 v3 H) fun v4=>opt (binAgg [0,0,0,0] .eql v2 v4) fun v5=>ifB v5 (
 Q t8 H) (
 opt (binInt .add t8 (.int .i64 1)) fun v6=>X0 [t0,t3,t7,v6] H)) (
 Q (.int .i64 (-1)) H)
def F.f90 (E:Sy) (x0 x1:Value) (H:AH) (Q:VK):Prop :=
 mk (boxO x1) H fun v1 H1=>opt (lenSlc x0) fun v2=>LoopL (fun l H X0=>F.f90_l1 E Q (nth l 0) (nth l 1) (nth l 2) (nth l 3) H X0) [x0,v1,v2,(.int .i64 0)] H1

def F.f83_l1 (E:Sy) (Q:VK) (t2 t3 t21 t22:Value) (H:AH) (X0:LK):Prop :=
 opt (binInt .lss t22 (.int .i64 6)) fun v1=>ifB v1 (
 opt (ixAgg1 6 1 t21 t22) fun v2=>opt (binInt .mul (.int .i64 8) t22) fun v3=>opt (binInt .add (.int .i64 16) v3) fun v4=>opt (slArr 64 1 t3 (some v4) none none) fun v5=>E.call (E.fid i.f85) [v5,v2,(.int .i64 8)] H fun v6 H1=>opt (binInt .add t22 (.int .i64 1)) fun v7=>X0 [t2,t3,t21,v7] H1) (
 opt (loadN 64 t3 H) fun v8=>opt (storeN 64 t2 v8 H) fun H2=>opt (loadN 64 t2 H2) fun v9=>Q v9 H2)
def F.f83 (E:Sy) (x0:Value) (H:AH) (Q:VK):Prop :=
 mk (boxO x0) H fun v1 H1=>allocW (zs 64 (.int .u8 0)) H1 fun v2 H2=>allocW (zs 64 (.int .u8 0)) H2 fun v3 H3=>opt (slArr 64 1 v3 (some (.int .i64 0)) none none) fun v4=>opt (addOff v1 0) fun v5=>opt (load1 v5 H3) fun v6=>opt (convInt .u64 v6) fun v7=>E.call (E.fid i.f85) [v4,v7,(.int .i64 4)] H3 fun v8 H4=>opt (slArr 64 1 v3 (some (.int .i64 4)) none none) fun v9=>opt (addOff v1 1) fun v10=>opt (load1 v10 H4) fun v11=>opt (convInt .u64 v11) fun v12=>E.call (E.fid i.f85) [v9,v12,(.int .i64 4)] H4 fun v13 H5=>opt (slArr 64 1 v3 (some (.int .i64 8)) none none) fun v14=>opt (addOff v1 2) fun v15=>opt (load1 v15 H5) fun v16=>E.call (E.fid i.f85) [v14,v16,(.int .i64 8)] H5 fun v17 H6=>opt (addOff v1 3) fun v18=>opt (loadN 6 v18 H6) fun v19=>LoopL (fun l H X0=>F.f83_l1 E Q (nth l 0) (nth l 1) (nth l 2) (nth l 3) H X0) [v2,v3,v19,(.int .i64 0)] H6

def F.f86_l1 (E:Sy) (Q:VK) (t5 t10 t11 t12:Value) (H:AH) (X0:LK):Prop :=
 opt (binInt .lss t12 t11) fun v1=>ifB v1 (
 opt (ixSlc 1 t10 t12) fun v2=>opt (load1 v2 H) fun v3=>opt (convInt .u64 v3) fun v4=>opt (binInt .mul (.int .i64 8) t12) fun v5=>opt (binInt .shl v4 v5) fun v6=>opt (binInt .or t5 v6) fun v7=>opt (binInt .add t12 (.int .i64 1)) fun v8=>X0 [v7,t10,t11,v8] H) (
 Q t5 H)
def F.f86 (E:Sy) (x0 x1:Value) (H:AH) (Q:VK):Prop :=
 opt (slSlc 1 x0 none (some x1) none H) fun v1=>opt (lenSlc v1) fun v2=>LoopL (fun l H X0=>F.f86_l1 E Q (nth l 0) (nth l 1) (nth l 2) (nth l 3) H X0) [(.int .u64 0),v1,v2,(.int .i64 0)] H

def F.f82 (E:Sy) (x0 x1:Value) (H:AH) (Q:VK):Prop :=
 opt (fold2 max2 [x0,(.int .i64 0)]) fun v1=>opt (fold2 min2 [v1,(.int .i64 5)]) fun v2=>opt (binInt .mul (.int .i64 8) v2) fun v3=>opt (binInt .add (.int .i64 16) v3) fun v4=>opt (convInt .u32 v4) fun v5=>ifB x1 (
 opt (binInt .add v5 (.int .u32 4)) fun v6=>Q v6 H) (
 Q v5 H)

def F.f56 (E:Sy) (x0 x1 x2:Value) (H:AH) (Q:VK):Prop :=
 mk (boxO x1) H fun v1 H1=>opt (nilCk x0) fun v2=>opt (addOff v2 0) fun v3=>E.call (E.fid i.f33) [v3,x2] H1 fun v4 H2=>opt (nilCk x0) fun v5=>opt (addOff v5 0) fun v6=>opt (addOff v1 0) fun v7=>opt (load1 v7 H2) fun v8=>E.call (E.fid i.f82) [v8,(.bool false)] H2 fun v9 H3=>E.call (E.fid i.f18) [v9] H3 fun v10 H4=>E.call (E.fid i.f37) [v6,v10] H4 fun v11 H5=>Q (.tuple #[]) H5

def F.f55 (E:Sy) (x0 x1 x2 x3 x4:Value) (H:AH) (Q:VK):Prop :=
 mk (boxO x1) H fun v1 H1=>opt (addOff v1 3) fun v2=>opt (load1 v2 H1) fun v3=>opt (binInt .shr v3 (.int .u64 32)) fun v4=>opt (convInt .u32 v4) fun v5=>opt (addOff v1 3) fun v6=>opt (load1 v6 H1) fun v7=>opt (convInt .u32 v7) fun v8=>opt (nilCk x0) fun v9=>opt (addOff v9 0) fun v10=>opt (nilCk x0) fun v11=>opt (addOff v11 0) fun v12=>E.call (E.fid i.f35) [v10] H1 fun v13 H2=>E.call (E.fid i.f35) [v12] H2 fun v14 H3=>opt (nilCk x0) fun v15=>opt (addOff v15 0) fun v16=>E.call (E.fid i.f34) [v16,(.int .u16 32),v5,x3,v13] H3 fun v17 H4=>opt (nilCk x0) fun v18=>opt (addOff v18 0) fun v19=>E.call (E.fid i.f33) [v19,v13] H4 fun v20 H5=>opt (nilCk x0) fun v21=>opt (addOff v21 0) fun v22=>E.call (E.fid i.f34) [v22,(.int .u16 16),v5,v14,x4] H5 fun v23 H6=>opt (loadN 4 v1 H6) fun v24=>E.call (E.fid i.f56) [x0,v24,v14] H6 fun v25 H7=>opt (nilCk x0) fun v26=>opt (addOff v26 0) fun v27=>E.call (E.fid i.f34) [v27,x2,v8,x3,x4] H7 fun v28 H8=>Q (.tuple #[]) H8

def F.f19 (E:Sy) (x0:Value) (H:AH) (Q:VK):Prop :=
 allocW [(.int .u16 0),(.int .u8 0),(.int .u8 0),(.int .u32 0)] H fun v1 H1=>opt (buildV [(0,1),(1,1),(2,1),(3,1)] #[(.int .u16 0),(.int .u8 0),(.int .u8 0),(.int .u32 0)] [(0,(.int .u16 84)),(3,x0)]) fun v2=>opt (storeN 4 v1 v2 H1) fun H2=>opt (loadN 4 v1 H2) fun v3=>Q v3 H2

def F.f21 (E:Sy) (x0:Value) (H:AH) (Q:VK):Prop :=
 allocW [(.int .u16 0),(.int .u8 0),(.int .u8 0),(.int .u32 0)] H fun v1 H1=>opt (buildV [(0,1),(1,1),(2,1),(3,1)] #[(.int .u16 0),(.int .u8 0),(.int .u8 0),(.int .u32 0)] [(0,(.int .u16 5)),(3,x0)]) fun v2=>opt (storeN 4 v1 v2 H1) fun H2=>opt (loadN 4 v1 H2) fun v3=>Q v3 H2

def F.f85_l1 (E:Sy) (Q:VK) (t0 t1 t7 t8:Value) (H:AH) (X0:LK):Prop :=
 opt (binInt .lss t8 t7) fun v1=>ifB v1 (
 opt (binInt .mul (.int .i64 8) t8) fun v2=>opt (binInt .shr t1 v2) fun v3=>opt (convInt .u8 v3) fun v4=>opt (ixSlc 1 t0 t8) fun v5=>opt (store1 v5 v4 H) fun H1=>opt (binInt .add t8 (.int .i64 1)) fun v6=>X0 [t0,t1,t7,v6] H1) (
 Q (.tuple #[]) H)
def F.f85 (E:Sy) (x0 x1 x2:Value) (H:AH) (Q:VK):Prop :=
 LoopL (fun l H X0=>F.f85_l1 E Q (nth l 0) (nth l 1) (nth l 2) (nth l 3) H X0) [x0,x1,x2,(.int .i64 0)] H
structure Fold (E:Sy):Prop where
  mono:MonoC E.call
  f71:∀ x0 x1 H Q,F.f71 E x0 x1 H Q->E.call (E.fid i.f71) [x0,x1] H Q
  f70:∀ H Q,F.f70 E H Q->E.call (E.fid i.f70) [] H Q
  f66:∀ x0 H Q,F.f66 E x0 H Q->E.call (E.fid i.f66) [x0] H Q
  f67:∀ x0 H Q,F.f67 E x0 H Q->E.call (E.fid i.f67) [x0] H Q
  f11:∀ x0 H Q,F.f11 E x0 H Q->E.call (E.fid i.f11) [x0] H Q
  f20:∀ x0 H Q,F.f20 E x0 H Q->E.call (E.fid i.f20) [x0] H Q
  f110:∀ x0 H Q,F.f110 E x0 H Q->E.call (E.fid i.f110) [x0] H Q
  f10:∀ x0 x1 x2 H Q,F.f10 E x0 x1 x2 H Q->E.call (E.fid i.f10) [x0,x1,x2] H Q
  f61:∀ H Q,F.f61 E H Q->E.call (E.fid i.f61) [] H Q
  f12:∀ x0 x1 H Q,F.f12 E x0 x1 H Q->E.call (E.fid i.f12) [x0,x1] H Q
  f108:∀ x0 H Q,F.f108 E x0 H Q->E.call (E.fid i.f108) [x0] H Q
  f72:∀ H Q,F.f72 E H Q->E.call (E.fid i.f72) [] H Q
  f63:∀ x0 x1 H Q,F.f63 E x0 x1 H Q->E.call (E.fid i.f63) [x0,x1] H Q
  f64:∀ x0 H Q,F.f64 E x0 H Q->E.call (E.fid i.f64) [x0] H Q
  f68:∀ x0 x1 x2 x3 H Q,F.f68 E x0 x1 x2 x3 H Q->E.call (E.fid i.f68) [x0,x1,x2,x3] H Q
  f65:∀ H Q,F.f65 E H Q->E.call (E.fid i.f65) [] H Q
  f0:∀ x0 H Q,F.f0 E x0 H Q->E.call (E.fid i.f0) [x0] H Q
  f22:∀ x0 H Q,F.f22 E x0 H Q->E.call (E.fid i.f22) [x0] H Q
  f109:∀ x0 x1 H Q,F.f109 E x0 x1 H Q->E.call (E.fid i.f109) [x0,x1] H Q
  f25:∀ x0 x1 H Q,F.f25 E x0 x1 H Q->E.call (E.fid i.f25) [x0,x1] H Q
  f13:∀ x0 x1 H Q,F.f13 E x0 x1 H Q->E.call (E.fid i.f13) [x0,x1] H Q
  f81:∀ x0 H Q,F.f81 E x0 H Q->E.call (E.fid i.f81) [x0] H Q
  f69:∀ H Q,F.f69 E H Q->E.call (E.fid i.f69) [] H Q
  f3:∀ x0 x1 x2 H Q,F.f3 E x0 x1 x2 H Q->E.call (E.fid i.f3) [x0,x1,x2] H Q
  f1:∀ x0 H Q,F.f1 E x0 H Q->E.call (E.fid i.f1) [x0] H Q
  f2:∀ x0 H Q,F.f2 E x0 H Q->E.call (E.fid i.f2) [x0] H Q
  f93:∀ x0 x1 H Q,F.f93 E x0 x1 H Q->E.call (E.fid i.f93) [x0,x1] H Q
  f23:∀ x0 x1 H Q,F.f23 E x0 x1 H Q->E.call (E.fid i.f23) [x0,x1] H Q
  f28:∀ x0 H Q,F.f28 E x0 H Q->E.call (E.fid i.f28) [x0] H Q
  f92:∀ x0 x1 H Q,F.f92 E x0 x1 H Q->E.call (E.fid i.f92) [x0,x1] H Q
  f24:∀ x0 x1 H Q,F.f24 E x0 x1 H Q->E.call (E.fid i.f24) [x0,x1] H Q
  f115:∀ x0 x1 H Q,F.f115 E x0 x1 H Q->E.call (E.fid i.f115) [x0,x1] H Q
  f107:∀ x0 x1 H Q,F.f107 E x0 x1 H Q->E.call (E.fid i.f107) [x0,x1] H Q
  f88:∀ x0 x1 x2 H Q,F.f88 E x0 x1 x2 H Q->E.call (E.fid i.f88) [x0,x1,x2] H Q
  f74:∀ x0 x1 H Q,F.f74 E x0 x1 H Q->E.call (E.fid i.f74) [x0,x1] H Q
  f49:∀ x0 H Q,F.f49 E x0 H Q->E.call (E.fid i.f49) [x0] H Q
  f14:∀ x0 H Q,F.f14 E x0 H Q->E.call (E.fid i.f14) [x0] H Q
  f40:∀ x0 H Q,F.f40 E x0 H Q->E.call (E.fid i.f40) [x0] H Q
  f39:∀ x0 H Q,F.f39 E x0 H Q->E.call (E.fid i.f39) [x0] H Q
  f17:∀ x0 H Q,F.f17 E x0 H Q->E.call (E.fid i.f17) [x0] H Q
  f15:∀ x0 H Q,F.f15 E x0 H Q->E.call (E.fid i.f15) [x0] H Q
  f4:∀ x0 H Q,F.f4 E x0 H Q->E.call (E.fid i.f4) [x0] H Q
  f5:∀ x0 x1 H Q,F.f5 E x0 x1 H Q->E.call (E.fid i.f5) [x0,x1] H Q
  f104:∀ x0 x1 x2 H Q,F.f104 E x0 x1 x2 H Q->E.call (E.fid i.f104) [x0,x1,x2] H Q
  f30:∀ x0 H Q,F.f30 E x0 H Q->E.call (E.fid i.f30) [x0] H Q
  f6:∀ x0 x1 H Q,F.f6 E x0 x1 H Q->E.call (E.fid i.f6) [x0,x1] H Q
  f31:∀ x0 H Q,F.f31 E x0 H Q->E.call (E.fid i.f31) [x0] H Q
  f29:∀ x0 H Q,F.f29 E x0 H Q->E.call (E.fid i.f29) [x0] H Q
  f57:∀ x0 H Q,F.f57 E x0 H Q->E.call (E.fid i.f57) [x0] H Q
  f102:∀ x0 x1 x2 x3 x4 H Q,F.f102 E x0 x1 x2 x3 x4 H Q->E.call (E.fid i.f102) [x0,x1,x2,x3,x4] H Q
  f7:∀ x0 x1 H Q,F.f7 E x0 x1 H Q->E.call (E.fid i.f7) [x0,x1] H Q
  f112:∀ x0 x1 H Q,F.f112 E x0 x1 H Q->E.call (E.fid i.f112) [x0,x1] H Q
  f114:∀ x0 x1 H Q,F.f114 E x0 x1 H Q->E.call (E.fid i.f114) [x0,x1] H Q
  f111:∀ x0 x1 H Q,F.f111 E x0 x1 H Q->E.call (E.fid i.f111) [x0,x1] H Q
  f62:∀ x0 H Q,F.f62 E x0 H Q->E.call (E.fid i.f62) [x0] H Q
  f79:∀ x0 H Q,F.f79 E x0 H Q->E.call (E.fid i.f79) [x0] H Q
  f87:∀ x0 H Q,F.f87 E x0 H Q->E.call (E.fid i.f87) [x0] H Q
  f76:∀ x0 H Q,F.f76 E x0 H Q->E.call (E.fid i.f76) [x0] H Q
  f77:∀ x0 H Q,F.f77 E x0 H Q->E.call (E.fid i.f77) [x0] H Q
  f50:∀ x0 x1 H Q,F.f50 E x0 x1 H Q->E.call (E.fid i.f50) [x0,x1] H Q
  f35:∀ x0 H Q,F.f35 E x0 H Q->E.call (E.fid i.f35) [x0] H Q
  f18:∀ x0 H Q,F.f18 E x0 H Q->E.call (E.fid i.f18) [x0] H Q
  f37:∀ x0 x1 H Q,F.f37 E x0 x1 H Q->E.call (E.fid i.f37) [x0,x1] H Q
  f34:∀ x0 x1 x2 x3 x4 H Q,F.f34 E x0 x1 x2 x3 x4 H Q->E.call (E.fid i.f34) [x0,x1,x2,x3,x4] H Q
  f33:∀ x0 x1 H Q,F.f33 E x0 x1 H Q->E.call (E.fid i.f33) [x0,x1] H Q
  f52:∀ x0 x1 x2 H Q,F.f52 E x0 x1 x2 H Q->E.call (E.fid i.f52) [x0,x1,x2] H Q
  f51:∀ x0 x1 H Q,F.f51 E x0 x1 H Q->E.call (E.fid i.f51) [x0,x1] H Q
  f54:∀ x0 H Q,F.f54 E x0 H Q->E.call (E.fid i.f54) [x0] H Q
  f36:∀ x0 H Q,F.f36 E x0 H Q->E.call (E.fid i.f36) [x0] H Q
  f47:∀ x0 H Q,F.f47 E x0 H Q->E.call (E.fid i.f47) [x0] H Q
  f46:∀ x0 x1 H Q,F.f46 E x0 x1 H Q->E.call (E.fid i.f46) [x0,x1] H Q
  f98:∀ x0 x1 x2 x3 H Q,F.f98 E x0 x1 x2 x3 H Q->E.call (E.fid i.f98) [x0,x1,x2,x3] H Q
  f80:∀ x0 H Q,F.f80 E x0 H Q->E.call (E.fid i.f80) [x0] H Q
  f91:∀ x0 x1 H Q,F.f91 E x0 x1 H Q->E.call (E.fid i.f91) [x0,x1] H Q
  f8:∀ x0 H Q,F.f8 E x0 H Q->E.call (E.fid i.f8) [x0] H Q
  f27:∀ x0 H Q,F.f27 E x0 H Q->E.call (E.fid i.f27) [x0] H Q
  f89:∀ x0 x1 H Q,F.f89 E x0 x1 H Q->E.call (E.fid i.f89) [x0,x1] H Q
  f59:∀ x0 H Q,F.f59 E x0 H Q->E.call (E.fid i.f59) [x0] H Q
  f97:∀ x0 x1 x2 x3 H Q,F.f97 E x0 x1 x2 x3 H Q->E.call (E.fid i.f97) [x0,x1,x2,x3] H Q
  f9:∀ x0 H Q,F.f9 E x0 H Q->E.call (E.fid i.f9) [x0] H Q
  f84:∀ x0 x1 H Q,F.f84 E x0 x1 H Q->E.call (E.fid i.f84) [x0,x1] H Q
  f113:∀ x0 x1 H Q,F.f113 E x0 x1 H Q->E.call (E.fid i.f113) [x0,x1] H Q
  f38:∀ x0 x1 H Q,F.f38 E x0 x1 H Q->E.call (E.fid i.f38) [x0,x1] H Q
  f16:∀ x0 x1 x2 x3 H Q,F.f16 E x0 x1 x2 x3 H Q->E.call (E.fid i.f16) [x0,x1,x2,x3] H Q
  f32:∀ x0 x1 H Q,F.f32 E x0 x1 H Q->E.call (E.fid i.f32) [x0,x1] H Q
  f53:∀ x0 x1 x2 x3 H Q,F.f53 E x0 x1 x2 x3 H Q->E.call (E.fid i.f53) [x0,x1,x2,x3] H Q
  f48:∀ x0 H Q,F.f48 E x0 H Q->E.call (E.fid i.f48) [x0] H Q
  f41:∀ x0 x1 H Q,F.f41 E x0 x1 H Q->E.call (E.fid i.f41) [x0,x1] H Q
  f42:∀ x0 x1 H Q,F.f42 E x0 x1 H Q->E.call (E.fid i.f42) [x0,x1] H Q
  f43:∀ x0 x1 H Q,F.f43 E x0 x1 H Q->E.call (E.fid i.f43) [x0,x1] H Q
  f45:∀ x0 x1 H Q,F.f45 E x0 x1 H Q->E.call (E.fid i.f45) [x0,x1] H Q
  f44:∀ x0 x1 H Q,F.f44 E x0 x1 H Q->E.call (E.fid i.f44) [x0,x1] H Q
  f90:∀ x0 x1 H Q,F.f90 E x0 x1 H Q->E.call (E.fid i.f90) [x0,x1] H Q
  f83:∀ x0 H Q,F.f83 E x0 H Q->E.call (E.fid i.f83) [x0] H Q
  f86:∀ x0 x1 H Q,F.f86 E x0 x1 H Q->E.call (E.fid i.f86) [x0,x1] H Q
  f82:∀ x0 x1 H Q,F.f82 E x0 x1 H Q->E.call (E.fid i.f82) [x0,x1] H Q
  f56:∀ x0 x1 x2 H Q,F.f56 E x0 x1 x2 H Q->E.call (E.fid i.f56) [x0,x1,x2] H Q
  f55:∀ x0 x1 x2 x3 x4 H Q,F.f55 E x0 x1 x2 x3 x4 H Q->E.call (E.fid i.f55) [x0,x1,x2,x3,x4] H Q
  f19:∀ x0 H Q,F.f19 E x0 H Q->E.call (E.fid i.f19) [x0] H Q
  f21:∀ x0 H Q,F.f21 E x0 H Q->E.call (E.fid i.f21) [x0] H Q
  f85:∀ x0 x1 x2 H Q,F.f85 E x0 x1 x2 H Q->E.call (E.fid i.f85) [x0,x1,x2] H Q
  f106:∀ x0 x1 H Q,atomicAdd x0 x1 H Q->E.call (E.fid i.f106) [x0,x1] H Q
end Go.AM
