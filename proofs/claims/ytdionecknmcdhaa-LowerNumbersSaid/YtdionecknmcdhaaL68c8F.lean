/- THE FUNCTIONS, AS THE ABSTRACT MACHINE SEES THEM: written by program (gen2.py). -/
import Derived.Test.YtdionecknmcdhaaL68c8A1
set_option linter.all false
set_option linter.unusedVariables false
namespace Go.AM
abbrev LK:=List Value->AH->Prop
abbrev VK:=Value->AH->Prop
def i.f10:Nat:=2
def i.f8:Nat:=4
def i.f11:Nat:=10
def i.f40:Nat:=12
def i.f13:Nat:=19
def i.f14:Nat:=20
def i.f12:Nat:=21
def i.f9:Nat:=22
def i.f42:Nat:=31
def i.f43:Nat:=34
def i.f44:Nat:=35
def i.f45:Nat:=37
def i.f41:Nat:=39
def i.f37:Nat:=49
def i.f48:Nat:=132
def i.f47:Nat:=154
def i.f49:Nat:=344
def i.f29:Nat:=347
def i.f24:Nat:=349
def i.f50:Nat:=350
def i.f0:Nat:=359
def i.f55:Nat:=360
def i.f30:Nat:=366
def i.f20:Nat:=367
def i.f22:Nat:=368
def i.f19:Nat:=369
def i.f18:Nat:=370
def i.f32:Nat:=371
def i.f31:Nat:=372
def i.f34:Nat:=373
def i.f21:Nat:=374
def i.f28:Nat:=375
def i.f15:Nat:=376
def i.f3:Nat:=384
def i.f1:Nat:=385
def i.f2:Nat:=386
def i.f52:Nat:=387
def i.f54:Nat:=388
def i.f51:Nat:=389
def i.f6:Nat:=396
def i.f23:Nat:=397
def i.f17:Nat:=398
def i.f33:Nat:=399
def i.f25:Nat:=400
def i.f27:Nat:=401
def i.f26:Nat:=402
def i.f16:Nat:=403
def i.f46:Nat:=404
def i.f4:Nat:=410
def i.f5:Nat:=411
def i.f53:Nat:=412
def i.f7:Nat:=427
def i.f36:Nat:=428
def i.f35:Nat:=429
def i.f39:Nat:=470
def i.f38:Nat:=471
def F.f39_l2 (E:Sy) (Q:VK) (X0:LK) (t0 t1 t5 t7 t8 t27 t28 t29:Value) (H:AH) (X1:LK):Prop :=
 opt (addOff t5 0) fun v1=>opt (load1 v1 H) fun v2=>opt (lenSlc v2) fun v3=>opt (binInt .lss t8 v3) fun v4=>gd v4 true (fun k=>opt (addOff t5 0) fun v=>k v H) H fun v5 H1=>gd v4 true (fun k=>opt (load1 v5 H1) fun v=>k v H1) H1 fun v6 H2=>gd v4 true (fun k=>k t8 H2) H2 fun v7 H3=>gd v4 true (fun k=>opt (ixSlc 2 v6 v7) fun v=>k v H3) H3 fun v8 H4=>gd v4 true (fun k=>opt (addOff v8 0) fun v=>k v H4) H4 fun v9 H5=>gd v4 true (fun k=>opt (load1 v9 H5) fun v=>k v H5) H5 fun v10 H6=>gd v4 true (fun k=>k t7 H6) H6 fun v11 H7=>gd v4 true (fun k=>opt (binInt .lss v10 v11) fun v=>k v H7) H7 fun v12 H8=>opt (pick v4 v12 (.bool false)) fun v13=>ifB v13 (
 opt (binInt .add t8 (.int .i64 1)) fun v14=>X1 [t0,t1,t5,t7,v14,t27,t28,t29] H8) (
 opt (addOff t5 0) fun v15=>opt (load1 v15 H8) fun v16=>opt (lenSlc v16) fun v17=>opt (binInt .lss t8 v17) fun v18=>gd v18 true (fun k=>opt (addOff t5 0) fun v=>k v H8) H8 fun v19 H9=>gd v18 true (fun k=>opt (load1 v19 H9) fun v=>k v H9) H9 fun v20 H10=>gd v18 true (fun k=>k t8 H10) H10 fun v21 H11=>gd v18 true (fun k=>opt (ixSlc 2 v20 v21) fun v=>k v H11) H11 fun v22 H12=>gd v18 true (fun k=>opt (addOff v22 0) fun v=>k v H12) H12 fun v23 H13=>gd v18 true (fun k=>opt (load1 v23 H13) fun v=>k v H13) H13 fun v24 H14=>gd v18 true (fun k=>k t7 H14) H14 fun v25 H15=>gd v18 true (fun k=>opt (binInt .eql v24 v25) fun v=>k v H15) H15 fun v26 H16=>opt (pick v18 v26 (.bool false)) fun v27=>ifB v27 (
 opt (binInt .add t29 (.int .i64 1)) fun v28=>X0 [t0,t1,t5,t27,t28,v28] H16) (
 opt (binInt .rem t7 (.int .u32 4000)) fun v29=>opt (convInt .i64 v29) fun v30=>opt (binInt .add v30 (.int .i64 1)) fun v31=>E.call (E.fid i.f40) [v31] H16 fun v32 H17=>opt (buildV [(0,1),(1,1)] #[(.slice none 0 0),(.int .u32 0)] [(1,v32)]) fun v33=>mk (buildS 1 2 #[(.slice none 0 0),(.int .u32 0)] [(0,v33)]) H17 fun v34 H18=>opt (buildV [(0,1),(1,1)] #[(.int .u32 0),(.slice none 0 0)] [(0,t7),(1,v34)]) fun v35=>allocW [(.int .u32 0),(.slice none 0 0)] H18 fun v36 H19=>opt (storeN 2 v36 v35 H19) fun H20=>mk (buildS 0 2 #[(.int .u32 0),(.slice none 0 0)] []) H20 fun v37 H21=>opt (addOff t5 0) fun v38=>opt (load1 v38 H21) fun v39=>opt (slSlc 2 v39 none (some t8) none H21) fun v40=>opt (loadN 2 v36 H21) fun v41=>mk (buildS 1 2 #[(.int .u32 0),(.slice none 0 0)] [(0,v41)]) H21 fun v42 H22=>opt (addOff t5 0) fun v43=>opt (load1 v43 H22) fun v44=>opt (slSlc 2 v44 (some t8) none none H22) fun v45=>opt2 (app 2 32 v37 v40 H22) fun v46 H23=>slSlc 2 v44 (some t8) none none H23=slSlc 2 v44 (some t8) none none H22 /\
 load1 v43 H23=load1 v43 H22 /\
 H23.get H21.next=H22.get H21.next /\
 loadN 2 v36 H23=loadN 2 v36 H21 /\
 opt2 (app 2 32 v46 v42 H23) fun v47 H24=>slSlc 2 v44 (some t8) none none H24=slSlc 2 v44 (some t8) none none H22 /\
 load1 v43 H24=load1 v43 H22 /\
 opt2 (app 2 32 v47 v45 H24) fun v48 H25=>opt (addOff t5 0) fun v49=>opt (store1 v49 v48 H25) fun H26=>opt (binInt .add t29 (.int .i64 1)) fun v50=>X0 [t0,t1,t5,t27,t28,v50] H26))
def F.f39_l4 (E:Sy) (Q:VK) (X0:LK) (t5 t12 t113 t114 t115 t124 t125 t126:Value) (H:AH) (X1:LK):Prop :=
 opt (binInt .lss t126 t125) fun v1=>ifB v1 (
 opt (ixSlc 1 t124 t126) fun v2=>opt (load1 v2 H) fun v3=>opt (buildV [(0,1),(1,1),(2,1),(3,6)] #[(.int .u32 0),(.int .u32 0),(.int .u64 0),(.int .u64 0),(.int .u64 0),(.int .u64 0),(.int .u64 0),(.int .u64 0),(.int .u64 0)] [(0,v3),(1,(.int .u32 3221225534))]) fun v4=>allocW [(.int .u32 0),(.int .u32 0),(.int .u64 0),(.int .u64 0),(.int .u64 0),(.int .u64 0),(.int .u64 0),(.int .u64 0),(.int .u64 0)] H fun v5 H1=>opt (storeN 9 v5 v4 H1) fun H2=>opt (loadN 9 v5 H2) fun v6=>E.call (E.fid i.f49) [t12,v6] H2 fun v7 H3=>opt (ext v7 0) fun v8=>opt (ext v7 1) fun v9=>opt (loadN 2 t5 H3) fun v10=>opt (loadN 9 v5 H3) fun v11=>E.call (E.fid i.f15) [v10,v11] H3 fun v12 H4=>opt (binInt .neq v8 v12) fun v13=>ifB v13 (
 Q (.bool false) H4) (
 opt (binInt .add t126 (.int .i64 1)) fun v14=>X1 [t5,t12,t113,t114,t115,t124,t125,v14] H4)) (
 opt (binInt .add t115 (.int .i64 1)) fun v15=>X0 [t5,t12,t113,t114,v15] H)
def F.f39_l3 (E:Sy) (Q:VK) (t5 t12 t113 t114 t115:Value) (H:AH) (X0:LK):Prop :=
 opt (binInt .lss t115 t114) fun v1=>ifB v1 (
 opt (ixSlc 1 t113 t115) fun v2=>opt (load1 v2 H) fun v3=>opt (binInt .add v3 (.int .u32 1)) fun v4=>opt (binInt .sub v3 (.int .u32 1)) fun v5=>mk (buildS 3 1 #[(.int .u32 0)] [(0,v3),(1,v4),(2,v5)]) H fun v6 H1=>opt (lenSlc v6) fun v7=>LoopL (fun l H X1=>F.f39_l4 E Q X0 (nth l 0) (nth l 1) (nth l 2) (nth l 3) (nth l 4) (nth l 5) (nth l 6) (nth l 7) H X1) [t5,t12,t113,t114,t115,v6,v7,(.int .i64 0)] H1) (
 Q (.bool true) H)
def F.f39_l1 (E:Sy) (Q:VK) (t0 t1 t5 t27 t28 t29:Value) (H:AH) (X0:LK):Prop :=
 opt (binInt .lss t29 t28) fun v1=>ifB v1 (
 opt (ixSlc 1 t27 t29) fun v2=>opt (load1 v2 H) fun v3=>LoopL (fun l H X1=>F.f39_l2 E Q X0 (nth l 0) (nth l 1) (nth l 2) (nth l 3) (nth l 4) (nth l 5) (nth l 6) (nth l 7) H X1) [t0,t1,t5,v3,(.int .i64 0),t27,t28,t29] H) (
 opt (loadN 2 t5 H) fun v4=>E.call (E.fid i.f29) [v4] H fun v5 H1=>E.call (E.fid i.f24) [v5] H1 fun v6 H2=>opt (ext v6 0) fun v7=>opt (ext v6 1) fun v8=>E.call (E.fid i.f50) [v7] H2 fun v9 H3=>opt (ext v9 0) fun v10=>opt (ext v9 1) fun v11=>allocW [(.int .i64 0),(.int .i64 0)] H3 fun v12 H4=>opt (storeN 2 v12 v11 H4) fun H5=>opt (binInt .neq v8 (.int .i64 0)) fun v13=>gd v13 false (fun k=>opt (loadN 2 v12 H5) fun v=>k v H5) H5 fun v14 H6=>gd v13 false (fun k=>opt (buildV [(0,1),(1,1)] #[(.int .i64 0),(.int .i64 0)] []) fun v=>k v H6) H6 fun v15 H7=>gd v13 false (fun k=>opt (binAgg [0,0] .neq v14 v15) fun v=>k v H7) H7 fun v16 H8=>opt (pick v13 (.bool true) v16) fun v17=>ifB v17 (
 Q (.bool false) H8) (
 mk (buildS 1 1 #[(.int .u32 0)] [(0,t1)]) H8 fun v18 H9=>opt2 (app 1 4 v18 t0 H9) fun v19 H10=>mk (buildS 2 1 #[(.int .u32 0)] [(0,(.int .u32 0)),(1,(.int .u32 4294967295))]) H10 fun v20 H11=>opt2 (app 1 4 v19 v20 H11) fun v21 H12=>opt (lenSlc v21) fun v22=>LoopL (fun l H X0=>F.f39_l3 E Q (nth l 0) (nth l 1) (nth l 2) (nth l 3) (nth l 4) H X0) [t5,v10,v21,v22,(.int .i64 0)] H12))
def F.f39 (E:Sy) (x0 x1:Value) (H:AH) (Q:VK):Prop :=
 E.call (E.fid i.f38) [] H fun v1 H1=>opt (un .not v1) fun v2=>ifB v2 (
 Q (.bool false) H1) (
 opt (lenSlc x0) fun v3=>opt (binInt .gtr v3 (.int .i64 100)) fun v4=>ifB v4 (
 Q (.bool true) H1) (
 opt (buildV [(0,1),(1,1)] #[(.slice none 0 0),(.int .u32 0)] [(1,(.int .u32 2147418112))]) fun v5=>allocW [(.slice none 0 0),(.int .u32 0)] H1 fun v6 H2=>opt (storeN 2 v6 v5 H2) fun H3=>opt (lenSlc x0) fun v7=>LoopL (fun l H X0=>F.f39_l1 E Q (nth l 0) (nth l 1) (nth l 2) (nth l 3) (nth l 4) (nth l 5) H X0) [x0,x1,v6,x0,v7,(.int .i64 0)] H3))

def F.f38 (E:Sy) (H:AH) (Q:VK):Prop :=
 opt (buildV [(0,1),(1,1)] #[(.slice none 0 0),(.int .u32 0)] [(1,(.int .u32 2147221504))]) fun v1=>E.call (E.fid i.f29) [v1] H fun v2 H1=>E.call (E.fid i.f24) [v2] H1 fun v3 H2=>opt (ext v3 0) fun v4=>opt (ext v3 1) fun v5=>E.call (E.fid i.f50) [v4] H2 fun v6 H3=>opt (ext v6 0) fun v7=>opt (ext v6 1) fun v8=>allocW [(.int .i64 0),(.int .i64 0)] H3 fun v9 H4=>opt (storeN 2 v9 v8 H4) fun H5=>opt (buildV [(0,1),(1,1),(2,1),(3,6)] #[(.int .u32 0),(.int .u32 0),(.int .u64 0),(.int .u64 0),(.int .u64 0),(.int .u64 0),(.int .u64 0),(.int .u64 0),(.int .u64 0)] [(1,(.int .u32 3221225534))]) fun v10=>E.call (E.fid i.f49) [v7,v10] H5 fun v11 H6=>opt (ext v11 0) fun v12=>opt (ext v11 1) fun v13=>opt (buildV [(0,1),(1,1),(2,1),(3,6)] #[(.int .u32 0),(.int .u32 0),(.int .u64 0),(.int .u64 0),(.int .u64 0),(.int .u64 0),(.int .u64 0),(.int .u64 0),(.int .u64 0)] []) fun v14=>E.call (E.fid i.f49) [v7,v14] H6 fun v15 H7=>opt (ext v15 0) fun v16=>opt (ext v15 1) fun v17=>opt (binInt .eql v5 (.int .i64 0)) fun v18=>gd v18 true (fun k=>opt (loadN 2 v9 H7) fun v=>k v H7) H7 fun v19 H8=>gd v18 true (fun k=>opt (buildV [(0,1),(1,1)] #[(.int .i64 0),(.int .i64 0)] []) fun v=>k v H8) H8 fun v20 H9=>gd v18 true (fun k=>opt (binAgg [0,0] .eql v19 v20) fun v=>k v H9) H9 fun v21 H10=>opt (pick v18 v21 (.bool false)) fun v22=>gd v22 true (fun k=>k v12 H10) H10 fun v23 H11=>gd v22 true (fun k=>opt (binInt .eql v23 (.int .u32 2147221504)) fun v=>k v H11) H11 fun v24 H12=>opt (pick v22 v24 (.bool false)) fun v25=>gd v25 true (fun k=>k v16 H12) H12 fun v26 H13=>gd v25 true (fun k=>opt (binInt .eql v26 (.int .u32 2147483648)) fun v=>k v H13) H13 fun v27 H14=>opt (pick v25 v27 (.bool false)) fun v28=>Q v28 H14

def F.f40 (E:Sy) (x0:Value) (H:AH) (Q:VK):Prop :=
 opt (fold2 max2 [x0,(.int .i64 0)]) fun v1=>opt (fold2 min2 [v1,(.int .i64 4095)]) fun v2=>opt (convInt .u32 v2) fun v3=>opt (binInt .or (.int .u32 327680) v3) fun v4=>Q v4 H

def F.f29_l2 (E:Sy) (Q:VK) (t3 t6 t70 t71 t72:Value) (H:AH) (X0:LK):Prop :=
 opt (binInt .lss t72 t71) fun v1=>ifB v1 (
 opt (ixSlc 2 t70 t72) fun v2=>opt (loadN 2 v2 H) fun v3=>allocW [(.int .u32 0),(.slice none 0 0)] H fun v4 H1=>opt (storeN 2 v4 v3 H1) fun H2=>opt (nilCk t3) fun v5=>opt (addOff v5 0) fun v6=>opt (addOff v4 0) fun v7=>opt (load1 v7 H2) fun v8=>opt (look 0 (.int .i64 0) false t6 v8 H2) fun v9=>E.call (E.fid i.f18) [v6,v9] H2 fun v10 H3=>opt (addOff v4 1) fun v11=>opt (load1 v11 H3) fun v12=>E.call (E.fid i.f31) [t3,v12] H3 fun v13 H4=>opt (binInt .add t72 (.int .i64 1)) fun v14=>X0 [t3,t6,t70,t71,v14] H4) (
 E.call (E.fid i.f34) [t3] H fun v15 H5=>opt (nilCk t3) fun v16=>opt (addOff v16 0) fun v17=>E.call (E.fid i.f21) [v17] H5 fun v18 H6=>Q v18 H6)
def F.f29_l1 (E:Sy) (Q:VK) (t1 t3 t6 t45 t46 t47:Value) (H:AH) (X0:LK):Prop :=
 opt (binInt .lss t47 t46) fun v1=>ifB v1 (
 opt (ixSlc 2 t45 t47) fun v2=>opt (loadN 2 v2 H) fun v3=>allocW [(.int .u32 0),(.slice none 0 0)] H fun v4 H1=>opt (storeN 2 v4 v3 H1) fun H2=>opt (addOff v4 0) fun v5=>opt (load1 v5 H2) fun v6=>opt (nilCk t3) fun v7=>opt (addOff v7 0) fun v8=>E.call (E.fid i.f20) [v8] H2 fun v9 H3=>load1 v5 H3=load1 v5 H2 /\
 opt (setMap 0 t6 v6 v9 H3) fun H4=>opt (binInt .add t47 (.int .i64 1)) fun v10=>X0 [t1,t3,t6,t45,t46,v10] H4) (
 opt (nilCk t3) fun v11=>opt (addOff v11 0) fun v12=>E.call (E.fid i.f11) [(.int .u32 0)] H fun v13 H5=>E.call (E.fid i.f22) [v12,v13] H5 fun v14 H6=>opt (addOff t1 0) fun v15=>opt (load1 v15 H6) fun v16=>E.call (E.fid i.f32) [t3,v16,t6] H6 fun v17 H7=>opt (addOff t1 0) fun v18=>opt (load1 v18 H7) fun v19=>opt (lenSlc v19) fun v20=>LoopL (fun l H X0=>F.f29_l2 E Q (nth l 0) (nth l 1) (nth l 2) (nth l 3) (nth l 4) H X0) [t3,t6,v19,v20,(.int .i64 0)] H7)
def F.f29 (E:Sy) (x0:Value) (H:AH) (Q:VK):Prop :=
 mk (boxO x0) H fun v1 H1=>mapW H1 fun v2 H2=>opt (buildV [(0,2),(2,1),(3,1),(4,1)] #[(.slice none 0 0),(.int .i64 0),(.int .i64 0),(.map none),(.slice none 0 0)] [(2,v2)]) fun v3=>mk (boxO v3) H2 fun v4 H3=>opt (addOff v1 1) fun v5=>opt (load1 v5 H3) fun v6=>E.call (E.fid i.f30) [v4,v6] H3 fun v7 H4=>opt (nilCk v4) fun v8=>opt (addOff v8 2) fun v9=>opt (store1 v9 v7 H4) fun H5=>opt (nilCk v4) fun v10=>opt (addOff v10 0) fun v11=>E.call (E.fid i.f30) [v4,(.int .u32 2147483648)] H5 fun v12 H6=>E.call (E.fid i.f20) [v11] H6 fun v13 H7=>opt (nilCk v4) fun v14=>opt (addOff v14 0) fun v15=>E.call (E.fid i.f11) [(.int .u32 4)] H7 fun v16 H8=>E.call (E.fid i.f22) [v15,v16] H8 fun v17 H9=>opt (nilCk v4) fun v18=>opt (addOff v18 0) fun v19=>E.call (E.fid i.f19) [v19,(.int .u16 16),(.int .u32 3221225534),v13,v12] H9 fun v20 H10=>opt (nilCk v4) fun v21=>opt (addOff v21 0) fun v22=>E.call (E.fid i.f18) [v22,v13] H10 fun v23 H11=>mapW H11 fun v24 H12=>opt (addOff v1 0) fun v25=>opt (load1 v25 H12) fun v26=>opt (lenSlc v26) fun v27=>LoopL (fun l H X0=>F.f29_l1 E Q (nth l 0) (nth l 1) (nth l 2) (nth l 3) (nth l 4) (nth l 5) H X0) [v1,v4,v24,v26,v27,(.int .i64 0)] H12

def F.f24_l2 (E:Sy) (Q:VK) (t4 t7 t8:Value) (H:AH) (X0:LK):Prop :=
 opt (binInt .geq t8 (.int .i64 0)) fun v1=>ifB v1 (
 opt (nilCk t4) fun v2=>opt (addOff v2 0) fun v3=>opt (load1 v3 H) fun v4=>opt (ixSlc 4 v4 t8) fun v5=>opt (loadN 4 v5 H) fun v6=>mk (buildS 1 4 #[(.int .u16 0),(.int .u8 0),(.int .u8 0),(.int .u32 0)] [(0,v6)]) H fun v7 H1=>opt2 (app 4 8 t7 v7 H1) fun v8 H2=>opt (binInt .sub t8 (.int .i64 1)) fun v9=>X0 [t4,v8,v9] H2) (
 Q (.tuple #[t7,(.int .i64 0)]) H)
def F.f24_l1 (E:Sy) (Q:VK) (t0 t4 t5:Value) (H:AH) (X0:LK):Prop :=
 opt (binInt .geq t5 (.int .i64 0)) fun v1=>ifB v1 (
 opt (ixSlc 7 t0 t5) fun v2=>opt (loadN 7 v2 H) fun v3=>E.call (E.fid i.f28) [t4,v3] H fun v4 H1=>opt (binInt .neq v4 (.int .i64 0)) fun v5=>ifB v5 (
 Q (.tuple #[(.slice none 0 0),v4]) H1) (
 opt (nilCk t4) fun v6=>opt (addOff v6 0) fun v7=>opt (load1 v7 H1) fun v8=>opt (lenSlc v8) fun v9=>opt (binInt .gtr v9 (.int .i64 4096)) fun v10=>ifB v10 (
 Q (.tuple #[(.slice none 0 0),(.int .i64 205)]) H1) (
 opt (binInt .sub t5 (.int .i64 1)) fun v11=>X0 [t0,t4,v11] H1))) (
 opt (nilCk t4) fun v12=>opt (addOff v12 0) fun v13=>opt (load1 v13 H) fun v14=>opt (lenSlc v14) fun v15=>mk (makeS 4 8 #[(.int .u16 0),(.int .u8 0),(.int .u8 0),(.int .u32 0)] (.int .i64 0) v15) H fun v16 H2=>opt (nilCk t4) fun v17=>opt (addOff v17 0) fun v18=>opt (load1 v18 H2) fun v19=>opt (lenSlc v19) fun v20=>opt (binInt .sub v20 (.int .i64 1)) fun v21=>LoopL (fun l H X0=>F.f24_l2 E Q (nth l 0) (nth l 1) (nth l 2) H X0) [t4,v16,v21] H2)
def F.f24 (E:Sy) (x0:Value) (H:AH) (Q:VK):Prop :=
 mapW H fun v1 H1=>opt (buildV [(0,1),(1,1)] #[(.slice none 0 0),(.map none)] [(1,v1)]) fun v2=>mk (boxO v2) H1 fun v3 H2=>opt (lenSlc x0) fun v4=>opt (binInt .sub v4 (.int .i64 1)) fun v5=>LoopL (fun l H X0=>F.f24_l1 E Q (nth l 0) (nth l 1) (nth l 2) H X0) [x0,v3,v5] H2

def F.f50 (E:Sy) (x0:Value) (H:AH) (Q:VK):Prop :=
 allocW [(.int .i64 0),(.int .i64 0)] H fun v1 H1=>E.call (E.fid i.f0) [x0] H1 fun v2 H2=>allocW [(.int .i64 0),(.int .i64 0)] H2 fun v3 H3=>opt (storeN 2 v3 v2 H3) fun H4=>opt (loadN 2 v3 H4) fun v4=>opt (buildV [(0,1),(1,1)] #[(.int .i64 0),(.int .i64 0)] []) fun v5=>opt (binAgg [0,0] .neq v4 v5) fun v6=>ifB v6 (
 opt (loadN 2 v3 H4) fun v7=>opt (storeN 2 v1 v7 H4) fun H5=>opt (loadN 2 v1 H5) fun v8=>Q (.tuple #[(.pointer none),v8]) H5) (
 mk (buildS 0 4 #[(.int .u16 0),(.int .u8 0),(.int .u8 0),(.int .u32 0)] []) H4 fun v9 H6=>opt2 (app 4 8 v9 x0 H6) fun v10 H7=>opt (buildV [(0,1),(1,1),(2,1)] #[(.slice none 0 0),(.int .i64 0),(.int .i64 0)] [(0,v10)]) fun v11=>mk (boxO v11) H7 fun v12 H8=>opt (buildV [(0,1),(1,1)] #[(.int .i64 0),(.int .i64 0)] []) fun v13=>opt (storeN 2 v1 v13 H8) fun H9=>opt (loadN 2 v1 H9) fun v14=>Q (.tuple #[v12,v14]) H9)

def F.f49_l1 (E:Sy) (Q:VK) (t0 t6 t7:Value) (H:AH) (X0:LK):Prop :=
 opt (addOff t6 29) fun v1=>opt (load1 v1 H) fun v2=>opt (un .not v2) fun v3=>gd v3 true (fun k=>opt (addOff t6 18) fun v=>k v H) H fun v4 H1=>gd v3 true (fun k=>opt (load1 v4 H1) fun v=>k v H1) H1 fun v5 H2=>gd v3 true (fun k=>k t0 H2) H2 fun v6 H3=>gd v3 true (fun k=>opt (nilCk v6) fun v=>k v H3) H3 fun v7 H4=>gd v3 true (fun k=>opt (addOff v7 0) fun v=>k v H4) H4 fun v8 H5=>gd v3 true (fun k=>opt (load1 v8 H5) fun v=>k v H5) H5 fun v9 H6=>gd v3 true (fun k=>opt (lenSlc v9) fun v=>k v H6) H6 fun v10 H7=>gd v3 true (fun k=>opt (binInt .lss v5 v10) fun v=>k v H7) H7 fun v11 H8=>opt (pick v3 v11 (.bool false)) fun v12=>ifB v12 (
 opt (nilCk t0) fun v13=>opt (addOff v13 0) fun v14=>opt (load1 v14 H8) fun v15=>opt (addOff t6 18) fun v16=>opt (load1 v16 H8) fun v17=>opt (ixSlc 4 v15 v17) fun v18=>opt (loadN 4 v18 H8) fun v19=>E.call (E.fid i.f55) [t6,v19] H8 fun v20 H9=>opt (binInt .add t7 (.int .i64 1)) fun v21=>X0 [t0,t6,v21] H9) (
 opt (nilCk t0) fun v22=>opt (addOff v22 1) fun v23=>E.call (E.fid i.f48) [v23,(.int .i64 1)] H8 fun v24 H10=>opt (nilCk t0) fun v25=>opt (addOff v25 2) fun v26=>E.call (E.fid i.f48) [v26,t7] H10 fun v27 H11=>opt (addOff t6 29) fun v28=>opt (load1 v28 H11) fun v29=>opt (un .not v29) fun v30=>ifB v30 (
 Q (.tuple #[(.int .u32 2147483648),t7]) H11) (
 opt (addOff t6 28) fun v31=>opt (load1 v31 H11) fun v32=>Q (.tuple #[v32,t7]) H11))
def F.f49 (E:Sy) (x0 x1:Value) (H:AH) (Q:VK):Prop :=
 mk (boxO x1) H fun v1 H1=>opt (binNil eqPtr .eql x0 (.pointer none)) fun v2=>ifB v2 (
 Q (.tuple #[(.int .u32 2147483648),(.int .i64 0)]) H1) (
 opt (loadN 9 v1 H1) fun v3=>opt (buildV [(0,1),(1,1),(2,16),(18,1),(19,9),(28,1),(29,1)] #[(.int .u32 0),(.int .u32 0),(.int .u32 0),(.int .u32 0),(.int .u32 0),(.int .u32 0),(.int .u32 0),(.int .u32 0),(.int .u32 0),(.int .u32 0),(.int .u32 0),(.int .u32 0),(.int .u32 0),(.int .u32 0),(.int .u32 0),(.int .u32 0),(.int .u32 0),(.int .u32 0),(.int .i64 0),(.int .u32 0),(.int .u32 0),(.int .u64 0),(.int .u64 0),(.int .u64 0),(.int .u64 0),(.int .u64 0),(.int .u64 0),(.int .u64 0),(.int .u32 0),(.bool false)] [(4,v3)]) fun v4=>allocW [(.int .u32 0),(.int .u32 0),(.int .u32 0),(.int .u32 0),(.int .u32 0),(.int .u32 0),(.int .u32 0),(.int .u32 0),(.int .u32 0),(.int .u32 0),(.int .u32 0),(.int .u32 0),(.int .u32 0),(.int .u32 0),(.int .u32 0),(.int .u32 0),(.int .u32 0),(.int .u32 0),(.int .i64 0),(.int .u32 0),(.int .u32 0),(.int .u64 0),(.int .u64 0),(.int .u64 0),(.int .u64 0),(.int .u64 0),(.int .u64 0),(.int .u64 0),(.int .u32 0),(.bool false)] H1 fun v5 H2=>opt (storeN 30 v5 v4 H2) fun H3=>LoopL (fun l H X0=>F.f49_l1 E Q (nth l 0) (nth l 1) (nth l 2) H X0) [x0,v5,(.int .i64 0)] H3)

def F.f15_l2 (E:Sy) (Q:VK) (X0:LK) (t2 t3 t8 t31 t32 t33 t38 t39 t40:Value) (H:AH) (X1:LK):Prop :=
 opt (binInt .lss t40 t39) fun v1=>ifB v1 (
 opt (ixSlc 4 t38 t40) fun v2=>opt (loadN 4 v2 H) fun v3=>allocW [(.int .i64 0),(.int .u8 0),(.int .u64 0),(.int .u64 0)] H fun v4 H1=>opt (storeN 4 v4 v3 H1) fun H2=>opt (loadN 4 v4 H2) fun v5=>opt (loadN 9 t3 H2) fun v6=>E.call (E.fid i.f37) [v5,v6] H2 fun v7 H3=>opt (un .not v7) fun v8=>ifB v8 (
 opt (binInt .add t33 (.int .i64 1)) fun v9=>X0 [t2,t3,t31,t32,v9] H3) (
 opt (binInt .add t40 (.int .i64 1)) fun v10=>X1 [t2,t3,t8,t31,t32,t33,t38,t39,v10] H3)) (
 opt (addOff t8 1) fun v11=>opt (load1 v11 H) fun v12=>Q v12 H)
def F.f15_l1 (E:Sy) (Q:VK) (t2 t3 t31 t32 t33:Value) (H:AH) (X0:LK):Prop :=
 opt (binInt .lss t33 t32) fun v1=>ifB v1 (
 opt (ixSlc 2 t31 t33) fun v2=>opt (loadN 2 v2 H) fun v3=>allocW [(.slice none 0 0),(.int .u32 0)] H fun v4 H1=>opt (storeN 2 v4 v3 H1) fun H2=>opt (addOff v4 0) fun v5=>opt (load1 v5 H2) fun v6=>opt (lenSlc v6) fun v7=>LoopL (fun l H X1=>F.f15_l2 E Q X0 (nth l 0) (nth l 1) (nth l 2) (nth l 3) (nth l 4) (nth l 5) (nth l 6) (nth l 7) (nth l 8) H X1) [t2,t3,v4,t31,t32,t33,v6,v7,(.int .i64 0)] H2) (
 opt (addOff t2 1) fun v8=>opt (load1 v8 H) fun v9=>Q v9 H)
def F.f15 (E:Sy) (x0 x1:Value) (H:AH) (Q:VK):Prop :=
 mk (boxO x0) H fun v1 H1=>mk (boxO x1) H1 fun v2 H2=>opt (addOff v2 1) fun v3=>opt (load1 v3 H2) fun v4=>opt (binInt .neq v4 (.int .u32 3221225534)) fun v5=>ifB v5 (
 Q (.int .u32 2147483648) H2) (
 opt (addOff v1 0) fun v6=>opt (load1 v6 H2) fun v7=>opt (addOff v2 0) fun v8=>opt (load1 v8 H2) fun v9=>E.call (E.fid i.f46) [v7,v9,(.func (.func (E.fid i.f16)) #[] #[])] H2 fun v10 H3=>opt (ext v10 0) fun v11=>opt (ext v10 1) fun v12=>opt (un .not v12) fun v13=>ifB v13 (
 opt (addOff v1 1) fun v14=>opt (load1 v14 H3) fun v15=>Q v15 H3) (
 opt (addOff v1 0) fun v16=>opt (load1 v16 H3) fun v17=>opt (ixSlc 2 v17 v11) fun v18=>opt (addOff v18 1) fun v19=>opt (load1 v19 H3) fun v20=>opt (lenSlc v20) fun v21=>LoopL (fun l H X0=>F.f15_l1 E Q (nth l 0) (nth l 1) (nth l 2) (nth l 3) (nth l 4) H X0) [v1,v2,v20,v21,(.int .i64 0)] H3))

def F.f30 (E:Sy) (x0 x1:Value) (H:AH) (Q:VK):Prop :=
 opt (nilCk x0) fun v1=>opt (addOff v1 3) fun v2=>opt (load1 v2 H) fun v3=>opt (look 0 (.int .i64 0) true v3 x1 H) fun v4=>opt (ext v4 0) fun v5=>opt (ext v4 1) fun v6=>ifB v6 (
 Q v5 H) (
 opt (nilCk x0) fun v7=>opt (addOff v7 0) fun v8=>E.call (E.fid i.f20) [v8] H fun v9 H1=>opt (nilCk x0) fun v10=>opt (addOff v10 3) fun v11=>opt (load1 v11 H1) fun v12=>opt (setMap 0 v12 x1 v9 H1) fun H2=>opt (nilCk x0) fun v13=>opt (addOff v13 4) fun v14=>opt (load1 v14 H2) fun v15=>mk (buildS 1 1 #[(.int .u32 0)] [(0,x1)]) H2 fun v16 H3=>opt2 (app 1 4 v15 v16 H3) fun v17 H4=>opt (nilCk x0) fun v18=>opt (addOff v18 4) fun v19=>opt (store1 v19 v17 H4) fun H5=>Q v9 H5)

def F.f20 (E:Sy) (x0:Value) (H:AH) (Q:VK):Prop :=
 opt (binNil eqPtr .eql x0 (.pointer none)) fun v1=>ifB v1 (
 Q (.int .i64 0) H) (
 opt (nilCk x0) fun v2=>opt (addOff v2 1) fun v3=>opt (load1 v3 H) fun v4=>opt (binInt .add v4 (.int .i64 1)) fun v5=>opt (nilCk x0) fun v6=>opt (addOff v6 1) fun v7=>opt (store1 v7 v5 H) fun H1=>opt (nilCk x0) fun v8=>opt (addOff v8 1) fun v9=>opt (load1 v9 H1) fun v10=>Q v10 H1)

def F.f11 (E:Sy) (x0:Value) (H:AH) (Q:VK):Prop :=
 allocW [(.int .u16 0),(.int .u8 0),(.int .u8 0),(.int .u32 0)] H fun v1 H1=>opt (buildV [(0,1),(1,1),(2,1),(3,1)] #[(.int .u16 0),(.int .u8 0),(.int .u8 0),(.int .u32 0)] [(0,(.int .u16 32)),(3,x0)]) fun v2=>opt (storeN 4 v1 v2 H1) fun H2=>opt (loadN 4 v1 H2) fun v3=>Q v3 H2

def F.f22 (E:Sy) (x0 x1:Value) (H:AH) (Q:VK):Prop :=
 mk (boxO x1) H fun v1 H1=>opt (loadN 4 v1 H1) fun v2=>opt (buildV [(0,1),(1,1),(2,1),(3,4)] #[(.int .u8 0),(.int .i64 0),(.int .i64 0),(.int .u16 0),(.int .u8 0),(.int .u8 0),(.int .u32 0)] [(0,(.int .u8 2)),(3,v2)]) fun v3=>E.call (E.fid i.f23) [x0,v3] H1 fun v4 H2=>Q (.tuple #[]) H2

def F.f19 (E:Sy) (x0 x1 x2 x3 x4:Value) (H:AH) (Q:VK):Prop :=
 E.call (E.fid i.f9) [x1,x2,(.int .u8 0),(.int .u8 0)] H fun v1 H1=>opt (buildV [(0,1),(1,1),(2,1),(3,4)] #[(.int .u8 0),(.int .i64 0),(.int .i64 0),(.int .u16 0),(.int .u8 0),(.int .u8 0),(.int .u32 0)] [(0,(.int .u8 3)),(1,x3),(2,x4),(3,v1)]) fun v2=>E.call (E.fid i.f23) [x0,v2] H1 fun v3 H2=>Q (.tuple #[]) H2

def F.f18 (E:Sy) (x0 x1:Value) (H:AH) (Q:VK):Prop :=
 opt (buildV [(0,1),(1,1),(2,1),(3,4)] #[(.int .u8 0),(.int .i64 0),(.int .i64 0),(.int .u16 0),(.int .u8 0),(.int .u8 0),(.int .u32 0)] [(0,(.int .u8 1)),(1,x1)]) fun v1=>E.call (E.fid i.f23) [x0,v1] H fun v2 H1=>Q (.tuple #[]) H1

def F.f32 (E:Sy) (x0 x1 x2:Value) (H:AH) (Q:VK):Prop :=
 opt (lenSlc x1) fun v1=>opt (binInt .eql v1 (.int .i64 0)) fun v2=>ifB v2 (
 opt (nilCk x0) fun v3=>opt (addOff v3 0) fun v4=>opt (nilCk x0) fun v5=>opt (addOff v5 2) fun v6=>opt (load1 v6 H) fun v7=>E.call (E.fid i.f17) [v4,v7] H fun v8 H1=>Q (.tuple #[]) H1) (
 opt (binInt .eql v1 (.int .i64 1)) fun v9=>ifB v9 (
 opt (nilCk x0) fun v10=>opt (addOff v10 0) fun v11=>opt (ixSlc 2 x1 (.int .i64 0)) fun v12=>opt (addOff v12 0) fun v13=>opt (load1 v13 H) fun v14=>opt (ixSlc 2 x1 (.int .i64 0)) fun v15=>opt (addOff v15 0) fun v16=>opt (load1 v16 H) fun v17=>opt (look 0 (.int .i64 0) false x2 v17 H) fun v18=>opt (nilCk x0) fun v19=>opt (addOff v19 2) fun v20=>opt (load1 v20 H) fun v21=>E.call (E.fid i.f19) [v11,(.int .u16 16),v14,v18,v21] H fun v22 H2=>Q (.tuple #[]) H2) (
 opt (lenSlc x1) fun v23=>opt (binInt .quo v23 (.int .i64 2)) fun v24=>opt (nilCk x0) fun v25=>opt (addOff v25 0) fun v26=>opt (nilCk x0) fun v27=>opt (addOff v27 0) fun v28=>E.call (E.fid i.f20) [v26] H fun v29 H3=>E.call (E.fid i.f20) [v28] H3 fun v30 H4=>opt (nilCk x0) fun v31=>opt (addOff v31 0) fun v32=>opt (ixSlc 2 x1 v24) fun v33=>opt (addOff v33 0) fun v34=>opt (load1 v34 H4) fun v35=>E.call (E.fid i.f19) [v32,(.int .u16 48),v35,v30,v29] H4 fun v36 H5=>opt (nilCk x0) fun v37=>opt (addOff v37 0) fun v38=>E.call (E.fid i.f18) [v38,v29] H5 fun v39 H6=>opt (slSlc 2 x1 none (some v24) none H6) fun v40=>E.call (E.fid i.f32) [x0,v40,x2] H6 fun v41 H7=>opt (nilCk x0) fun v42=>opt (addOff v42 0) fun v43=>E.call (E.fid i.f18) [v43,v30] H7 fun v44 H8=>opt (slSlc 2 x1 (some v24) none none H8) fun v45=>E.call (E.fid i.f32) [x0,v45,x2] H8 fun v46 H9=>Q (.tuple #[]) H9))

def F.f31_l2 (E:Sy) (Q:VK) (X0:LK) (t0 t5 t6 t10 t11 t12 t21 t22 t23:Value) (H:AH) (X1:LK):Prop :=
 opt (binInt .lss t23 t22) fun v1=>ifB v1 (
 opt (ixSlc 4 t21 t23) fun v2=>opt (loadN 4 v2 H) fun v3=>allocW [(.int .i64 0),(.int .u8 0),(.int .u64 0),(.int .u64 0)] H fun v4 H1=>opt (storeN 4 v4 v3 H1) fun H2=>opt (nilCk t0) fun v5=>opt (addOff v5 0) fun v6=>E.call (E.fid i.f20) [v6] H2 fun v7 H3=>opt (loadN 4 v4 H3) fun v8=>E.call (E.fid i.f33) [t0,v8,v7,t6] H3 fun v9 H4=>opt (nilCk t0) fun v10=>opt (addOff v10 0) fun v11=>E.call (E.fid i.f18) [v11,v7] H4 fun v12 H5=>opt (binInt .add t23 (.int .i64 1)) fun v13=>X1 [t0,t5,t6,t10,t11,t12,t21,t22,v13] H5) (
 opt (nilCk t0) fun v14=>opt (addOff v14 0) fun v15=>opt (addOff t5 1) fun v16=>opt (load1 v16 H) fun v17=>E.call (E.fid i.f30) [t0,v17] H fun v18 H6=>E.call (E.fid i.f17) [v15,v18] H6 fun v19 H7=>opt (nilCk t0) fun v20=>opt (addOff v20 0) fun v21=>E.call (E.fid i.f18) [v21,t6] H7 fun v22 H8=>opt (binInt .add t12 (.int .i64 1)) fun v23=>X0 [t0,t10,t11,v23] H8)
def F.f31_l1 (E:Sy) (Q:VK) (t0 t10 t11 t12:Value) (H:AH) (X0:LK):Prop :=
 opt (binInt .lss t12 t11) fun v1=>ifB v1 (
 opt (ixSlc 2 t10 t12) fun v2=>opt (loadN 2 v2 H) fun v3=>allocW [(.slice none 0 0),(.int .u32 0)] H fun v4 H1=>opt (storeN 2 v4 v3 H1) fun H2=>opt (nilCk t0) fun v5=>opt (addOff v5 0) fun v6=>E.call (E.fid i.f20) [v6] H2 fun v7 H3=>opt (addOff v4 0) fun v8=>opt (load1 v8 H3) fun v9=>opt (lenSlc v9) fun v10=>LoopL (fun l H X1=>F.f31_l2 E Q X0 (nth l 0) (nth l 1) (nth l 2) (nth l 3) (nth l 4) (nth l 5) (nth l 6) (nth l 7) (nth l 8) H X1) [t0,v4,v7,t10,t11,t12,v9,v10,(.int .i64 0)] H3) (
 opt (nilCk t0) fun v11=>opt (addOff v11 0) fun v12=>opt (nilCk t0) fun v13=>opt (addOff v13 2) fun v14=>opt (load1 v14 H) fun v15=>E.call (E.fid i.f17) [v12,v15] H fun v16 H4=>Q (.tuple #[]) H4)
def F.f31 (E:Sy) (x0 x1:Value) (H:AH) (Q:VK):Prop :=
 opt (lenSlc x1) fun v1=>LoopL (fun l H X0=>F.f31_l1 E Q (nth l 0) (nth l 1) (nth l 2) (nth l 3) H X0) [x0,x1,v1,(.int .i64 0)] H

def F.f34_l1 (E:Sy) (Q:VK) (t0 t7 t8 t9:Value) (H:AH) (X0:LK):Prop :=
 opt (binInt .lss t9 t8) fun v1=>ifB v1 (
 opt (ixSlc 1 t7 t9) fun v2=>opt (load1 v2 H) fun v3=>opt (nilCk t0) fun v4=>opt (addOff v4 0) fun v5=>opt (nilCk t0) fun v6=>opt (addOff v6 3) fun v7=>opt (load1 v7 H) fun v8=>opt (look 0 (.int .i64 0) false v8 v3 H) fun v9=>E.call (E.fid i.f18) [v5,v9] H fun v10 H1=>opt (nilCk t0) fun v11=>opt (addOff v11 0) fun v12=>E.call (E.fid i.f13) [v3] H1 fun v13 H2=>E.call (E.fid i.f22) [v12,v13] H2 fun v14 H3=>opt (binInt .add t9 (.int .i64 1)) fun v15=>X0 [t0,t7,t8,v15] H3) (
 Q (.tuple #[]) H)
def F.f34 (E:Sy) (x0:Value) (H:AH) (Q:VK):Prop :=
 opt (nilCk x0) fun v1=>opt (addOff v1 4) fun v2=>opt (load1 v2 H) fun v3=>opt (lenSlc v3) fun v4=>LoopL (fun l H X0=>F.f34_l1 E Q (nth l 0) (nth l 1) (nth l 2) (nth l 3) H X0) [x0,v3,v4,(.int .i64 0)] H

def F.f21 (E:Sy) (x0:Value) (H:AH) (Q:VK):Prop :=
 opt (binNil eqPtr .eql x0 (.pointer none)) fun v1=>ifB v1 (
 Q (.slice none 0 0) H) (
 mk (buildS 0 7 #[(.int .u8 0),(.int .i64 0),(.int .i64 0),(.int .u16 0),(.int .u8 0),(.int .u8 0),(.int .u32 0)] []) H fun v2 H1=>opt (nilCk x0) fun v3=>opt (addOff v3 0) fun v4=>opt (load1 v4 H1) fun v5=>opt2 (app 7 32 v2 v5 H1) fun v6 H2=>Q v6 H2)

def F.f28 (E:Sy) (x0 x1:Value) (H:AH) (Q:VK):Prop :=
 mk (boxO x1) H fun v1 H1=>opt (addOff v1 0) fun v2=>opt (load1 v2 H1) fun v3=>opt (binInt .eql v3 (.int .u8 1)) fun v4=>ifB v4 (
 opt (nilCk x0) fun v5=>opt (addOff v5 1) fun v6=>opt (load1 v6 H1) fun v7=>opt (addOff v1 1) fun v8=>opt (load1 v8 H1) fun v9=>opt (look 0 (.int .i64 0) true v7 v9 H1) fun v10=>opt (ext v10 0) fun v11=>opt (ext v10 1) fun v12=>ifB v12 (
 Q (.int .i64 206) H1) (
 opt (nilCk x0) fun v13=>opt (addOff v13 1) fun v14=>opt (load1 v14 H1) fun v15=>opt (addOff v1 1) fun v16=>opt (load1 v16 H1) fun v17=>opt (nilCk x0) fun v18=>opt (addOff v18 0) fun v19=>opt (load1 v19 H1) fun v20=>opt (lenSlc v20) fun v21=>opt (setMap 0 v15 v17 v21 H1) fun H2=>Q (.int .i64 0) H2)) (
 opt (binInt .eql v3 (.int .u8 2)) fun v22=>ifB v22 (
 opt (addOff v1 3) fun v23=>opt (addOff v23 0) fun v24=>opt (load1 v24 H1) fun v25=>E.call (E.fid i.f8) [v25] H1 fun v26 H3=>opt (binInt .eql v26 (.int .u16 5)) fun v27=>ifB v27 (
 Q (.int .i64 210) H3) (
 opt (nilCk x0) fun v28=>opt (addOff v28 0) fun v29=>opt (load1 v29 H3) fun v30=>opt (addOff v1 3) fun v31=>opt (loadN 4 v31 H3) fun v32=>mk (buildS 1 4 #[(.int .u16 0),(.int .u8 0),(.int .u8 0),(.int .u32 0)] [(0,v32)]) H3 fun v33 H4=>opt2 (app 4 8 v30 v33 H4) fun v34 H5=>opt (nilCk x0) fun v35=>opt (addOff v35 0) fun v36=>opt (store1 v36 v34 H5) fun H6=>Q (.int .i64 0) H6)) (
 opt (binInt .eql v3 (.int .u8 4)) fun v37=>ifB v37 (
 opt (addOff v1 1) fun v38=>opt (load1 v38 H1) fun v39=>E.call (E.fid i.f25) [x0,v39] H1 fun v40 H7=>opt (ext v40 0) fun v41=>opt (ext v40 1) fun v42=>opt (un .not v42) fun v43=>ifB v43 (
 Q (.int .i64 207) H7) (
 E.call (E.fid i.f27) [x0,v41] H7 fun v44 H8=>Q (.int .i64 0) H8)) (
 opt (binInt .eql v3 (.int .u8 3)) fun v45=>ifB v45 (
 opt (loadN 7 v1 H1) fun v46=>E.call (E.fid i.f26) [x0,v46] H1 fun v47 H9=>Q v47 H9) (
 Q (.int .i64 210) H1))))

def F.f0_l1 (E:Sy) (Q:VK) (t0 t2 t17 t18 t19:Value) (H:AH) (X0:LK):Prop :=
 opt (binInt .lss t19 t18) fun v1=>ifB v1 (
 opt (ixSlc 4 t17 t19) fun v2=>opt (loadN 4 v2 H) fun v3=>allocW [(.int .u16 0),(.int .u8 0),(.int .u8 0),(.int .u32 0)] H fun v4 H1=>opt (storeN 4 v4 v3 H1) fun H2=>opt (loadN 4 v4 H2) fun v5=>opt (lenSlc t0) fun v6=>E.call (E.fid i.f3) [v5,t19,v6] H2 fun v7 H3=>opt (binInt .neq v7 (.int .i64 0)) fun v8=>ifB v8 (
 opt (buildV [(0,1),(1,1)] #[(.int .i64 0),(.int .i64 0)] [(0,t19),(1,v7)]) fun v9=>opt (storeN 2 t2 v9 H3) fun H4=>opt (loadN 2 t2 H4) fun v10=>Q v10 H4) (
 opt (binInt .add t19 (.int .i64 1)) fun v11=>X0 [t0,t2,t17,t18,v11] H3)) (
 opt (lenSlc t0) fun v12=>opt (binInt .sub v12 (.int .i64 1)) fun v13=>opt (ixSlc 4 t0 v13) fun v14=>opt (loadN 4 v14 H) fun v15=>E.call (E.fid i.f1) [v15] H fun v16 H5=>opt (un .not v16) fun v17=>ifB v17 (
 opt (buildV [(0,1),(1,1)] #[(.int .i64 0),(.int .i64 0)] [(0,v13),(1,(.int .i64 209))]) fun v18=>opt (storeN 2 t2 v18 H5) fun H6=>opt (loadN 2 t2 H6) fun v19=>Q v19 H6) (
 E.call (E.fid i.f2) [t0] H5 fun v20 H7=>opt (storeN 2 t2 v20 H7) fun H8=>opt (loadN 2 t2 H8) fun v21=>Q v21 H8))
def F.f0 (E:Sy) (x0:Value) (H:AH) (Q:VK):Prop :=
 allocW [(.int .i64 0),(.int .i64 0)] H fun v1 H1=>opt (lenSlc x0) fun v2=>opt (binInt .eql v2 (.int .i64 0)) fun v3=>ifB v3 (
 opt (buildV [(0,1),(1,1)] #[(.int .i64 0),(.int .i64 0)] [(0,(.int .i64 0)),(1,(.int .i64 203))]) fun v4=>opt (storeN 2 v1 v4 H1) fun H2=>opt (loadN 2 v1 H2) fun v5=>Q v5 H2) (
 opt (lenSlc x0) fun v6=>opt (binInt .gtr v6 (.int .i64 4096)) fun v7=>ifB v7 (
 opt (buildV [(0,1),(1,1)] #[(.int .i64 0),(.int .i64 0)] [(0,(.int .i64 4096)),(1,(.int .i64 205))]) fun v8=>opt (storeN 2 v1 v8 H1) fun H3=>opt (loadN 2 v1 H3) fun v9=>Q v9 H3) (
 opt (lenSlc x0) fun v10=>LoopL (fun l H X0=>F.f0_l1 E Q (nth l 0) (nth l 1) (nth l 2) (nth l 3) (nth l 4) H X0) [x0,v1,x0,v10,(.int .i64 0)] H1))

def F.f55 (E:Sy) (x0 x1:Value) (H:AH) (Q:VK):Prop :=
 mk (boxO x1) H fun v1 H1=>opt (nilCk x0) fun v2=>opt (addOff v2 18) fun v3=>opt (load1 v3 H1) fun v4=>opt (binInt .add v4 (.int .i64 1)) fun v5=>opt (nilCk x0) fun v6=>opt (addOff v6 18) fun v7=>opt (store1 v7 v5 H1) fun H2=>opt (addOff v1 0) fun v8=>opt (load1 v8 H2) fun v9=>E.call (E.fid i.f8) [v9] H2 fun v10 H3=>opt (binInt .eql v10 (.int .u16 0)) fun v11=>ifB v11 (
 opt (loadN 4 v1 H3) fun v12=>E.call (E.fid i.f52) [x0,v12] H3 fun v13 H4=>opt (nilCk x0) fun v14=>opt (addOff v14 0) fun v15=>opt (store1 v15 v13 H4) fun H5=>Q (.tuple #[]) H5) (
 opt (binInt .eql v10 (.int .u16 1)) fun v16=>ifB v16 (
 opt (loadN 4 v1 H3) fun v17=>E.call (E.fid i.f52) [x0,v17] H3 fun v18 H6=>opt (nilCk x0) fun v19=>opt (addOff v19 1) fun v20=>opt (store1 v20 v18 H6) fun H7=>Q (.tuple #[]) H7) (
 opt (binInt .eql v10 (.int .u16 2)) fun v21=>ifB v21 (
 opt (addOff v1 3) fun v22=>opt (load1 v22 H3) fun v23=>opt (binInt .rem v23 (.int .u32 16)) fun v24=>opt (nilCk x0) fun v25=>opt (addOff v25 0) fun v26=>opt (load1 v26 H3) fun v27=>opt (nilCk x0) fun v28=>opt (addOff v28 2) fun v29=>opt (ixArr 16 1 v29 v24) fun v30=>opt (store1 v30 v27 H3) fun H8=>Q (.tuple #[]) H8) (
 opt (binInt .eql v10 (.int .u16 3)) fun v31=>ifB v31 (
 opt (addOff v1 3) fun v32=>opt (load1 v32 H3) fun v33=>opt (binInt .rem v33 (.int .u32 16)) fun v34=>opt (nilCk x0) fun v35=>opt (addOff v35 1) fun v36=>opt (load1 v36 H3) fun v37=>opt (nilCk x0) fun v38=>opt (addOff v38 2) fun v39=>opt (ixArr 16 1 v39 v34) fun v40=>opt (store1 v40 v37 H3) fun H9=>Q (.tuple #[]) H9) (
 opt (binInt .eql v10 (.int .u16 4)) fun v41=>ifB v41 (
 opt (loadN 4 v1 H3) fun v42=>E.call (E.fid i.f54) [x0,v42] H3 fun v43 H10=>Q (.tuple #[]) H10) (
 opt (binInt .eql v10 (.int .u16 5)) fun v44=>ifB v44 (
 opt (loadN 4 v1 H3) fun v45=>E.call (E.fid i.f51) [x0,v45] H3 fun v46 H11=>Q (.tuple #[]) H11) (
 opt (binInt .eql v10 (.int .u16 6)) fun v47=>ifB v47 (
 opt (addOff v1 3) fun v48=>opt (load1 v48 H3) fun v49=>opt (nilCk x0) fun v50=>opt (addOff v50 29) fun v51=>opt (store1 v51 (.bool true) H3) fun H12=>load1 v48 H12=load1 v48 H3 /\
 opt (nilCk x0) fun v52=>opt (addOff v52 28) fun v53=>opt (store1 v53 v49 H12) fun H13=>opt (addOff v1 0) fun v54=>opt (load1 v54 H13) fun v55=>opt (binInt .eql v55 (.int .u16 22)) fun v56=>ifB v56 (
 opt (nilCk x0) fun v57=>opt (addOff v57 0) fun v58=>opt (load1 v58 H13) fun v59=>opt (nilCk x0) fun v60=>opt (addOff v60 28) fun v61=>opt (store1 v61 v59 H13) fun H14=>Q (.tuple #[]) H14) (
 Q (.tuple #[]) H13)) (
 opt (binInt .eql v10 (.int .u16 7)) fun v62=>ifB v62 (
 opt (addOff v1 0) fun v63=>opt (load1 v63 H3) fun v64=>opt (binInt .eql v64 (.int .u16 7)) fun v65=>ifB v65 (
 opt (nilCk x0) fun v66=>opt (addOff v66 0) fun v67=>opt (load1 v67 H3) fun v68=>opt (nilCk x0) fun v69=>opt (addOff v69 1) fun v70=>opt (store1 v70 v68 H3) fun H15=>Q (.tuple #[]) H15) (
 opt (nilCk x0) fun v71=>opt (addOff v71 1) fun v72=>opt (load1 v72 H3) fun v73=>opt (nilCk x0) fun v74=>opt (addOff v74 0) fun v75=>opt (store1 v75 v73 H3) fun H16=>Q (.tuple #[]) H16)) (
 Q (.tuple #[]) H3))))))))

def F.f48 (E:Sy) (x0 x1:Value) (H:AH) (Q:VK):Prop :=
 opt (nilCk x0) fun v1=>opt (addOff v1 0) fun v2=>E.call (E.fid i.f47) [v2,x1] H fun v3 H1=>Q v3 H1

def F.f46_l1 (E:Sy) (Q:VK) (t0 t1 t2 t8 t9 t10:Value) (H:AH) (X0:LK):Prop :=
 opt (binInt .lss t9 t10) fun v1=>ifB v1 (
 opt (binInt .add t9 t10) fun v2=>opt (convInt .u64 v2) fun v3=>opt (binInt .shr v3 (.int .u64 1)) fun v4=>opt (convInt .i64 v4) fun v5=>opt (ixSlc 2 t0 v5) fun v6=>opt (loadN 2 v6 H) fun v7=>callV E.call t2 [v7,t1] H fun v8 H1=>opt (binInt .lss v8 (.int .i64 0)) fun v9=>ifB v9 (
 opt (binInt .add v5 (.int .i64 1)) fun v10=>X0 [t0,t1,t2,t8,v10,t10] H1) (
 X0 [t0,t1,t2,t8,t9,v5] H1)) (
 opt (binInt .lss t9 t8) fun v11=>gd v11 true (fun k=>k t2 H) H fun v12 H2=>gd v11 true (fun k=>k t0 H2) H2 fun v13 H3=>gd v11 true (fun k=>k t9 H3) H3 fun v14 H4=>gd v11 true (fun k=>opt (ixSlc 2 v13 v14) fun v=>k v H4) H4 fun v15 H5=>gd v11 true (fun k=>opt (loadN 2 v15 H5) fun v=>k v H5) H5 fun v16 H6=>gd v11 true (fun k=>k t1 H6) H6 fun v17 H7=>gd v11 true (fun k=>callV E.call v12 [v16,v17] H7 fun v h=>k v h) H7 fun v18 H8=>gd v11 true (fun k=>opt (binInt .eql v18 (.int .i64 0)) fun v=>k v H8) H8 fun v19 H9=>opt (pick v11 v19 (.bool false)) fun v20=>Q (.tuple #[t9,v20]) H9)
def F.f46 (E:Sy) (x0 x1 x2:Value) (H:AH) (Q:VK):Prop :=
 opt (lenSlc x0) fun v1=>LoopL (fun l H X0=>F.f46_l1 E Q (nth l 0) (nth l 1) (nth l 2) (nth l 3) (nth l 4) (nth l 5) H X0) [x0,x1,x2,v1,(.int .i64 0),v1] H

def F.f16 (E:Sy) (x0 x1:Value) (H:AH) (Q:VK):Prop :=
 mk (boxO x0) H fun v1 H1=>opt (addOff v1 0) fun v2=>opt (load1 v2 H1) fun v3=>E.call (E.fid i.f6) [v3,x1] H1 fun v4 H2=>Q v4 H2

def F.f37 (E:Sy) (x0 x1:Value) (H:AH) (Q:VK):Prop :=
 mk (boxO x0) H fun v1 H1=>mk (boxO x1) H1 fun v2 H2=>opt (addOff v1 0) fun v3=>opt (load1 v3 H2) fun v4=>opt (binInt .lss v4 (.int .i64 0)) fun v5=>gd v5 false (fun k=>opt (addOff v1 0) fun v=>k v H2) H2 fun v6 H3=>gd v5 false (fun k=>opt (load1 v6 H3) fun v=>k v H3) H3 fun v7 H4=>gd v5 false (fun k=>opt (binInt .gtr v7 (.int .i64 5)) fun v=>k v H4) H4 fun v8 H5=>opt (pick v5 (.bool true) v8) fun v9=>ifB v9 (
 Q (.bool false) H5) (
 opt (addOff v1 0) fun v10=>opt (load1 v10 H5) fun v11=>opt (addOff v2 3) fun v12=>opt (ixArr 6 1 v12 v11) fun v13=>opt (load1 v13 H5) fun v14=>opt (addOff v1 1) fun v15=>opt (load1 v15 H5) fun v16=>opt (binInt .eql v16 (.int .u8 1)) fun v17=>ifB v17 (
 opt (addOff v1 3) fun v18=>opt (load1 v18 H5) fun v19=>opt (binInt .eql v14 v19) fun v20=>Q v20 H5) (
 opt (binInt .eql v16 (.int .u8 2)) fun v21=>ifB v21 (
 opt (addOff v1 3) fun v22=>opt (load1 v22 H5) fun v23=>opt (binInt .neq v14 v23) fun v24=>Q v24 H5) (
 opt (binInt .eql v16 (.int .u8 3)) fun v25=>ifB v25 (
 opt (addOff v1 3) fun v26=>opt (load1 v26 H5) fun v27=>opt (binInt .lss v14 v27) fun v28=>Q v28 H5) (
 opt (binInt .eql v16 (.int .u8 4)) fun v29=>ifB v29 (
 opt (addOff v1 3) fun v30=>opt (load1 v30 H5) fun v31=>opt (binInt .leq v14 v31) fun v32=>Q v32 H5) (
 opt (binInt .eql v16 (.int .u8 5)) fun v33=>ifB v33 (
 opt (addOff v1 3) fun v34=>opt (load1 v34 H5) fun v35=>opt (binInt .gtr v14 v35) fun v36=>Q v36 H5) (
 opt (binInt .eql v16 (.int .u8 6)) fun v37=>ifB v37 (
 opt (addOff v1 3) fun v38=>opt (load1 v38 H5) fun v39=>opt (binInt .geq v14 v39) fun v40=>Q v40 H5) (
 opt (binInt .eql v16 (.int .u8 7)) fun v41=>ifB v41 (
 opt (addOff v1 2) fun v42=>opt (load1 v42 H5) fun v43=>opt (binInt .and v14 v43) fun v44=>opt (addOff v1 3) fun v45=>opt (load1 v45 H5) fun v46=>opt (binInt .eql v44 v46) fun v47=>Q v47 H5) (
 Q (.bool false) H5))))))))

def F.f23 (E:Sy) (x0 x1:Value) (H:AH) (Q:VK):Prop :=
 mk (boxO x1) H fun v1 H1=>opt (binNil eqPtr .neq x0 (.pointer none)) fun v2=>ifB v2 (
 opt (nilCk x0) fun v3=>opt (addOff v3 0) fun v4=>opt (load1 v4 H1) fun v5=>opt (loadN 7 v1 H1) fun v6=>mk (buildS 1 7 #[(.int .u8 0),(.int .i64 0),(.int .i64 0),(.int .u16 0),(.int .u8 0),(.int .u8 0),(.int .u32 0)] [(0,v6)]) H1 fun v7 H2=>opt2 (app 7 32 v5 v7 H2) fun v8 H3=>opt (nilCk x0) fun v9=>opt (addOff v9 0) fun v10=>opt (store1 v10 v8 H3) fun H4=>Q (.tuple #[]) H4) (
 Q (.tuple #[]) H1)

def F.f9 (E:Sy) (x0 x1 x2 x3:Value) (H:AH) (Q:VK):Prop :=
 allocW [(.int .u16 0),(.int .u8 0),(.int .u8 0),(.int .u32 0)] H fun v1 H1=>opt (binInt .or (.int .u16 5) x0) fun v2=>opt (binInt .or v2 (.int .u16 0)) fun v3=>opt (buildV [(0,1),(1,1),(2,1),(3,1)] #[(.int .u16 0),(.int .u8 0),(.int .u8 0),(.int .u32 0)] [(0,v3),(1,x2),(2,x3),(3,x1)]) fun v4=>opt (storeN 4 v1 v4 H1) fun H2=>opt (loadN 4 v1 H2) fun v5=>Q v5 H2

def F.f17 (E:Sy) (x0 x1:Value) (H:AH) (Q:VK):Prop :=
 opt (buildV [(0,1),(1,1),(2,1),(3,4)] #[(.int .u8 0),(.int .i64 0),(.int .i64 0),(.int .u16 0),(.int .u8 0),(.int .u8 0),(.int .u32 0)] [(0,(.int .u8 4)),(1,x1)]) fun v1=>E.call (E.fid i.f23) [x0,v1] H fun v2 H1=>Q (.tuple #[]) H1

def F.f33 (E:Sy) (x0 x1 x2 x3:Value) (H:AH) (Q:VK):Prop :=
 mk (boxO x1) H fun v1 H1=>opt (addOff v1 3) fun v2=>opt (load1 v2 H1) fun v3=>opt (binInt .shr v3 (.int .u64 32)) fun v4=>opt (convInt .u32 v4) fun v5=>opt (addOff v1 3) fun v6=>opt (load1 v6 H1) fun v7=>opt (convInt .u32 v7) fun v8=>opt (nilCk x0) fun v9=>opt (addOff v9 0) fun v10=>E.call (E.fid i.f20) [v10] H1 fun v11 H2=>opt (nilCk x0) fun v12=>opt (addOff v12 0) fun v13=>opt (addOff v1 0) fun v14=>opt (load1 v14 H2) fun v15=>E.call (E.fid i.f41) [v15,(.bool true)] H2 fun v16 H3=>E.call (E.fid i.f11) [v16] H3 fun v17 H4=>E.call (E.fid i.f22) [v13,v17] H4 fun v18 H5=>opt (addOff v1 1) fun v19=>opt (load1 v19 H5) fun v20=>opt (binInt .eql v20 (.int .u8 1)) fun v21=>ifB v21 (
 opt (nilCk x0) fun v22=>opt (addOff v22 0) fun v23=>E.call (E.fid i.f19) [v23,(.int .u16 16),v5,v11,x3] H5 fun v24 H6=>opt (loadN 4 v1 H6) fun v25=>E.call (E.fid i.f36) [x0,v25,v11] H6 fun v26 H7=>opt (nilCk x0) fun v27=>opt (addOff v27 0) fun v28=>E.call (E.fid i.f19) [v28,(.int .u16 16),v8,x2,x3] H7 fun v29 H8=>Q (.tuple #[]) H8) (
 opt (binInt .eql v20 (.int .u8 2)) fun v30=>ifB v30 (
 opt (nilCk x0) fun v31=>opt (addOff v31 0) fun v32=>E.call (E.fid i.f19) [v32,(.int .u16 16),v5,v11,x2] H5 fun v33 H9=>opt (loadN 4 v1 H9) fun v34=>E.call (E.fid i.f36) [x0,v34,v11] H9 fun v35 H10=>opt (nilCk x0) fun v36=>opt (addOff v36 0) fun v37=>E.call (E.fid i.f19) [v37,(.int .u16 16),v8,x3,x2] H10 fun v38 H11=>Q (.tuple #[]) H11) (
 opt (binInt .eql v20 (.int .u8 5)) fun v39=>ifB v39 (
 opt (loadN 4 v1 H5) fun v40=>E.call (E.fid i.f35) [x0,v40,(.int .u16 32),x2,x3] H5 fun v41 H12=>Q (.tuple #[]) H12) (
 opt (binInt .eql v20 (.int .u8 6)) fun v42=>ifB v42 (
 opt (loadN 4 v1 H5) fun v43=>E.call (E.fid i.f35) [x0,v43,(.int .u16 48),x2,x3] H5 fun v44 H13=>Q (.tuple #[]) H13) (
 opt (binInt .eql v20 (.int .u8 3)) fun v45=>ifB v45 (
 opt (loadN 4 v1 H5) fun v46=>E.call (E.fid i.f35) [x0,v46,(.int .u16 48),x3,x2] H5 fun v47 H14=>Q (.tuple #[]) H14) (
 opt (binInt .eql v20 (.int .u8 4)) fun v48=>ifB v48 (
 opt (loadN 4 v1 H5) fun v49=>E.call (E.fid i.f35) [x0,v49,(.int .u16 32),x3,x2] H5 fun v50 H15=>Q (.tuple #[]) H15) (
 opt (binInt .eql v20 (.int .u8 7)) fun v51=>ifB v51 (
 opt (nilCk x0) fun v52=>opt (addOff v52 0) fun v53=>opt (addOff v1 2) fun v54=>opt (load1 v54 H5) fun v55=>opt (binInt .shr v55 (.int .u64 32)) fun v56=>opt (convInt .u32 v56) fun v57=>E.call (E.fid i.f12) [v57] H5 fun v58 H16=>E.call (E.fid i.f22) [v53,v58] H16 fun v59 H17=>opt (nilCk x0) fun v60=>opt (addOff v60 0) fun v61=>E.call (E.fid i.f19) [v61,(.int .u16 16),v5,v11,x3] H17 fun v62 H18=>opt (loadN 4 v1 H18) fun v63=>E.call (E.fid i.f36) [x0,v63,v11] H18 fun v64 H19=>opt (nilCk x0) fun v65=>opt (addOff v65 0) fun v66=>opt (addOff v1 2) fun v67=>opt (load1 v67 H19) fun v68=>opt (convInt .u32 v68) fun v69=>E.call (E.fid i.f12) [v69] H19 fun v70 H20=>E.call (E.fid i.f22) [v66,v70] H20 fun v71 H21=>opt (nilCk x0) fun v72=>opt (addOff v72 0) fun v73=>E.call (E.fid i.f19) [v73,(.int .u16 16),v8,x2,x3] H21 fun v74 H22=>Q (.tuple #[]) H22) (
 opt (nilCk x0) fun v75=>opt (addOff v75 0) fun v76=>E.call (E.fid i.f17) [v76,x3] H5 fun v77 H23=>Q (.tuple #[]) H23)))))))

def F.f13 (E:Sy) (x0:Value) (H:AH) (Q:VK):Prop :=
 allocW [(.int .u16 0),(.int .u8 0),(.int .u8 0),(.int .u32 0)] H fun v1 H1=>opt (buildV [(0,1),(1,1),(2,1),(3,1)] #[(.int .u16 0),(.int .u8 0),(.int .u8 0),(.int .u32 0)] [(0,(.int .u16 6)),(3,x0)]) fun v2=>opt (storeN 4 v1 v2 H1) fun H2=>opt (loadN 4 v1 H2) fun v3=>Q v3 H2

def F.f8 (E:Sy) (x0:Value) (H:AH) (Q:VK):Prop :=
 opt (binInt .and x0 (.int .u16 7)) fun v1=>Q v1 H

def F.f25 (E:Sy) (x0 x1:Value) (H:AH) (Q:VK):Prop :=
 opt (nilCk x0) fun v1=>opt (addOff v1 1) fun v2=>opt (load1 v2 H) fun v3=>opt (look 0 (.int .i64 0) true v3 x1 H) fun v4=>opt (ext v4 0) fun v5=>opt (ext v4 1) fun v6=>opt (nilCk x0) fun v7=>opt (addOff v7 0) fun v8=>opt (load1 v8 H) fun v9=>opt (lenSlc v9) fun v10=>opt (binInt .sub v10 v5) fun v11=>Q (.tuple #[v11,v6]) H

def F.f27 (E:Sy) (x0 x1:Value) (H:AH) (Q:VK):Prop :=
 opt (nilCk x0) fun v1=>opt (addOff v1 0) fun v2=>opt (load1 v2 H) fun v3=>opt (convInt .u32 x1) fun v4=>E.call (E.fid i.f14) [v4] H fun v5 H1=>load1 v2 H1=load1 v2 H /\
 mk (buildS 1 4 #[(.int .u16 0),(.int .u8 0),(.int .u8 0),(.int .u32 0)] [(0,v5)]) H1 fun v6 H2=>opt2 (app 4 8 v3 v6 H2) fun v7 H3=>opt (nilCk x0) fun v8=>opt (addOff v8 0) fun v9=>opt (store1 v9 v7 H3) fun H4=>Q (.tuple #[]) H4

def F.f26_j2 (E:Sy) (Q:VK) (t0 t3 t5 t7:Value) (H:AH):Prop :=
 opt (addOff t3 3) fun v1=>opt (loadN 4 v1 H) fun v2=>allocW [(.int .u16 0),(.int .u8 0),(.int .u8 0),(.int .u32 0)] H fun v3 H1=>opt (storeN 4 v3 v2 H1) fun H2=>opt (convInt .u8 t5) fun v4=>opt (convInt .u8 t7) fun v5=>opt (addOff v3 1) fun v6=>opt (store1 v6 v4 H2) fun H3=>opt (addOff v3 2) fun v7=>opt (store1 v7 v5 H3) fun H4=>opt (nilCk t0) fun v8=>opt (addOff v8 0) fun v9=>opt (load1 v9 H4) fun v10=>opt (loadN 4 v3 H4) fun v11=>mk (buildS 1 4 #[(.int .u16 0),(.int .u8 0),(.int .u8 0),(.int .u32 0)] [(0,v11)]) H4 fun v12 H5=>opt2 (app 4 8 v10 v12 H5) fun v13 H6=>opt (nilCk t0) fun v14=>opt (addOff v14 0) fun v15=>opt (store1 v15 v13 H6) fun H7=>Q (.int .i64 0) H7
def F.f26_j1 (E:Sy) (Q:VK) (t0 t3 t5 t7:Value) (H:AH):Prop :=
 opt (binInt .gtr t5 (.int .i64 253)) fun v1=>ifB v1 (
 E.call (E.fid i.f27) [t0,t5] H fun v2 H1=>opt (binInt .add t7 (.int .i64 1)) fun v3=>F.f26_j2 E Q t0 t3 (.int .i64 0) v3 H1) (
 F.f26_j2 E Q t0 t3 t5 t7 H)
def F.f26 (E:Sy) (x0 x1:Value) (H:AH) (Q:VK):Prop :=
 mk (boxO x1) H fun v1 H1=>opt (addOff v1 1) fun v2=>opt (load1 v2 H1) fun v3=>E.call (E.fid i.f25) [x0,v3] H1 fun v4 H2=>opt (ext v4 0) fun v5=>opt (ext v4 1) fun v6=>opt (addOff v1 2) fun v7=>opt (load1 v7 H2) fun v8=>E.call (E.fid i.f25) [x0,v8] H2 fun v9 H3=>opt (ext v9 0) fun v10=>opt (ext v9 1) fun v11=>opt (addOff v1 3) fun v12=>opt (addOff v12 0) fun v13=>opt (load1 v13 H3) fun v14=>E.call (E.fid i.f8) [v14] H3 fun v15 H4=>opt (binInt .neq v15 (.int .u16 5)) fun v16=>gd v16 false (fun k=>opt (addOff v1 3) fun v=>k v H4) H4 fun v17 H5=>gd v16 false (fun k=>opt (addOff v17 0) fun v=>k v H5) H5 fun v18 H6=>gd v16 false (fun k=>opt (load1 v18 H6) fun v=>k v H6) H6 fun v19 H7=>gd v16 false (fun k=>opt (binInt .eql v19 (.int .u16 5)) fun v=>k v H7) H7 fun v20 H8=>opt (pick v16 (.bool true) v20) fun v21=>ifB v21 (
 Q (.int .i64 210) H8) (
 opt (un .not v6) fun v22=>gd v22 false (fun k=>k v11 H8) H8 fun v23 H9=>gd v22 false (fun k=>opt (un .not v23) fun v=>k v H9) H9 fun v24 H10=>opt (pick v22 (.bool true) v24) fun v25=>ifB v25 (
 Q (.int .i64 207) H10) (
 opt (binInt .gtr v10 (.int .i64 253)) fun v26=>ifB v26 (
 E.call (E.fid i.f27) [x0,v10] H10 fun v27 H11=>opt (binInt .add v5 (.int .i64 1)) fun v28=>F.f26_j1 E Q x0 v1 v28 (.int .i64 0) H11) (
 F.f26_j1 E Q x0 v1 v5 v10 H10)))

def F.f3 (E:Sy) (x0 x1 x2:Value) (H:AH) (Q:VK):Prop :=
 mk (boxO x0) H fun v1 H1=>opt (binInt .sub x2 x1) fun v2=>opt (binInt .sub v2 (.int .i64 1)) fun v3=>opt (addOff v1 0) fun v4=>opt (load1 v4 H1) fun v5=>E.call (E.fid i.f10) [v5] H1 fun v6 H2=>opt (un .not v6) fun v7=>ifB v7 (
 Q (.int .i64 208) H2) (
 opt (addOff v1 0) fun v8=>opt (load1 v8 H2) fun v9=>opt (binInt .eql v9 (.int .u16 5)) fun v10=>gd v10 true (fun k=>opt (addOff v1 3) fun v=>k v H2) H2 fun v11 H3=>gd v10 true (fun k=>opt (load1 v11 H3) fun v=>k v H3) H3 fun v12 H4=>gd v10 true (fun k=>opt (convInt .u64 v12) fun v=>k v H4) H4 fun v13 H5=>gd v10 true (fun k=>k v3 H5) H5 fun v14 H6=>gd v10 true (fun k=>opt (convInt .u64 v14) fun v=>k v H6) H6 fun v15 H7=>gd v10 true (fun k=>opt (binInt .geq v13 v15) fun v=>k v H7) H7 fun v16 H8=>opt (pick v10 v16 (.bool false)) fun v17=>ifB v17 (
 Q (.int .i64 207) H8) (
 opt (addOff v1 0) fun v18=>opt (load1 v18 H8) fun v19=>E.call (E.fid i.f8) [v19] H8 fun v20 H9=>opt (binInt .eql v20 (.int .u16 5)) fun v21=>gd v21 true (fun k=>opt (addOff v1 0) fun v=>k v H9) H9 fun v22 H10=>gd v21 true (fun k=>opt (load1 v22 H10) fun v=>k v H10) H10 fun v23 H11=>gd v21 true (fun k=>opt (binInt .neq v23 (.int .u16 5)) fun v=>k v H11) H11 fun v24 H12=>opt (pick v21 v24 (.bool false)) fun v25=>gd v25 true (fun k=>opt (addOff v1 1) fun v=>k v H12) H12 fun v26 H13=>gd v25 true (fun k=>opt (load1 v26 H13) fun v=>k v H13) H13 fun v27 H14=>gd v25 true (fun k=>opt (addOff v1 2) fun v=>k v H14) H14 fun v28 H15=>gd v25 true (fun k=>opt (load1 v28 H15) fun v=>k v H15) H15 fun v29 H16=>gd v25 true (fun k=>opt (fold2 max2 [v27,v29]) fun v=>k v H16) H16 fun v30 H17=>gd v25 true (fun k=>opt (convInt .i64 v30) fun v=>k v H17) H17 fun v31 H18=>gd v25 true (fun k=>k v3 H18) H18 fun v32 H19=>gd v25 true (fun k=>opt (binInt .geq v31 v32) fun v=>k v H19) H19 fun v33 H20=>opt (pick v25 v33 (.bool false)) fun v34=>ifB v34 (
 Q (.int .i64 207) H20) (
 opt (addOff v1 0) fun v35=>opt (load1 v35 H20) fun v36=>opt (binInt .eql v36 (.int .u16 32)) fun v37=>gd v37 true (fun k=>opt (addOff v1 3) fun v=>k v H20) H20 fun v38 H21=>gd v37 true (fun k=>opt (load1 v38 H21) fun v=>k v H21) H21 fun v39 H22=>gd v37 true (fun k=>opt (binInt .rem v39 (.int .u32 4)) fun v=>k v H22) H22 fun v40 H23=>gd v37 true (fun k=>opt (binInt .neq v40 (.int .u32 0)) fun v=>k v H23) H23 fun v41 H24=>gd v37 true (fun k=>k v41 H24) H24 fun v42 H25=>gd v42 false (fun k=>opt (addOff v1 3) fun v=>k v H25) H25 fun v43 H26=>gd v42 false (fun k=>opt (load1 v43 H26) fun v=>k v H26) H26 fun v44 H27=>gd v42 false (fun k=>opt (binInt .gtr v44 (.int .u32 60)) fun v=>k v H27) H27 fun v45 H28=>gd v37 true (fun k=>opt (pick v42 (.bool true) v45) fun v=>k v H28) H28 fun v46 H29=>opt (pick v37 v46 (.bool false)) fun v47=>ifB v47 (
 Q (.int .i64 204) H29) (
 opt (addOff v1 0) fun v48=>opt (load1 v48 H29) fun v49=>E.call (E.fid i.f4) [v49] H29 fun v50 H30=>gd v50 true (fun k=>opt (addOff v1 3) fun v=>k v H30) H30 fun v51 H31=>gd v50 true (fun k=>opt (load1 v51 H31) fun v=>k v H31) H31 fun v52 H32=>gd v50 true (fun k=>opt (binInt .geq v52 (.int .u32 16)) fun v=>k v H32) H32 fun v53 H33=>opt (pick v50 v53 (.bool false)) fun v54=>ifB v54 (
 Q (.int .i64 204) H33) (
 opt (addOff v1 0) fun v55=>opt (load1 v55 H33) fun v56=>opt (binInt .eql v56 (.int .u16 52)) fun v57=>gd v57 true (fun k=>opt (addOff v1 3) fun v=>k v H33) H33 fun v58 H34=>gd v57 true (fun k=>opt (load1 v58 H34) fun v=>k v H34) H34 fun v59 H35=>gd v57 true (fun k=>opt (binInt .eql v59 (.int .u32 0)) fun v=>k v H35) H35 fun v60 H36=>opt (pick v57 v60 (.bool false)) fun v61=>ifB v61 (
 Q (.int .i64 204) H36) (
 opt (addOff v1 0) fun v62=>opt (load1 v62 H36) fun v63=>opt (binInt .eql v63 (.int .u16 100)) fun v64=>gd v64 false (fun k=>opt (addOff v1 0) fun v=>k v H36) H36 fun v65 H37=>gd v64 false (fun k=>opt (load1 v65 H37) fun v=>k v H37) H37 fun v66 H38=>gd v64 false (fun k=>opt (binInt .eql v66 (.int .u16 116)) fun v=>k v H38) H38 fun v67 H39=>opt (pick v64 (.bool true) v67) fun v68=>gd v68 true (fun k=>opt (addOff v1 3) fun v=>k v H39) H39 fun v69 H40=>gd v68 true (fun k=>opt (load1 v69 H40) fun v=>k v H40) H40 fun v70 H41=>gd v68 true (fun k=>opt (binInt .geq v70 (.int .u32 32)) fun v=>k v H41) H41 fun v71 H42=>opt (pick v68 v71 (.bool false)) fun v72=>ifB v72 (
 Q (.int .i64 204) H42) (
 Q (.int .i64 0) H42)))))))

def F.f1 (E:Sy) (x0:Value) (H:AH) (Q:VK):Prop :=
 mk (boxO x0) H fun v1 H1=>opt (addOff v1 0) fun v2=>opt (load1 v2 H1) fun v3=>E.call (E.fid i.f8) [v3] H1 fun v4 H2=>opt (binInt .eql v4 (.int .u16 6)) fun v5=>Q v5 H2

def F.f2_l3 (E:Sy) (Q:VK) (X0:LK) (t2 t3 t7 t24 t25 t26 t58 t59 t60:Value) (H:AH) (X1:LK):Prop :=
 opt (binInt .lss t60 t59) fun v1=>ifB v1 (
 opt (ixSlc 1 t58 t60) fun v2=>opt (load1 v2 H) fun v3=>opt (ixSlc 1 t3 v3) fun v4=>opt (load1 v4 H) fun v5=>opt (binInt .and v5 t7) fun v6=>opt (ixSlc 1 t3 v3) fun v7=>opt (store1 v7 v6 H) fun H1=>opt (binInt .add t60 (.int .i64 1)) fun v8=>X1 [t2,t3,t7,t24,t25,t26,t58,t59,v8] H1) (
 opt (binInt .add t26 (.int .i64 1)) fun v9=>X0 [t2,t3,t24,t25,v9] H)
def F.f2_j1 (E:Sy) (Q:VK) (X0:LK) (t2 t3 t5 t6 t7 t24 t25 t26:Value) (H:AH):Prop :=
 opt (loadN 4 t6 H) fun v1=>E.call (E.fid i.f5) [v1,t5] H fun v2 H1=>opt (lenSlc v2) fun v3=>LoopL (fun l H X1=>F.f2_l3 E Q X0 (nth l 0) (nth l 1) (nth l 2) (nth l 3) (nth l 4) (nth l 5) (nth l 6) (nth l 7) (nth l 8) H X1) [t2,t3,t7,t24,t25,t26,v2,v3,(.int .i64 0)] H1
def F.f2_j3 (E:Sy) (Q:VK) (X0:LK) (t2 t3 t5 t6 t7 t24 t25 t26 t48:Value) (H:AH):Prop :=
 ifB t48 (
 opt (addOff t6 3) fun v1=>opt (load1 v1 H) fun v2=>opt (binInt .shl (.int .u16 1) v2) fun v3=>opt (binInt .or t7 v3) fun v4=>F.f2_j1 E Q X0 t2 t3 t5 t6 v4 t24 t25 t26 H) (
 F.f2_j1 E Q X0 t2 t3 t5 t6 t7 t24 t25 t26 H)
def F.f2_j2 (E:Sy) (Q:VK) (X0:LK) (t2 t3 t5 t6 t7 t24 t25 t26 t36 t37:Value) (H:AH):Prop :=
 ifB t37 (
 opt (addOff t6 3) fun v1=>opt (load1 v1 H) fun v2=>opt (binInt .shr t7 v2) fun v3=>opt (binInt .and v3 (.int .u16 1)) fun v4=>opt (binInt .eql v4 (.int .u16 0)) fun v5=>ifB v5 (
 opt (buildV [(0,1),(1,1)] #[(.int .i64 0),(.int .i64 0)] [(0,t5),(1,(.int .i64 2))]) fun v6=>opt (storeN 2 t2 v6 H) fun H1=>opt (loadN 2 t2 H1) fun v7=>Q v7 H1) (
 F.f2_j1 E Q X0 t2 t3 t5 t6 t7 t24 t25 t26 H)) (
 opt (binInt .eql t36 (.int .u16 2)) fun v8=>ifB v8 (
 F.f2_j3 E Q X0 t2 t3 t5 t6 t7 t24 t25 t26 v8 H) (
 opt (binInt .eql t36 (.int .u16 3)) fun v9=>F.f2_j3 E Q X0 t2 t3 t5 t6 t7 t24 t25 t26 v9 H))
def F.f2_l2 (E:Sy) (Q:VK) (t2 t3 t24 t25 t26:Value) (H:AH) (X0:LK):Prop :=
 opt (binInt .lss t26 t25) fun v1=>ifB v1 (
 opt (ixSlc 4 t24 t26) fun v2=>opt (loadN 4 v2 H) fun v3=>allocW [(.int .u16 0),(.int .u8 0),(.int .u8 0),(.int .u32 0)] H fun v4 H1=>opt (storeN 4 v4 v3 H1) fun H2=>opt (ixSlc 1 t3 t26) fun v5=>opt (load1 v5 H2) fun v6=>opt (addOff v4 0) fun v7=>opt (load1 v7 H2) fun v8=>opt (binInt .eql v8 (.int .u16 96)) fun v9=>ifB v9 (
 F.f2_j2 E Q X0 t2 t3 t26 v4 v6 t24 t25 t26 v8 v9 H2) (
 opt (binInt .eql v8 (.int .u16 97)) fun v10=>F.f2_j2 E Q X0 t2 t3 t26 v4 v6 t24 t25 t26 v8 v10 H2)) (
 opt (buildV [(0,1),(1,1)] #[(.int .i64 0),(.int .i64 0)] []) fun v11=>opt (storeN 2 t2 v11 H) fun H3=>opt (loadN 2 t2 H3) fun v12=>Q v12 H3)
def F.f2_l1 (E:Sy) (Q:VK) (t0 t2 t3 t14 t15:Value) (H:AH) (X0:LK):Prop :=
 opt (binInt .lss t15 t14) fun v1=>ifB v1 (
 opt (ixSlc 1 t3 t15) fun v2=>opt (store1 v2 (.int .u16 65535) H) fun H1=>opt (binInt .add t15 (.int .i64 1)) fun v3=>X0 [t0,t2,t3,t14,v3] H1) (
 opt (ixSlc 1 t3 (.int .i64 0)) fun v4=>opt (store1 v4 (.int .u16 0) H) fun H2=>opt (lenSlc t0) fun v5=>LoopL (fun l H X0=>F.f2_l2 E Q (nth l 0) (nth l 1) (nth l 2) (nth l 3) (nth l 4) H X0) [t2,t3,t0,v5,(.int .i64 0)] H2)
def F.f2 (E:Sy) (x0:Value) (H:AH) (Q:VK):Prop :=
 allocW [(.int .i64 0),(.int .i64 0)] H fun v1 H1=>opt (lenSlc x0) fun v2=>mk (makeS 1 2 #[(.int .u16 0)] v2 v2) H1 fun v3 H2=>opt (lenSlc v3) fun v4=>LoopL (fun l H X0=>F.f2_l1 E Q (nth l 0) (nth l 1) (nth l 2) (nth l 3) (nth l 4) H X0) [x0,v1,v3,v4,(.int .i64 0)] H2

def F.f52 (E:Sy) (x0 x1:Value) (H:AH) (Q:VK):Prop :=
 mk (boxO x1) H fun v1 H1=>opt (addOff v1 0) fun v2=>opt (load1 v2 H1) fun v3=>opt (binInt .andNot v3 (.int .u16 7)) fun v4=>opt (binInt .eql v4 (.int .u16 32)) fun v5=>ifB v5 (
 opt (nilCk x0) fun v6=>opt (addOff v6 19) fun v7=>opt (loadN 9 v7 H1) fun v8=>opt (addOff v1 3) fun v9=>opt (load1 v9 H1) fun v10=>E.call (E.fid i.f43) [v8,v10] H1 fun v11 H2=>opt (ext v11 0) fun v12=>opt (ext v11 1) fun v13=>Q v12 H2) (
 opt (binInt .eql v4 (.int .u16 96)) fun v14=>ifB v14 (
 opt (addOff v1 3) fun v15=>opt (load1 v15 H1) fun v16=>opt (binInt .rem v16 (.int .u32 16)) fun v17=>opt (nilCk x0) fun v18=>opt (addOff v18 2) fun v19=>opt (ixArr 16 1 v19 v17) fun v20=>opt (load1 v20 H1) fun v21=>Q v21 H1) (
 opt (binInt .eql v4 (.int .u16 128)) fun v22=>ifB v22 (
 Q (.int .u32 64) H1) (
 opt (addOff v1 3) fun v23=>opt (load1 v23 H1) fun v24=>Q v24 H1)))

def F.f54 (E:Sy) (x0 x1:Value) (H:AH) (Q:VK):Prop :=
 mk (boxO x1) H fun v1 H1=>opt (loadN 4 v1 H1) fun v2=>E.call (E.fid i.f53) [x0,v2] H1 fun v3 H2=>opt (addOff v1 0) fun v4=>opt (load1 v4 H2) fun v5=>opt (binInt .andNot v5 (.int .u16 15)) fun v6=>opt (binInt .eql v6 (.int .u16 0)) fun v7=>ifB v7 (
 opt (nilCk x0) fun v8=>opt (addOff v8 0) fun v9=>opt (load1 v9 H2) fun v10=>opt (binInt .add v10 v3) fun v11=>opt (nilCk x0) fun v12=>opt (addOff v12 0) fun v13=>opt (store1 v13 v11 H2) fun H3=>Q (.tuple #[]) H3) (
 opt (binInt .eql v6 (.int .u16 16)) fun v14=>ifB v14 (
 opt (nilCk x0) fun v15=>opt (addOff v15 0) fun v16=>opt (load1 v16 H2) fun v17=>opt (binInt .sub v17 v3) fun v18=>opt (nilCk x0) fun v19=>opt (addOff v19 0) fun v20=>opt (store1 v20 v18 H2) fun H4=>Q (.tuple #[]) H4) (
 opt (binInt .eql v6 (.int .u16 32)) fun v21=>ifB v21 (
 opt (nilCk x0) fun v22=>opt (addOff v22 0) fun v23=>opt (load1 v23 H2) fun v24=>opt (binInt .mul v24 v3) fun v25=>opt (nilCk x0) fun v26=>opt (addOff v26 0) fun v27=>opt (store1 v27 v25 H2) fun H5=>Q (.tuple #[]) H5) (
 opt (binInt .eql v6 (.int .u16 48)) fun v28=>ifB v28 (
 opt (binInt .eql v3 (.int .u32 0)) fun v29=>ifB v29 (
 opt (nilCk x0) fun v30=>opt (addOff v30 29) fun v31=>opt (store1 v31 (.bool true) H2) fun H6=>Q (.tuple #[]) H6) (
 opt (nilCk x0) fun v32=>opt (addOff v32 0) fun v33=>opt (load1 v33 H2) fun v34=>opt (binInt .quo v34 v3) fun v35=>opt (nilCk x0) fun v36=>opt (addOff v36 0) fun v37=>opt (store1 v37 v35 H2) fun H7=>Q (.tuple #[]) H7)) (
 opt (binInt .eql v6 (.int .u16 64)) fun v38=>ifB v38 (
 opt (nilCk x0) fun v39=>opt (addOff v39 0) fun v40=>opt (load1 v40 H2) fun v41=>opt (binInt .or v41 v3) fun v42=>opt (nilCk x0) fun v43=>opt (addOff v43 0) fun v44=>opt (store1 v44 v42 H2) fun H8=>Q (.tuple #[]) H8) (
 opt (binInt .eql v6 (.int .u16 80)) fun v45=>ifB v45 (
 opt (nilCk x0) fun v46=>opt (addOff v46 0) fun v47=>opt (load1 v47 H2) fun v48=>opt (binInt .and v48 v3) fun v49=>opt (nilCk x0) fun v50=>opt (addOff v50 0) fun v51=>opt (store1 v51 v49 H2) fun H9=>Q (.tuple #[]) H9) (
 opt (binInt .eql v6 (.int .u16 160)) fun v52=>ifB v52 (
 opt (nilCk x0) fun v53=>opt (addOff v53 0) fun v54=>opt (load1 v54 H2) fun v55=>opt (binInt .xor v55 v3) fun v56=>opt (nilCk x0) fun v57=>opt (addOff v57 0) fun v58=>opt (store1 v58 v56 H2) fun H10=>Q (.tuple #[]) H10) (
 opt (binInt .eql v6 (.int .u16 96)) fun v59=>ifB v59 (
 opt (nilCk x0) fun v60=>opt (addOff v60 0) fun v61=>opt (load1 v61 H2) fun v62=>opt (binInt .and v3 (.int .u32 31)) fun v63=>opt (binInt .shl v62 v63) fun v64=>opt (nilCk x0) fun v65=>opt (addOff v65 0) fun v66=>opt (store1 v66 v64 H2) fun H11=>Q (.tuple #[]) H11) (
 opt (binInt .eql v6 (.int .u16 112)) fun v67=>ifB v67 (
 opt (nilCk x0) fun v68=>opt (addOff v68 0) fun v69=>opt (load1 v69 H2) fun v70=>opt (binInt .and v3 (.int .u32 31)) fun v71=>opt (binInt .shr v70 v71) fun v72=>opt (nilCk x0) fun v73=>opt (addOff v73 0) fun v74=>opt (store1 v74 v72 H2) fun H12=>Q (.tuple #[]) H12) (
 opt (binInt .eql v6 (.int .u16 128)) fun v75=>ifB v75 (
 opt (nilCk x0) fun v76=>opt (addOff v76 0) fun v77=>opt (load1 v77 H2) fun v78=>opt (un .neg v78) fun v79=>opt (nilCk x0) fun v80=>opt (addOff v80 0) fun v81=>opt (store1 v81 v79 H2) fun H13=>Q (.tuple #[]) H13) (
 Q (.tuple #[]) H2))))))))))

def F.f51_j1 (E:Sy) (Q:VK) (t0 t3 t5:Value) (H:AH):Prop :=
 ifB t5 (
 opt (nilCk t0) fun v1=>opt (addOff v1 18) fun v2=>opt (load1 v2 H) fun v3=>opt (addOff t3 1) fun v4=>opt (load1 v4 H) fun v5=>opt (convInt .i64 v5) fun v6=>opt (binInt .add v3 v6) fun v7=>opt (nilCk t0) fun v8=>opt (addOff v8 18) fun v9=>opt (store1 v9 v7 H) fun H1=>Q (.tuple #[]) H1) (
 opt (nilCk t0) fun v10=>opt (addOff v10 18) fun v11=>opt (load1 v11 H) fun v12=>opt (addOff t3 2) fun v13=>opt (load1 v13 H) fun v14=>opt (convInt .i64 v14) fun v15=>opt (binInt .add v12 v15) fun v16=>opt (nilCk t0) fun v17=>opt (addOff v17 18) fun v18=>opt (store1 v18 v16 H) fun H2=>Q (.tuple #[]) H2)
def F.f51 (E:Sy) (x0 x1:Value) (H:AH) (Q:VK):Prop :=
 mk (boxO x1) H fun v1 H1=>opt (loadN 4 v1 H1) fun v2=>E.call (E.fid i.f53) [x0,v2] H1 fun v3 H2=>opt (addOff v1 0) fun v4=>opt (load1 v4 H2) fun v5=>opt (binInt .andNot v5 (.int .u16 15)) fun v6=>opt (binInt .eql v6 (.int .u16 0)) fun v7=>ifB v7 (
 opt (nilCk x0) fun v8=>opt (addOff v8 18) fun v9=>opt (load1 v9 H2) fun v10=>opt (addOff v1 3) fun v11=>opt (load1 v11 H2) fun v12=>opt (convInt .i64 v12) fun v13=>opt (binInt .add v10 v13) fun v14=>opt (nilCk x0) fun v15=>opt (addOff v15 18) fun v16=>opt (store1 v16 v14 H2) fun H3=>Q (.tuple #[]) H3) (
 opt (binInt .eql v6 (.int .u16 16)) fun v17=>ifB v17 (
 opt (nilCk x0) fun v18=>opt (addOff v18 0) fun v19=>opt (load1 v19 H2) fun v20=>opt (binInt .eql v20 v3) fun v21=>F.f51_j1 E Q x0 v1 v21 H2) (
 opt (binInt .eql v6 (.int .u16 32)) fun v22=>ifB v22 (
 opt (nilCk x0) fun v23=>opt (addOff v23 0) fun v24=>opt (load1 v24 H2) fun v25=>opt (binInt .gtr v25 v3) fun v26=>F.f51_j1 E Q x0 v1 v26 H2) (
 opt (binInt .eql v6 (.int .u16 48)) fun v27=>ifB v27 (
 opt (nilCk x0) fun v28=>opt (addOff v28 0) fun v29=>opt (load1 v29 H2) fun v30=>opt (binInt .geq v30 v3) fun v31=>F.f51_j1 E Q x0 v1 v31 H2) (
 opt (binInt .eql v6 (.int .u16 64)) fun v32=>ifB v32 (
 opt (nilCk x0) fun v33=>opt (addOff v33 0) fun v34=>opt (load1 v34 H2) fun v35=>opt (binInt .and v35 v3) fun v36=>opt (binInt .neq v36 (.int .u32 0)) fun v37=>F.f51_j1 E Q x0 v1 v37 H2) (
 F.f51_j1 E Q x0 v1 (.bool false) H2)))))

def F.f6 (E:Sy) (x0 x1:Value) (H:AH) (Q:VK):Prop :=
 E.call (E.fid i.f7) [x0] H fun v1 H1=>E.call (E.fid i.f7) [x1] H1 fun v2 H2=>ifB v1 (
 ifB v2 (
 Q (.int .i64 0) H2) (
 Q (.int .i64 (-1)) H2)) (
 ifB v2 (
 Q (.int .i64 1) H2) (
 opt (binInt .lss x0 x1) fun v3=>ifB v3 (
 Q (.int .i64 (-1)) H2) (
 opt (binInt .gtr x0 x1) fun v4=>ifB v4 (
 Q (.int .i64 1) H2) (
 Q (.int .i64 0) H2))))

def F.f41 (E:Sy) (x0 x1:Value) (H:AH) (Q:VK):Prop :=
 opt (fold2 max2 [x0,(.int .i64 0)]) fun v1=>opt (fold2 min2 [v1,(.int .i64 5)]) fun v2=>opt (binInt .mul (.int .i64 8) v2) fun v3=>opt (binInt .add (.int .i64 16) v3) fun v4=>opt (convInt .u32 v4) fun v5=>ifB x1 (
 opt (binInt .add v5 (.int .u32 4)) fun v6=>Q v6 H) (
 Q v5 H)

def F.f36 (E:Sy) (x0 x1 x2:Value) (H:AH) (Q:VK):Prop :=
 mk (boxO x1) H fun v1 H1=>opt (nilCk x0) fun v2=>opt (addOff v2 0) fun v3=>E.call (E.fid i.f18) [v3,x2] H1 fun v4 H2=>opt (nilCk x0) fun v5=>opt (addOff v5 0) fun v6=>opt (addOff v1 0) fun v7=>opt (load1 v7 H2) fun v8=>E.call (E.fid i.f41) [v8,(.bool false)] H2 fun v9 H3=>E.call (E.fid i.f11) [v9] H3 fun v10 H4=>E.call (E.fid i.f22) [v6,v10] H4 fun v11 H5=>Q (.tuple #[]) H5

def F.f35 (E:Sy) (x0 x1 x2 x3 x4:Value) (H:AH) (Q:VK):Prop :=
 mk (boxO x1) H fun v1 H1=>opt (addOff v1 3) fun v2=>opt (load1 v2 H1) fun v3=>opt (binInt .shr v3 (.int .u64 32)) fun v4=>opt (convInt .u32 v4) fun v5=>opt (addOff v1 3) fun v6=>opt (load1 v6 H1) fun v7=>opt (convInt .u32 v7) fun v8=>opt (nilCk x0) fun v9=>opt (addOff v9 0) fun v10=>opt (nilCk x0) fun v11=>opt (addOff v11 0) fun v12=>E.call (E.fid i.f20) [v10] H1 fun v13 H2=>E.call (E.fid i.f20) [v12] H2 fun v14 H3=>opt (nilCk x0) fun v15=>opt (addOff v15 0) fun v16=>E.call (E.fid i.f19) [v16,(.int .u16 32),v5,x3,v13] H3 fun v17 H4=>opt (nilCk x0) fun v18=>opt (addOff v18 0) fun v19=>E.call (E.fid i.f18) [v19,v13] H4 fun v20 H5=>opt (nilCk x0) fun v21=>opt (addOff v21 0) fun v22=>E.call (E.fid i.f19) [v22,(.int .u16 16),v5,v14,x4] H5 fun v23 H6=>opt (loadN 4 v1 H6) fun v24=>E.call (E.fid i.f36) [x0,v24,v14] H6 fun v25 H7=>opt (nilCk x0) fun v26=>opt (addOff v26 0) fun v27=>E.call (E.fid i.f19) [v27,x2,v8,x3,x4] H7 fun v28 H8=>Q (.tuple #[]) H8

def F.f12 (E:Sy) (x0:Value) (H:AH) (Q:VK):Prop :=
 allocW [(.int .u16 0),(.int .u8 0),(.int .u8 0),(.int .u32 0)] H fun v1 H1=>opt (buildV [(0,1),(1,1),(2,1),(3,1)] #[(.int .u16 0),(.int .u8 0),(.int .u8 0),(.int .u32 0)] [(0,(.int .u16 84)),(3,x0)]) fun v2=>opt (storeN 4 v1 v2 H1) fun H2=>opt (loadN 4 v1 H2) fun v3=>Q v3 H2

def F.f14 (E:Sy) (x0:Value) (H:AH) (Q:VK):Prop :=
 allocW [(.int .u16 0),(.int .u8 0),(.int .u8 0),(.int .u32 0)] H fun v1 H1=>opt (buildV [(0,1),(1,1),(2,1),(3,1)] #[(.int .u16 0),(.int .u8 0),(.int .u8 0),(.int .u32 0)] [(0,(.int .u16 5)),(3,x0)]) fun v2=>opt (storeN 4 v1 v2 H1) fun H2=>opt (loadN 4 v1 H2) fun v3=>Q v3 H2

def F.f10_j3 (E:Sy) (Q:VK) (t0 t44:Value) (H:AH):Prop :=
 ifB t44 (
 E.call (E.fid i.f8) [t0] H fun v1 H1=>opt (binInt .eql v1 (.int .u16 5)) fun v2=>Q v2 H1) (
 Q (.bool false) H)
def F.f10_j2 (E:Sy) (Q:VK) (t0 t3:Value) (H:AH):Prop :=
 opt (binInt .or t3 (.int .u16 7)) fun v1=>opt (binInt .andNot t0 v1) fun v2=>opt (binInt .eql v2 (.int .u16 16)) fun v3=>ifB v3 (
 F.f10_j3 E Q t0 v3 H) (
 opt (binInt .eql v2 (.int .u16 32)) fun v4=>ifB v4 (
 F.f10_j3 E Q t0 v4 H) (
 opt (binInt .eql v2 (.int .u16 48)) fun v5=>ifB v5 (
 F.f10_j3 E Q t0 v5 H) (
 opt (binInt .eql v2 (.int .u16 64)) fun v6=>F.f10_j3 E Q t0 v6 H)))
def F.f10_j4 (E:Sy) (Q:VK) (t0 t3 t27:Value) (H:AH):Prop :=
 ifB t27 (
 E.call (E.fid i.f8) [t0] H fun v1 H1=>opt (binInt .eql v1 (.int .u16 4)) fun v2=>ifB v2 (
 Q (.bool true) H1) (
 F.f10_j2 E Q t0 t3 H1)) (
 F.f10_j2 E Q t0 t3 H)
def F.f10_j1 (E:Sy) (Q:VK) (t0 t5:Value) (H:AH):Prop :=
 ifB t5 (
 Q (.bool true) H) (
 opt (binInt .and t0 (.int .u16 8)) fun v1=>opt (binInt .or v1 (.int .u16 7)) fun v2=>opt (binInt .andNot t0 v2) fun v3=>opt (binInt .eql v3 (.int .u16 0)) fun v4=>ifB v4 (
 F.f10_j4 E Q t0 v1 v4 H) (
 opt (binInt .eql v3 (.int .u16 16)) fun v5=>ifB v5 (
 F.f10_j4 E Q t0 v1 v5 H) (
 opt (binInt .eql v3 (.int .u16 32)) fun v6=>ifB v6 (
 F.f10_j4 E Q t0 v1 v6 H) (
 opt (binInt .eql v3 (.int .u16 48)) fun v7=>ifB v7 (
 F.f10_j4 E Q t0 v1 v7 H) (
 opt (binInt .eql v3 (.int .u16 64)) fun v8=>ifB v8 (
 F.f10_j4 E Q t0 v1 v8 H) (
 opt (binInt .eql v3 (.int .u16 80)) fun v9=>ifB v9 (
 F.f10_j4 E Q t0 v1 v9 H) (
 opt (binInt .eql v3 (.int .u16 96)) fun v10=>ifB v10 (
 F.f10_j4 E Q t0 v1 v10 H) (
 opt (binInt .eql v3 (.int .u16 112)) fun v11=>ifB v11 (
 F.f10_j4 E Q t0 v1 v11 H) (
 opt (binInt .eql v3 (.int .u16 160)) fun v12=>F.f10_j4 E Q t0 v1 v12 H)))))))))
def F.f10 (E:Sy) (x0:Value) (H:AH) (Q:VK):Prop :=
 opt (binInt .eql x0 (.int .u16 32)) fun v1=>ifB v1 (
 F.f10_j1 E Q x0 v1 H) (
 opt (binInt .eql x0 (.int .u16 0)) fun v2=>ifB v2 (
 F.f10_j1 E Q x0 v2 H) (
 opt (binInt .eql x0 (.int .u16 96)) fun v3=>ifB v3 (
 F.f10_j1 E Q x0 v3 H) (
 opt (binInt .eql x0 (.int .u16 128)) fun v4=>ifB v4 (
 F.f10_j1 E Q x0 v4 H) (
 opt (binInt .eql x0 (.int .u16 1)) fun v5=>ifB v5 (
 F.f10_j1 E Q x0 v5 H) (
 opt (binInt .eql x0 (.int .u16 97)) fun v6=>ifB v6 (
 F.f10_j1 E Q x0 v6 H) (
 opt (binInt .eql x0 (.int .u16 129)) fun v7=>ifB v7 (
 F.f10_j1 E Q x0 v7 H) (
 opt (binInt .eql x0 (.int .u16 2)) fun v8=>ifB v8 (
 F.f10_j1 E Q x0 v8 H) (
 opt (binInt .eql x0 (.int .u16 3)) fun v9=>ifB v9 (
 F.f10_j1 E Q x0 v9 H) (
 opt (binInt .eql x0 (.int .u16 6)) fun v10=>ifB v10 (
 F.f10_j1 E Q x0 v10 H) (
 opt (binInt .eql x0 (.int .u16 22)) fun v11=>ifB v11 (
 F.f10_j1 E Q x0 v11 H) (
 opt (binInt .eql x0 (.int .u16 7)) fun v12=>ifB v12 (
 F.f10_j1 E Q x0 v12 H) (
 opt (binInt .eql x0 (.int .u16 135)) fun v13=>ifB v13 (
 F.f10_j1 E Q x0 v13 H) (
 opt (binInt .eql x0 (.int .u16 5)) fun v14=>ifB v14 (
 F.f10_j1 E Q x0 v14 H) (
 opt (binInt .eql x0 (.int .u16 132)) fun v15=>F.f10_j1 E Q x0 v15 H))))))))))))))

def F.f4_j1 (E:Sy) (Q:VK) (t4:Value) (H:AH):Prop :=
 ifB t4 (
 Q (.bool true) H) (
 Q (.bool false) H)
def F.f4 (E:Sy) (x0:Value) (H:AH) (Q:VK):Prop :=
 opt (binInt .eql x0 (.int .u16 96)) fun v1=>ifB v1 (
 F.f4_j1 E Q v1 H) (
 opt (binInt .eql x0 (.int .u16 97)) fun v2=>ifB v2 (
 F.f4_j1 E Q v2 H) (
 opt (binInt .eql x0 (.int .u16 2)) fun v3=>ifB v3 (
 F.f4_j1 E Q v3 H) (
 opt (binInt .eql x0 (.int .u16 3)) fun v4=>F.f4_j1 E Q v4 H)))

def F.f5 (E:Sy) (x0 x1:Value) (H:AH) (Q:VK):Prop :=
 mk (boxO x0) H fun v1 H1=>opt (loadN 4 v1 H1) fun v2=>E.call (E.fid i.f1) [v2] H1 fun v3 H2=>ifB v3 (
 Q (.slice none 0 0) H2) (
 opt (addOff v1 0) fun v4=>opt (load1 v4 H2) fun v5=>opt (binInt .eql v5 (.int .u16 5)) fun v6=>ifB v6 (
 opt (binInt .add x1 (.int .i64 1)) fun v7=>opt (addOff v1 3) fun v8=>opt (load1 v8 H2) fun v9=>opt (convInt .i64 v9) fun v10=>opt (binInt .add v7 v10) fun v11=>mk (buildS 1 1 #[(.int .i64 0)] [(0,v11)]) H2 fun v12 H3=>Q v12 H3) (
 opt (addOff v1 0) fun v13=>opt (load1 v13 H2) fun v14=>E.call (E.fid i.f8) [v14] H2 fun v15 H4=>opt (binInt .eql v15 (.int .u16 5)) fun v16=>ifB v16 (
 opt (binInt .add x1 (.int .i64 1)) fun v17=>opt (addOff v1 1) fun v18=>opt (load1 v18 H4) fun v19=>opt (convInt .i64 v19) fun v20=>opt (binInt .add v17 v20) fun v21=>opt (binInt .add x1 (.int .i64 1)) fun v22=>opt (addOff v1 2) fun v23=>opt (load1 v23 H4) fun v24=>opt (convInt .i64 v24) fun v25=>opt (binInt .add v22 v25) fun v26=>mk (buildS 2 1 #[(.int .i64 0)] [(0,v21),(1,v26)]) H4 fun v27 H5=>Q v27 H5) (
 opt (binInt .add x1 (.int .i64 1)) fun v28=>mk (buildS 1 1 #[(.int .i64 0)] [(0,v28)]) H4 fun v29 H6=>Q v29 H6)))

def F.f43 (E:Sy) (x0 x1:Value) (H:AH) (Q:VK):Prop :=
 mk (boxO x0) H fun v1 H1=>opt (binInt .rem x1 (.int .u32 4)) fun v2=>opt (binInt .neq v2 (.int .u32 0)) fun v3=>gd v3 false (fun k=>k x1 H1) H1 fun v4 H2=>gd v3 false (fun k=>opt (binInt .gtr v4 (.int .u32 60)) fun v=>k v H2) H2 fun v5 H3=>opt (pick v3 (.bool true) v5) fun v6=>ifB v6 (
 Q (.tuple #[(.int .u32 0),(.bool false)]) H3) (
 opt (loadN 9 v1 H3) fun v7=>E.call (E.fid i.f42) [v7] H3 fun v8 H4=>allocW (zs 64 (.int .u8 0)) H4 fun v9 H5=>opt (storeN 64 v9 v8 H5) fun H6=>opt (slArr 64 1 v9 (some x1) none none) fun v10=>E.call (E.fid i.f45) [v10,(.int .i64 4)] H6 fun v11 H7=>opt (convInt .u32 v11) fun v12=>Q (.tuple #[v12,(.bool true)]) H7)

def F.f53 (E:Sy) (x0 x1:Value) (H:AH) (Q:VK):Prop :=
 mk (boxO x1) H fun v1 H1=>opt (addOff v1 0) fun v2=>opt (load1 v2 H1) fun v3=>opt (binInt .and v3 (.int .u16 8)) fun v4=>opt (binInt .neq v4 (.int .u16 0)) fun v5=>ifB v5 (
 opt (nilCk x0) fun v6=>opt (addOff v6 1) fun v7=>opt (load1 v7 H1) fun v8=>Q v8 H1) (
 opt (addOff v1 3) fun v9=>opt (load1 v9 H1) fun v10=>Q v10 H1)

def F.f7 (E:Sy) (x0:Value) (H:AH) (Q:VK):Prop :=
 opt (binInt .neq x0 x0) fun v1=>Q v1 H

def F.f42_l1 (E:Sy) (Q:VK) (t2 t3 t21 t22:Value) (H:AH) (X0:LK):Prop :=
 opt (binInt .lss t22 (.int .i64 6)) fun v1=>ifB v1 (
 opt (ixAgg1 6 1 t21 t22) fun v2=>opt (binInt .mul (.int .i64 8) t22) fun v3=>opt (binInt .add (.int .i64 16) v3) fun v4=>opt (slArr 64 1 t3 (some v4) none none) fun v5=>E.call (E.fid i.f44) [v5,v2,(.int .i64 8)] H fun v6 H1=>opt (binInt .add t22 (.int .i64 1)) fun v7=>X0 [t2,t3,t21,v7] H1) (
 opt (loadN 64 t3 H) fun v8=>opt (storeN 64 t2 v8 H) fun H2=>opt (loadN 64 t2 H2) fun v9=>Q v9 H2)
def F.f42 (E:Sy) (x0:Value) (H:AH) (Q:VK):Prop :=
 mk (boxO x0) H fun v1 H1=>allocW (zs 64 (.int .u8 0)) H1 fun v2 H2=>allocW (zs 64 (.int .u8 0)) H2 fun v3 H3=>opt (slArr 64 1 v3 (some (.int .i64 0)) none none) fun v4=>opt (addOff v1 0) fun v5=>opt (load1 v5 H3) fun v6=>opt (convInt .u64 v6) fun v7=>E.call (E.fid i.f44) [v4,v7,(.int .i64 4)] H3 fun v8 H4=>opt (slArr 64 1 v3 (some (.int .i64 4)) none none) fun v9=>opt (addOff v1 1) fun v10=>opt (load1 v10 H4) fun v11=>opt (convInt .u64 v11) fun v12=>E.call (E.fid i.f44) [v9,v12,(.int .i64 4)] H4 fun v13 H5=>opt (slArr 64 1 v3 (some (.int .i64 8)) none none) fun v14=>opt (addOff v1 2) fun v15=>opt (load1 v15 H5) fun v16=>E.call (E.fid i.f44) [v14,v16,(.int .i64 8)] H5 fun v17 H6=>opt (addOff v1 3) fun v18=>opt (loadN 6 v18 H6) fun v19=>LoopL (fun l H X0=>F.f42_l1 E Q (nth l 0) (nth l 1) (nth l 2) (nth l 3) H X0) [v2,v3,v19,(.int .i64 0)] H6

def F.f45_l1 (E:Sy) (Q:VK) (t5 t10 t11 t12:Value) (H:AH) (X0:LK):Prop :=
 opt (binInt .lss t12 t11) fun v1=>ifB v1 (
 opt (ixSlc 1 t10 t12) fun v2=>opt (load1 v2 H) fun v3=>opt (convInt .u64 v3) fun v4=>opt (binInt .mul (.int .i64 8) t12) fun v5=>opt (binInt .shl v4 v5) fun v6=>opt (binInt .or t5 v6) fun v7=>opt (binInt .add t12 (.int .i64 1)) fun v8=>X0 [v7,t10,t11,v8] H) (
 Q t5 H)
def F.f45 (E:Sy) (x0 x1:Value) (H:AH) (Q:VK):Prop :=
 opt (slSlc 1 x0 none (some x1) none H) fun v1=>opt (lenSlc v1) fun v2=>LoopL (fun l H X0=>F.f45_l1 E Q (nth l 0) (nth l 1) (nth l 2) (nth l 3) H X0) [(.int .u64 0),v1,v2,(.int .i64 0)] H

def F.f44_l1 (E:Sy) (Q:VK) (t0 t1 t7 t8:Value) (H:AH) (X0:LK):Prop :=
 opt (binInt .lss t8 t7) fun v1=>ifB v1 (
 opt (binInt .mul (.int .i64 8) t8) fun v2=>opt (binInt .shr t1 v2) fun v3=>opt (convInt .u8 v3) fun v4=>opt (ixSlc 1 t0 t8) fun v5=>opt (store1 v5 v4 H) fun H1=>opt (binInt .add t8 (.int .i64 1)) fun v6=>X0 [t0,t1,t7,v6] H1) (
 Q (.tuple #[]) H)
def F.f44 (E:Sy) (x0 x1 x2:Value) (H:AH) (Q:VK):Prop :=
 LoopL (fun l H X0=>F.f44_l1 E Q (nth l 0) (nth l 1) (nth l 2) (nth l 3) H X0) [x0,x1,x2,(.int .i64 0)] H
structure Fold (E:Sy):Prop where
  mono:MonoC E.call
  f39:∀ x0 x1 H Q,F.f39 E x0 x1 H Q->E.call (E.fid i.f39) [x0,x1] H Q
  f38:∀ H Q,F.f38 E H Q->E.call (E.fid i.f38) [] H Q
  f40:∀ x0 H Q,F.f40 E x0 H Q->E.call (E.fid i.f40) [x0] H Q
  f29:∀ x0 H Q,F.f29 E x0 H Q->E.call (E.fid i.f29) [x0] H Q
  f24:∀ x0 H Q,F.f24 E x0 H Q->E.call (E.fid i.f24) [x0] H Q
  f50:∀ x0 H Q,F.f50 E x0 H Q->E.call (E.fid i.f50) [x0] H Q
  f49:∀ x0 x1 H Q,F.f49 E x0 x1 H Q->E.call (E.fid i.f49) [x0,x1] H Q
  f15:∀ x0 x1 H Q,F.f15 E x0 x1 H Q->E.call (E.fid i.f15) [x0,x1] H Q
  f30:∀ x0 x1 H Q,F.f30 E x0 x1 H Q->E.call (E.fid i.f30) [x0,x1] H Q
  f20:∀ x0 H Q,F.f20 E x0 H Q->E.call (E.fid i.f20) [x0] H Q
  f11:∀ x0 H Q,F.f11 E x0 H Q->E.call (E.fid i.f11) [x0] H Q
  f22:∀ x0 x1 H Q,F.f22 E x0 x1 H Q->E.call (E.fid i.f22) [x0,x1] H Q
  f19:∀ x0 x1 x2 x3 x4 H Q,F.f19 E x0 x1 x2 x3 x4 H Q->E.call (E.fid i.f19) [x0,x1,x2,x3,x4] H Q
  f18:∀ x0 x1 H Q,F.f18 E x0 x1 H Q->E.call (E.fid i.f18) [x0,x1] H Q
  f32:∀ x0 x1 x2 H Q,F.f32 E x0 x1 x2 H Q->E.call (E.fid i.f32) [x0,x1,x2] H Q
  f31:∀ x0 x1 H Q,F.f31 E x0 x1 H Q->E.call (E.fid i.f31) [x0,x1] H Q
  f34:∀ x0 H Q,F.f34 E x0 H Q->E.call (E.fid i.f34) [x0] H Q
  f21:∀ x0 H Q,F.f21 E x0 H Q->E.call (E.fid i.f21) [x0] H Q
  f28:∀ x0 x1 H Q,F.f28 E x0 x1 H Q->E.call (E.fid i.f28) [x0,x1] H Q
  f0:∀ x0 H Q,F.f0 E x0 H Q->E.call (E.fid i.f0) [x0] H Q
  f55:∀ x0 x1 H Q,F.f55 E x0 x1 H Q->E.call (E.fid i.f55) [x0,x1] H Q
  f48:∀ x0 x1 H Q,F.f48 E x0 x1 H Q->E.call (E.fid i.f48) [x0,x1] H Q
  f46:∀ x0 x1 x2 H Q,F.f46 E x0 x1 x2 H Q->E.call (E.fid i.f46) [x0,x1,x2] H Q
  f16:∀ x0 x1 H Q,F.f16 E x0 x1 H Q->E.call (E.fid i.f16) [x0,x1] H Q
  f37:∀ x0 x1 H Q,F.f37 E x0 x1 H Q->E.call (E.fid i.f37) [x0,x1] H Q
  f23:∀ x0 x1 H Q,F.f23 E x0 x1 H Q->E.call (E.fid i.f23) [x0,x1] H Q
  f9:∀ x0 x1 x2 x3 H Q,F.f9 E x0 x1 x2 x3 H Q->E.call (E.fid i.f9) [x0,x1,x2,x3] H Q
  f17:∀ x0 x1 H Q,F.f17 E x0 x1 H Q->E.call (E.fid i.f17) [x0,x1] H Q
  f33:∀ x0 x1 x2 x3 H Q,F.f33 E x0 x1 x2 x3 H Q->E.call (E.fid i.f33) [x0,x1,x2,x3] H Q
  f13:∀ x0 H Q,F.f13 E x0 H Q->E.call (E.fid i.f13) [x0] H Q
  f8:∀ x0 H Q,F.f8 E x0 H Q->E.call (E.fid i.f8) [x0] H Q
  f25:∀ x0 x1 H Q,F.f25 E x0 x1 H Q->E.call (E.fid i.f25) [x0,x1] H Q
  f27:∀ x0 x1 H Q,F.f27 E x0 x1 H Q->E.call (E.fid i.f27) [x0,x1] H Q
  f26:∀ x0 x1 H Q,F.f26 E x0 x1 H Q->E.call (E.fid i.f26) [x0,x1] H Q
  f3:∀ x0 x1 x2 H Q,F.f3 E x0 x1 x2 H Q->E.call (E.fid i.f3) [x0,x1,x2] H Q
  f1:∀ x0 H Q,F.f1 E x0 H Q->E.call (E.fid i.f1) [x0] H Q
  f2:∀ x0 H Q,F.f2 E x0 H Q->E.call (E.fid i.f2) [x0] H Q
  f52:∀ x0 x1 H Q,F.f52 E x0 x1 H Q->E.call (E.fid i.f52) [x0,x1] H Q
  f54:∀ x0 x1 H Q,F.f54 E x0 x1 H Q->E.call (E.fid i.f54) [x0,x1] H Q
  f51:∀ x0 x1 H Q,F.f51 E x0 x1 H Q->E.call (E.fid i.f51) [x0,x1] H Q
  f6:∀ x0 x1 H Q,F.f6 E x0 x1 H Q->E.call (E.fid i.f6) [x0,x1] H Q
  f41:∀ x0 x1 H Q,F.f41 E x0 x1 H Q->E.call (E.fid i.f41) [x0,x1] H Q
  f36:∀ x0 x1 x2 H Q,F.f36 E x0 x1 x2 H Q->E.call (E.fid i.f36) [x0,x1,x2] H Q
  f35:∀ x0 x1 x2 x3 x4 H Q,F.f35 E x0 x1 x2 x3 x4 H Q->E.call (E.fid i.f35) [x0,x1,x2,x3,x4] H Q
  f12:∀ x0 H Q,F.f12 E x0 H Q->E.call (E.fid i.f12) [x0] H Q
  f14:∀ x0 H Q,F.f14 E x0 H Q->E.call (E.fid i.f14) [x0] H Q
  f10:∀ x0 H Q,F.f10 E x0 H Q->E.call (E.fid i.f10) [x0] H Q
  f4:∀ x0 H Q,F.f4 E x0 H Q->E.call (E.fid i.f4) [x0] H Q
  f5:∀ x0 x1 H Q,F.f5 E x0 x1 H Q->E.call (E.fid i.f5) [x0,x1] H Q
  f43:∀ x0 x1 H Q,F.f43 E x0 x1 H Q->E.call (E.fid i.f43) [x0,x1] H Q
  f53:∀ x0 x1 H Q,F.f53 E x0 x1 H Q->E.call (E.fid i.f53) [x0,x1] H Q
  f7:∀ x0 H Q,F.f7 E x0 H Q->E.call (E.fid i.f7) [x0] H Q
  f42:∀ x0 H Q,F.f42 E x0 H Q->E.call (E.fid i.f42) [x0] H Q
  f45:∀ x0 x1 H Q,F.f45 E x0 x1 H Q->E.call (E.fid i.f45) [x0,x1] H Q
  f44:∀ x0 x1 x2 H Q,F.f44 E x0 x1 x2 H Q->E.call (E.fid i.f44) [x0,x1,x2] H Q
  f47:∀ x0 x1 H Q,atomicAdd x0 x1 H Q->E.call (E.fid i.f47) [x0,x1] H Q
end Go.AM
