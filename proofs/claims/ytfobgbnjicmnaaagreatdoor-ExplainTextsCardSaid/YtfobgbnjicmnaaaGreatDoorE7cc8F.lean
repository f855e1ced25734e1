/- THE FUNCTIONS, AS THE ABSTRACT MACHINE SEES THEM: written by program (gen2.py). -/
import Derived.Test.YtfobgbnjicmnaaaGreatDoorE7cc8A2
set_option linter.all false
set_option linter.unusedVariables false
namespace Go.AM
abbrev LK:=List Value->AH->Prop
abbrev VK:=Value->AH->Prop
def i.f22:Nat:=8
def i.f19:Nat:=9
def i.f21:Nat:=13
def i.f18:Nat:=15
def i.f20:Nat:=16
def i.f26:Nat:=200
def i.f2:Nat:=205
def i.f25:Nat:=213
def i.f29:Nat:=241
def i.f27:Nat:=243
def i.f15:Nat:=287
def i.f0:Nat:=295
def i.f13:Nat:=337
def i.f14:Nat:=339
def i.f28:Nat:=344
def i.f12:Nat:=483
def i.f11:Nat:=484
def i.f8:Nat:=485
def i.f4:Nat:=486
def i.f6:Nat:=487
def i.f3:Nat:=488
def i.f7:Nat:=489
def i.f5:Nat:=490
def i.f17:Nat:=491
def i.f9:Nat:=492
def i.f10:Nat:=493
def i.f1:Nat:=494
def i.f23:Nat:=495
def i.f16:Nat:=496
def i.f24:Nat:=497
def F.f12_j1 (E:Sy) (Q:VK) (X0:LK) (t1 t2 t3 t9 t11 t12 t13 t15 t29 t30 t31:Value) (H:AH):Prop :=
 opt (binInt .rem t15 (.int .u32 65536)) fun v1=>opt (convInt .u64 v1) fun v2=>E.call (E.fid i.f15) [v2] H fun v3 H1=>opt (binStr .add (.string ⟨#[101,114,114,110,111,32]⟩) v3) fun v4=>mk (buildS 4 1 #[(.string ⟨#[]⟩)] [(0,(.string ⟨#[97,108,108,111,119]⟩)),(1,(.string ⟨#[108,111,103]⟩)),(2,v4),(3,(.string ⟨#[107,105,108,108]⟩))]) H1 fun v5 H2=>opt (buildV [(0,1),(1,1)] #[(.int .i64 0),(.int .u32 0)] [(0,t1),(1,t15)]) fun v6=>allocW [(.int .i64 0),(.int .u32 0)] H2 fun v7 H3=>opt (storeN 2 v7 v6 H3) fun H4=>opt (loadN 2 v7 H4) fun v8=>E.call (E.fid i.f8) [v8] H4 fun v9 H5=>opt (fold2 max2 [t1,(.int .i64 0)]) fun v10=>opt (convInt .u64 v10) fun v11=>E.call (E.fid i.f15) [v11] H5 fun v12 H6=>opt (binStr .add (.string ⟨#[102,105,108,116,101,114,32]⟩) v12) fun v13=>opt (binStr .add v13 (.string ⟨#[32]⟩)) fun v14=>E.call (E.fid i.f18) [t15] H6 fun v15 H7=>opt (ixSlc 1 v5 v15) fun v16=>opt (load1 v16 H7) fun v17=>opt (binStr .add v14 v17) fun v18=>opt (binStr .neq v9 v18) fun v19=>ifB v19 (
 Q (.bool false) H7) (
 opt (binInt .add t31 (.int .i64 1)) fun v20=>X0 [t1,t2,t3,t9,t11,t12,t13,t29,t30,v20] H7)
def F.f12_l1 (E:Sy) (Q:VK) (t1 t2 t3 t9 t11 t12 t13 t29 t30 t31:Value) (H:AH) (X0:LK):Prop :=
 opt (binInt .lss t31 t30) fun v1=>ifB v1 (
 opt (ixSlc 1 t29 t31) fun v2=>opt (load1 v2 H) fun v3=>opt (buildV [(0,1),(1,1)] #[(.int .i64 0),(.int .u32 0)] [(0,t31),(1,v3)]) fun v4=>mk (buildS 1 2 #[(.int .i64 0),(.int .u32 0)] [(0,v4)]) H fun v5 H1=>opt2 (app 2 16 t11 v5 H1) fun v6 H2=>E.call (E.fid i.f18) [v3] H2 fun v7 H3=>opt (binInt .gtr v7 (.int .i64 0)) fun v8=>gd v8 true (fun k=>k v7 H3) H3 fun v9 H4=>gd v8 true (fun k=>k t12 H4) H4 fun v10 H5=>gd v8 true (fun k=>E.call (E.fid i.f18) [v10] H5 fun v h=>k v h) H5 fun v11 H6=>gd v8 true (fun k=>opt (binInt .geq v9 v11) fun v=>k v H6) H6 fun v12 H7=>opt (pick v8 v12 (.bool false)) fun v13=>ifB v13 (
 F.f12_j1 E Q X0 t1 t2 t3 t9 v6 v3 t31 v3 t29 t30 t31 H7) (
 F.f12_j1 E Q X0 t1 t2 t3 t9 v6 t12 t13 v3 t29 t30 t31 H7)) (
 E.call (E.fid i.f4) [t11] H fun v14 H8=>opt (ext v14 0) fun v15=>opt (ext v14 1) fun v16=>allocW [(.int .i64 0),(.int .u32 0)] H8 fun v17 H9=>opt (storeN 2 v17 v15 H9) fun H10=>E.call (E.fid i.f6) [(.pointer none),(.pointer none),(.string ⟨#[47]⟩),(.int .u16 1)] H10 fun v18 H11=>opt (ext v18 0) fun v19=>opt (ext v18 1) fun v20=>opt (binInt .geq t13 (.int .i64 0)) fun v21=>opt (binBool .eql v16 v21) fun v22=>gd v22 true (fun k=>opt (addOff v17 0) fun v=>k v H11) H11 fun v23 H12=>gd v22 true (fun k=>opt (load1 v23 H12) fun v=>k v H12) H12 fun v24 H13=>gd v22 true (fun k=>k t13 H13) H13 fun v25 H14=>gd v22 true (fun k=>opt (binInt .eql v24 v25) fun v=>k v H14) H14 fun v26 H15=>opt (pick v22 v26 (.bool false)) fun v27=>gd v27 true (fun k=>opt (addOff v17 1) fun v=>k v H15) H15 fun v28 H16=>gd v27 true (fun k=>opt (load1 v28 H16) fun v=>k v H16) H16 fun v29 H17=>gd v27 true (fun k=>k t12 H17) H17 fun v30 H18=>gd v27 true (fun k=>opt (binInt .eql v29 v30) fun v=>k v H18) H18 fun v31 H19=>opt (pick v27 v31 (.bool false)) fun v32=>gd v32 true (fun k=>k (.pointer none) H19) H19 fun v33 H20=>gd v32 true (fun k=>opt (loadN 7 t9 H20) fun v=>k v H20) H20 fun v34 H21=>gd v32 true (fun k=>E.call (E.fid i.f3) [v33,v34] H21 fun v h=>k v h) H21 fun v35 H22=>gd v32 true (fun k=>opt (lenSlc v35) fun v=>k v H22) H22 fun v36 H23=>gd v32 true (fun k=>opt (binInt .eql v36 (.int .i64 0)) fun v=>k v H23) H23 fun v37 H24=>opt (pick v32 v37 (.bool false)) fun v38=>gd v38 true (fun k=>k (.pointer none) H24) H24 fun v39 H25=>gd v38 true (fun k=>E.call (E.fid i.f7) [v39,(.int .u16 1),(.int .u16 80)] H25 fun v h=>k v h) H25 fun v40 H26=>gd v38 true (fun k=>opt (lenSlc v40) fun v=>k v H26) H26 fun v41 H27=>gd v38 true (fun k=>opt (binInt .eql v41 (.int .i64 0)) fun v=>k v H27) H27 fun v42 H28=>opt (pick v38 v42 (.bool false)) fun v43=>gd v43 true (fun k=>k v20 H28) H28 fun v44 H29=>gd v43 true (fun k=>opt (binInt .eql v44 (.int .i64 201)) fun v=>k v H29) H29 fun v45 H30=>opt (pick v43 v45 (.bool false)) fun v46=>gd v46 true (fun k=>k t2 H30) H30 fun v47 H31=>gd v46 true (fun k=>k t3 H31) H31 fun v48 H32=>gd v46 true (fun k=>opt (buildV [(0,1),(1,1)] #[(.int .i64 0),(.int .u16 0)] [(0,v47),(1,v48)]) fun v=>k v H32) H32 fun v49 H33=>gd v46 true (fun k=>E.call (E.fid i.f5) [v49] H33 fun v h=>k v h) H33 fun v50 H34=>gd v46 true (fun k=>k t2 H34) H34 fun v51 H35=>gd v46 true (fun k=>opt (fold2 max2 [v51,(.int .i64 0)]) fun v=>k v H35) H35 fun v52 H36=>gd v46 true (fun k=>opt (convInt .u64 v52) fun v=>k v H36) H36 fun v53 H37=>gd v46 true (fun k=>E.call (E.fid i.f15) [v53] H37 fun v h=>k v h) H37 fun v54 H38=>gd v46 true (fun k=>opt (binStr .add (.string ⟨#[115,101,116,32]⟩) v54) fun v=>k v H38) H38 fun v55 H39=>gd v46 true (fun k=>opt (binStr .add v55 (.string ⟨#[32,100,101,110,105,101,115,32]⟩)) fun v=>k v H39) H39 fun v56 H40=>gd v46 true (fun k=>k t3 H40) H40 fun v57 H41=>gd v46 true (fun k=>opt (convInt .i64 v57) fun v=>k v H41) H41 fun v58 H42=>gd v46 true (fun k=>E.call (E.fid i.f17) [v58] H42 fun v h=>k v h) H42 fun v59 H43=>gd v46 true (fun k=>opt (binStr .add v56 v59) fun v=>k v H43) H43 fun v60 H44=>gd v46 true (fun k=>opt (binStr .eql v50 v60) fun v=>k v H44) H44 fun v61 H45=>opt (pick v46 v61 (.bool false)) fun v62=>Q v62 H45)
def F.f12 (E:Sy) (x0 x1 x2 x3 x4:Value) (H:AH) (Q:VK):Prop :=
 mk (boxO x4) H fun v1 H1=>E.call (E.fid i.f11) [] H1 fun v2 H2=>opt (un .not v2) fun v3=>ifB v3 (
 Q (.bool false) H2) (
 opt (lenSlc x0) fun v4=>opt (binInt .gtr v4 (.int .i64 30)) fun v5=>ifB v5 (
 Q (.bool true) H2) (
 opt (lenSlc x0) fun v6=>LoopL (fun l H X0=>F.f12_l1 E Q (nth l 0) (nth l 1) (nth l 2) (nth l 3) (nth l 4) (nth l 5) (nth l 6) (nth l 7) (nth l 8) (nth l 9) H X0) [x1,x2,x3,v1,(.slice none 0 0),(.int .u32 2147418112),(.int .i64 (-1)),x0,v6,(.int .i64 0)] H2))

def F.f18 (E:Sy) (x0:Value) (H:AH) (Q:VK):Prop :=
 opt (binInt .quo x0 (.int .u32 65536)) fun v1=>opt (binInt .eql v1 (.int .u32 5)) fun v2=>ifB v2 (
 Q (.int .i64 2) H) (
 opt (binInt .eql v1 (.int .u32 32764)) fun v3=>ifB v3 (
 Q (.int .i64 1) H) (
 opt (binInt .eql v1 (.int .u32 32767)) fun v4=>ifB v4 (
 Q (.int .i64 0) H) (
 Q (.int .i64 3) H)))

def F.f15_l1 (E:Sy) (Q:VK) (t0 t3:Value) (H:AH) (X0:LK):Prop :=
 opt (binInt .rem t0 (.int .u64 10)) fun v1=>opt (binInt .add (.int .u64 48) v1) fun v2=>opt (convInt .u8 v2) fun v3=>mk (buildS 1 1 #[(.int .u8 0)] [(0,v3)]) H fun v4 H1=>opt (strOf v4 H1) fun v5=>opt (binStr .add v5 t3) fun v6=>opt (binInt .quo t0 (.int .u64 10)) fun v7=>opt (binInt .eql v7 (.int .u64 0)) fun v8=>ifB v8 (
 Q v6 H1) (
 X0 [v7,v6] H1)
def F.f15 (E:Sy) (x0:Value) (H:AH) (Q:VK):Prop :=
 LoopL (fun l H X0=>F.f15_l1 E Q (nth l 0) (nth l 1) H X0) [x0,(.string ⟨#[]⟩)] H

def F.f8 (E:Sy) (x0:Value) (H:AH) (Q:VK):Prop :=
 mk (boxO x0) H fun v1 H1=>opt (addOff v1 0) fun v2=>opt (load1 v2 H1) fun v3=>opt (fold2 max2 [v3,(.int .i64 0)]) fun v4=>opt (convInt .u64 v4) fun v5=>E.call (E.fid i.f0) [v5] H1 fun v6 H2=>opt (binStr .add (.string ⟨#[102,105,108,116,101,114,32]⟩) v6) fun v7=>opt (binStr .add v7 (.string ⟨#[32]⟩)) fun v8=>opt (addOff v1 1) fun v9=>opt (load1 v9 H2) fun v10=>E.call (E.fid i.f19) [v10] H2 fun v11 H3=>opt (binInt .eql v11 (.int .u32 327680)) fun v12=>ifB v12 (
 opt (binStr .add v8 (.string ⟨#[101,114,114,110,111,32]⟩)) fun v13=>opt (addOff v1 1) fun v14=>opt (load1 v14 H3) fun v15=>E.call (E.fid i.f20) [v15] H3 fun v16 H4=>opt (convInt .u64 v16) fun v17=>E.call (E.fid i.f0) [v17] H4 fun v18 H5=>opt (binStr .add v13 v18) fun v19=>Q v19 H5) (
 opt (binInt .eql v11 (.int .u32 2147221504)) fun v20=>ifB v20 (
 opt (binStr .add v8 (.string ⟨#[108,111,103]⟩)) fun v21=>Q v21 H3) (
 opt (binInt .eql v11 (.int .u32 2147418112)) fun v22=>ifB v22 (
 opt (binStr .add v8 (.string ⟨#[97,108,108,111,119]⟩)) fun v23=>Q v23 H3) (
 opt (binStr .add v8 (.string ⟨#[107,105,108,108]⟩)) fun v24=>Q v24 H3)))

def F.f4_l1 (E:Sy) (Q:VK) (t0 t2 t4 t5:Value) (H:AH) (X0:LK):Prop :=
 opt (binInt .geq t5 (.int .i64 0)) fun v1=>ifB v1 (
 opt (addOff t4 1) fun v2=>opt (load1 v2 H) fun v3=>opt (ixSlc 2 t0 t5) fun v4=>opt (addOff v4 1) fun v5=>opt (load1 v5 H) fun v6=>E.call (E.fid i.f22) [v3,v6] H fun v7 H1=>opt (addOff t4 1) fun v8=>opt (load1 v8 H1) fun v9=>opt (binInt .neq v7 v9) fun v10=>ifB v10 (
 opt (ixSlc 2 t0 t5) fun v11=>opt (loadN 2 v11 H1) fun v12=>opt (storeN 2 t4 v12 H1) fun H2=>opt (binInt .sub t5 (.int .i64 1)) fun v13=>X0 [t0,t2,t4,v13] H2) (
 opt (binInt .sub t5 (.int .i64 1)) fun v14=>X0 [t0,t2,t4,v14] H1)) (
 opt (loadN 2 t4 H) fun v15=>opt (addOff t4 0) fun v16=>opt (load1 v16 H) fun v17=>opt (binInt .geq v17 (.int .i64 0)) fun v18=>opt (storeN 2 t2 v15 H) fun H3=>load1 v16 H3=load1 v16 H /\
 opt (loadN 2 t2 H3) fun v19=>Q (.tuple #[v19,v18]) H3)
def F.f4 (E:Sy) (x0:Value) (H:AH) (Q:VK):Prop :=
 allocW [(.int .i64 0),(.int .u32 0)] H fun v1 H1=>opt (buildV [(0,1),(1,1)] #[(.int .i64 0),(.int .u32 0)] [(0,(.int .i64 (-1))),(1,(.int .u32 2147418112))]) fun v2=>allocW [(.int .i64 0),(.int .u32 0)] H1 fun v3 H2=>opt (storeN 2 v3 v2 H2) fun H3=>opt (lenSlc x0) fun v4=>opt (binInt .sub v4 (.int .i64 1)) fun v5=>LoopL (fun l H X0=>F.f4_l1 E Q (nth l 0) (nth l 1) (nth l 2) (nth l 3) H X0) [x0,v1,v3,v5] H3

def F.f6_l1 (E:Sy) (Q:VK) (t3 t10 t13 t14 t43 t44 t45:Value) (H:AH) (X0:LK):Prop :=
 opt (binInt .lss t45 t44) fun v1=>ifB v1 (
 opt (ixSlc 1 t43 t45) fun v2=>opt (load1 v2 H) fun v3=>E.call (E.fid i.f25) [v3,t3,t10,t13] H fun v4 H1=>opt (binInt .neq v4 (.int .u16 0)) fun v5=>ifB v5 (
 opt (buildV [(0,1),(1,1)] #[(.int .i64 0),(.int .u16 0)] [(0,t45),(1,v4)]) fun v6=>mk (buildS 1 2 #[(.int .i64 0),(.int .u16 0)] [(0,v6)]) H1 fun v7 H2=>opt2 (app 2 16 t14 v7 H2) fun v8 H3=>opt (binInt .add t45 (.int .i64 1)) fun v9=>X0 [t3,t10,t13,v8,t43,t44,v9] H3) (
 opt (binInt .add t45 (.int .i64 1)) fun v10=>X0 [t3,t10,t13,t14,t43,t44,v10] H1)) (
 Q (.tuple #[t14,(.int .i64 0)]) H)
def F.f6 (E:Sy) (x0 x1 x2 x3:Value) (H:AH) (Q:VK):Prop :=
 opt (binNil eqPtr .eql x0 (.pointer none)) fun v1=>gd v1 false (fun k=>k x1 H) H fun v2 H1=>gd v1 false (fun k=>opt (binNil eqPtr .eql v2 (.pointer none)) fun v=>k v H1) H1 fun v3 H2=>opt (pick v1 (.bool true) v3) fun v4=>ifB v4 (
 Q (.tuple #[(.slice none 0 0),(.int .i64 201)]) H2) (
 E.call (E.fid i.f9) [x0,x1,x2] H2 fun v5 H3=>opt (ext v5 0) fun v6=>opt (ext v5 1) fun v7=>opt (ext v5 2) fun v8=>allocW [(.int .i64 0),(.int .u16 0)] H3 fun v9 H4=>opt (storeN 2 v9 v7 H4) fun H5=>opt (binInt .neq v8 (.int .i64 0)) fun v10=>ifB v10 (
 Q (.tuple #[(.slice none 0 0),v8]) H5) (
 opt (loadN 2 v9 H5) fun v11=>E.call (E.fid i.f10) [x0] H5 fun v12 H6=>loadN 2 v9 H6=loadN 2 v9 H5 /\
 E.call (E.fid i.f29) [v12,v11] H6 fun v13 H7=>opt (nilCk x1) fun v14=>opt (addOff v14 7) fun v15=>opt (load1 v15 H7) fun v16=>E.call (E.fid i.f2) [v16] H7 fun v17 H8=>opt (lenSlc v17) fun v18=>LoopL (fun l H X0=>F.f6_l1 E Q (nth l 0) (nth l 1) (nth l 2) (nth l 3) (nth l 4) (nth l 5) (nth l 6) H X0) [x3,v6,v13,(.slice none 0 0),v17,v18,(.int .i64 0)] H8))

def F.f3_l1 (E:Sy) (Q:VK) (t3 t5 t15 t16 t17:Value) (H:AH) (X0:LK):Prop :=
 opt (binInt .lss t17 t16) fun v1=>ifB v1 (
 opt (ixSlc 1 t15 t17) fun v2=>opt (load1 v2 H) fun v3=>opt (loadN 7 t3 H) fun v4=>E.call (E.fid i.f1) [v4] H fun v5 H1=>E.call (E.fid i.f28) [v3,v5] H1 fun v6 H2=>opt (ext v6 0) fun v7=>opt (ext v6 1) fun v8=>opt (buildV [(0,1),(1,1)] #[(.int .i64 0),(.int .u32 0)] [(0,t17),(1,v7)]) fun v9=>mk (buildS 1 2 #[(.int .i64 0),(.int .u32 0)] [(0,v9)]) H2 fun v10 H3=>opt2 (app 2 16 t5 v10 H3) fun v11 H4=>opt (binInt .add t17 (.int .i64 1)) fun v12=>X0 [t3,v11,t15,t16,v12] H4) (
 Q t5 H)
def F.f3 (E:Sy) (x0 x1:Value) (H:AH) (Q:VK):Prop :=
 mk (boxO x1) H fun v1 H1=>opt (binNil eqPtr .eql x0 (.pointer none)) fun v2=>ifB v2 (
 Q (.slice none 0 0) H1) (
 opt (nilCk x0) fun v3=>opt (addOff v3 6) fun v4=>opt (load1 v4 H1) fun v5=>opt (lenSlc v5) fun v6=>LoopL (fun l H X0=>F.f3_l1 E Q (nth l 0) (nth l 1) (nth l 2) (nth l 3) (nth l 4) H X0) [v1,(.slice none 0 0),v5,v6,(.int .i64 0)] H1)

def F.f7_l1 (E:Sy) (Q:VK) (t1 t2 t7 t16 t17 t18:Value) (H:AH) (X0:LK):Prop :=
 opt (binInt .lss t18 t17) fun v1=>ifB v1 (
 opt (ixSlc 1 t16 t18) fun v2=>opt (load1 v2 H) fun v3=>E.call (E.fid i.f26) [v3,t1,t2] H fun v4 H1=>opt (un .not v4) fun v5=>ifB v5 (
 mk (buildS 1 1 #[(.int .i64 0)] [(0,t18)]) H1 fun v6 H2=>opt2 (app 1 8 t7 v6 H2) fun v7 H3=>opt (binInt .add t18 (.int .i64 1)) fun v8=>X0 [t1,t2,v7,t16,t17,v8] H3) (
 opt (binInt .add t18 (.int .i64 1)) fun v9=>X0 [t1,t2,t7,t16,t17,v9] H1)) (
 Q t7 H)
def F.f7 (E:Sy) (x0 x1 x2:Value) (H:AH) (Q:VK):Prop :=
 opt (binNil eqPtr .eql x0 (.pointer none)) fun v1=>ifB v1 (
 Q (.slice none 0 0) H) (
 opt (nilCk x0) fun v2=>opt (addOff v2 7) fun v3=>opt (load1 v3 H) fun v4=>E.call (E.fid i.f2) [v4] H fun v5 H1=>opt (lenSlc v5) fun v6=>LoopL (fun l H X0=>F.f7_l1 E Q (nth l 0) (nth l 1) (nth l 2) (nth l 3) (nth l 4) (nth l 5) H X0) [x1,x2,(.slice none 0 0),v5,v6,(.int .i64 0)] H1)

def F.f5 (E:Sy) (x0:Value) (H:AH) (Q:VK):Prop :=
 mk (boxO x0) H fun v1 H1=>opt (addOff v1 0) fun v2=>opt (load1 v2 H1) fun v3=>opt (fold2 max2 [v3,(.int .i64 0)]) fun v4=>opt (convInt .u64 v4) fun v5=>opt (addOff v1 1) fun v6=>opt (load1 v6 H1) fun v7=>E.call (E.fid i.f0) [v5] H1 fun v8 H2=>load1 v6 H2=load1 v6 H1 /\
 opt (binStr .add (.string ⟨#[115,101,116,32]⟩) v8) fun v9=>opt (binStr .add v9 (.string ⟨#[32,100,101,110,105,101,115,32]⟩)) fun v10=>E.call (E.fid i.f23) [v7] H2 fun v11 H3=>opt (binStr .add v10 v11) fun v12=>Q v12 H3

def F.f17_j1 (E:Sy) (Q:VK) (X0:LK) (t0 t3 t4 t5:Value) (H:AH):Prop :=
 opt (ixSlc 2 t3 t5) fun v1=>opt (addOff v1 1) fun v2=>opt (load1 v2 H) fun v3=>opt (binStr .add t4 v3) fun v4=>opt (binInt .add t5 (.int .i64 1)) fun v5=>X0 [t0,t3,v4,v5] H
def F.f17_l1 (E:Sy) (Q:VK) (t0 t3 t4 t5:Value) (H:AH) (X0:LK):Prop :=
 opt (lenSlc t3) fun v1=>opt (binInt .lss t5 v1) fun v2=>ifB v2 (
 opt (ixSlc 2 t3 t5) fun v3=>opt (addOff v3 0) fun v4=>opt (load1 v4 H) fun v5=>E.call (E.fid i.f13) [t0,v5] H fun v6 H1=>ifB v6 (
 opt (binStr .neq t4 (.string ⟨#[]⟩)) fun v7=>ifB v7 (
 opt (binStr .add t4 (.string ⟨#[44]⟩)) fun v8=>F.f17_j1 E Q X0 t0 t3 v8 t5 H1) (
 F.f17_j1 E Q X0 t0 t3 t4 t5 H1)) (
 opt (binInt .add t5 (.int .i64 1)) fun v9=>X0 [t0,t3,t4,v9] H1)) (
 opt (binStr .eql t4 (.string ⟨#[]⟩)) fun v10=>ifB v10 (
 Q (.string ⟨#[45]⟩) H) (
 Q t4 H))
def F.f17 (E:Sy) (x0:Value) (H:AH) (Q:VK):Prop :=
 E.call (E.fid i.f16) [] H fun v1 H1=>LoopL (fun l H X0=>F.f17_l1 E Q (nth l 0) (nth l 1) (nth l 2) (nth l 3) H X0) [x0,v1,(.string ⟨#[]⟩),(.int .i64 0)] H1

def F.f0 (E:Sy) (x0:Value) (H:AH) (Q:VK):Prop :=
 opt (binInt .gtr x0 (.int .u64 9)) fun v1=>ifB v1 (
 opt (binInt .quo x0 (.int .u64 10)) fun v2=>E.call (E.fid i.f0) [v2] H fun v3 H1=>opt (binInt .rem x0 (.int .u64 10)) fun v4=>E.call (E.fid i.f0) [v4] H1 fun v5 H2=>opt (binStr .add v3 v5) fun v6=>Q v6 H2) (
 opt (binInt .add (.int .u64 48) x0) fun v7=>opt (convInt .u8 v7) fun v8=>mk (buildS 1 1 #[(.int .u8 0)] [(0,v8)]) H fun v9 H3=>opt (strOf v9 H3) fun v10=>Q v10 H3)

def F.f19_j1 (E:Sy) (Q:VK) (t3 t7:Value) (H:AH):Prop :=
 ifB t7 (
 Q t3 H) (
 Q (.int .u32 2147483648) H)
def F.f19 (E:Sy) (x0:Value) (H:AH) (Q:VK):Prop :=
 opt (binInt .andNot x0 (.int .u32 65535)) fun v1=>opt (binInt .eql v1 (.int .u32 327680)) fun v2=>ifB v2 (
 F.f19_j1 E Q v1 v2 H) (
 opt (binInt .eql v1 (.int .u32 2147221504)) fun v3=>ifB v3 (
 F.f19_j1 E Q v1 v3 H) (
 opt (binInt .eql v1 (.int .u32 2147418112)) fun v4=>F.f19_j1 E Q v1 v4 H))

def F.f20 (E:Sy) (x0:Value) (H:AH) (Q:VK):Prop :=
 E.call (E.fid i.f19) [x0] H fun v1 H1=>opt (binInt .neq v1 (.int .u32 327680)) fun v2=>ifB v2 (
 Q (.int .i64 0) H1) (
 opt (binInt .and x0 (.int .u32 65535)) fun v3=>opt (convInt .i64 v3) fun v4=>Q v4 H1)

def F.f22 (E:Sy) (x0 x1:Value) (H:AH) (Q:VK):Prop :=
 E.call (E.fid i.f21) [x1] H fun v1 H1=>E.call (E.fid i.f21) [x0] H1 fun v2 H2=>opt (binInt .gtr v1 v2) fun v3=>ifB v3 (
 Q x1 H2) (
 Q x0 H2)

def F.f23_l1 (E:Sy) (Q:VK) (t0 t3 t6 t7:Value) (H:AH) (X0:LK):Prop :=
 opt (binInt .lss t7 (.int .i64 16)) fun v1=>ifB v1 (
 opt (ixAgg1 16 1 t6 t7) fun v2=>opt (binInt .shr t0 t7) fun v3=>opt (binInt .and v3 (.int .u16 1)) fun v4=>opt (binInt .eql v4 (.int .u16 1)) fun v5=>gd v5 true (fun k=>k v2 H) H fun v6 H1=>gd v5 true (fun k=>opt (binStr .neq v6 (.string ⟨#[]⟩)) fun v=>k v H1) H1 fun v7 H2=>opt (pick v5 v7 (.bool false)) fun v8=>ifB v8 (
 mk (buildS 1 1 #[(.string ⟨#[]⟩)] [(0,v2)]) H2 fun v9 H3=>opt2 (app 1 16 t3 v9 H3) fun v10 H4=>opt (binInt .add t7 (.int .i64 1)) fun v11=>X0 [t0,v10,t6,v11] H4) (
 opt (binInt .add t7 (.int .i64 1)) fun v12=>X0 [t0,t3,t6,v12] H2)) (
 opt (lenSlc t3) fun v13=>opt (binInt .eql v13 (.int .i64 0)) fun v14=>ifB v14 (
 Q (.string ⟨#[45]⟩) H) (
 E.call (E.fid i.f27) [t3,(.string ⟨#[44]⟩)] H fun v15 H5=>Q v15 H5))
def F.f23 (E:Sy) (x0:Value) (H:AH) (Q:VK):Prop :=
 E.call (E.fid i.f24) [] H fun v1 H1=>LoopL (fun l H X0=>F.f23_l1 E Q (nth l 0) (nth l 1) (nth l 2) (nth l 3) H X0) [x0,(.slice none 0 0),v1,(.int .i64 0)] H1

def F.f16 (E:Sy) (H:AH) (Q:VK):Prop :=
 opt (buildV [(0,1),(1,1)] #[(.int .i64 0),(.string ⟨#[]⟩)] [(0,(.int .i64 0)),(1,(.string ⟨#[101,120,101,99]⟩))]) fun v1=>opt (buildV [(0,1),(1,1)] #[(.int .i64 0),(.string ⟨#[]⟩)] [(0,(.int .i64 1)),(1,(.string ⟨#[119,114,105,116,101]⟩))]) fun v2=>opt (buildV [(0,1),(1,1)] #[(.int .i64 0),(.string ⟨#[]⟩)] [(0,(.int .i64 2)),(1,(.string ⟨#[114,101,97,100]⟩))]) fun v3=>opt (buildV [(0,1),(1,1)] #[(.int .i64 0),(.string ⟨#[]⟩)] [(0,(.int .i64 3)),(1,(.string ⟨#[108,105,115,116]⟩))]) fun v4=>opt (buildV [(0,1),(1,1)] #[(.int .i64 0),(.string ⟨#[]⟩)] [(0,(.int .i64 4)),(1,(.string ⟨#[114,109,100,105,114]⟩))]) fun v5=>opt (buildV [(0,1),(1,1)] #[(.int .i64 0),(.string ⟨#[]⟩)] [(0,(.int .i64 5)),(1,(.string ⟨#[114,109,102,105,108,101]⟩))]) fun v6=>opt (buildV [(0,1),(1,1)] #[(.int .i64 0),(.string ⟨#[]⟩)] [(0,(.int .i64 6)),(1,(.string ⟨#[109,107,100,105,114]⟩))]) fun v7=>opt (buildV [(0,1),(1,1)] #[(.int .i64 0),(.string ⟨#[]⟩)] [(0,(.int .i64 7)),(1,(.string ⟨#[109,107,102,105,108,101]⟩))]) fun v8=>opt (buildV [(0,1),(1,1)] #[(.int .i64 0),(.string ⟨#[]⟩)] [(0,(.int .i64 8)),(1,(.string ⟨#[109,107,108,105,110,107]⟩))]) fun v9=>opt (buildV [(0,1),(1,1)] #[(.int .i64 0),(.string ⟨#[]⟩)] [(0,(.int .i64 9)),(1,(.string ⟨#[114,101,102,101,114]⟩))]) fun v10=>opt (buildV [(0,1),(1,1)] #[(.int .i64 0),(.string ⟨#[]⟩)] [(0,(.int .i64 10)),(1,(.string ⟨#[116,114,117,110,99,97,116,101]⟩))]) fun v11=>opt (buildV [(0,1),(1,1)] #[(.int .i64 0),(.string ⟨#[]⟩)] [(0,(.int .i64 14)),(1,(.string ⟨#[98,105,110,100]⟩))]) fun v12=>opt (buildV [(0,1),(1,1)] #[(.int .i64 0),(.string ⟨#[]⟩)] [(0,(.int .i64 15)),(1,(.string ⟨#[99,111,110,110,101,99,116]⟩))]) fun v13=>mk (buildS 13 2 #[(.int .i64 0),(.string ⟨#[]⟩)] [(0,v1),(1,v2),(2,v3),(3,v4),(4,v5),(5,v6),(6,v7),(7,v8),(8,v9),(9,v10),(10,v11),(11,v12),(12,v13)]) H fun v14 H1=>Q v14 H1

def F.f13 (E:Sy) (x0 x1:Value) (H:AH) (Q:VK):Prop :=
 E.call (E.fid i.f14) [x1] H fun v1 H1=>opt (binInt .quo x0 v1) fun v2=>opt (binInt .rem v2 (.int .i64 2)) fun v3=>opt (binInt .eql v3 (.int .i64 1)) fun v4=>Q v4 H1

def F.f21 (E:Sy) (x0:Value) (H:AH) (Q:VK):Prop :=
 E.call (E.fid i.f19) [x0] H fun v1 H1=>opt (binInt .eql v1 (.int .u32 2147483648)) fun v2=>ifB v2 (
 Q (.int .i64 3) H1) (
 opt (binInt .eql v1 (.int .u32 327680)) fun v3=>ifB v3 (
 Q (.int .i64 2) H1) (
 opt (binInt .eql v1 (.int .u32 2147221504)) fun v4=>ifB v4 (
 Q (.int .i64 1) H1) (
 Q (.int .i64 0) H1)))

def F.f24 (E:Sy) (H:AH) (Q:VK):Prop :=
 allocW (zs 16 (.string ⟨#[]⟩)) H fun v1 H1=>opt (buildA 1 (zs 16 (.string ⟨#[]⟩)).toArray [(0,(.string ⟨#[101,120,101,99]⟩)),(1,(.string ⟨#[119,114,105,116,101]⟩)),(2,(.string ⟨#[114,101,97,100]⟩)),(3,(.string ⟨#[108,105,115,116]⟩)),(4,(.string ⟨#[114,109,100,105,114]⟩)),(5,(.string ⟨#[114,109,102,105,108,101]⟩)),(6,(.string ⟨#[109,107,100,105,114]⟩)),(7,(.string ⟨#[109,107,102,105,108,101]⟩)),(8,(.string ⟨#[109,107,108,105,110,107]⟩)),(9,(.string ⟨#[114,101,102,101,114]⟩)),(10,(.string ⟨#[116,114,117,110,99,97,116,101]⟩)),(11,(.string ⟨#[]⟩)),(12,(.string ⟨#[]⟩)),(13,(.string ⟨#[]⟩)),(14,(.string ⟨#[98,105,110,100]⟩)),(15,(.string ⟨#[99,111,110,110,101,99,116]⟩))]) fun v2=>opt (storeN 16 v1 v2 H1) fun H2=>opt (loadN 16 v1 H2) fun v3=>Q v3 H2

def F.f14_l1 (E:Sy) (Q:VK) (t0 t3 t4:Value) (H:AH) (X0:LK):Prop :=
 opt (binInt .lss t4 t0) fun v1=>ifB v1 (
 opt (binInt .mul t3 (.int .i64 2)) fun v2=>opt (binInt .add t4 (.int .i64 1)) fun v3=>X0 [t0,v2,v3] H) (
 Q t3 H)
def F.f14 (E:Sy) (x0:Value) (H:AH) (Q:VK):Prop :=
 LoopL (fun l H X0=>F.f14_l1 E Q (nth l 0) (nth l 1) (nth l 2) H X0) [x0,(.int .i64 1),(.int .i64 0)] H
structure Fold (E:Sy):Prop where
  mono:MonoC E.call
  f12:∀ x0 x1 x2 x3 x4 H Q,F.f12 E x0 x1 x2 x3 x4 H Q->E.call (E.fid i.f12) [x0,x1,x2,x3,x4] H Q
  f18:∀ x0 H Q,F.f18 E x0 H Q->E.call (E.fid i.f18) [x0] H Q
  f15:∀ x0 H Q,F.f15 E x0 H Q->E.call (E.fid i.f15) [x0] H Q
  f8:∀ x0 H Q,F.f8 E x0 H Q->E.call (E.fid i.f8) [x0] H Q
  f4:∀ x0 H Q,F.f4 E x0 H Q->E.call (E.fid i.f4) [x0] H Q
  f6:∀ x0 x1 x2 x3 H Q,F.f6 E x0 x1 x2 x3 H Q->E.call (E.fid i.f6) [x0,x1,x2,x3] H Q
  f3:∀ x0 x1 H Q,F.f3 E x0 x1 H Q->E.call (E.fid i.f3) [x0,x1] H Q
  f7:∀ x0 x1 x2 H Q,F.f7 E x0 x1 x2 H Q->E.call (E.fid i.f7) [x0,x1,x2] H Q
  f5:∀ x0 H Q,F.f5 E x0 H Q->E.call (E.fid i.f5) [x0] H Q
  f17:∀ x0 H Q,F.f17 E x0 H Q->E.call (E.fid i.f17) [x0] H Q
  f0:∀ x0 H Q,F.f0 E x0 H Q->E.call (E.fid i.f0) [x0] H Q
  f19:∀ x0 H Q,F.f19 E x0 H Q->E.call (E.fid i.f19) [x0] H Q
  f20:∀ x0 H Q,F.f20 E x0 H Q->E.call (E.fid i.f20) [x0] H Q
  f22:∀ x0 x1 H Q,F.f22 E x0 x1 H Q->E.call (E.fid i.f22) [x0,x1] H Q
  f23:∀ x0 H Q,F.f23 E x0 H Q->E.call (E.fid i.f23) [x0] H Q
  f16:∀ H Q,F.f16 E H Q->E.call (E.fid i.f16) [] H Q
  f13:∀ x0 x1 H Q,F.f13 E x0 x1 H Q->E.call (E.fid i.f13) [x0,x1] H Q
  f21:∀ x0 H Q,F.f21 E x0 H Q->E.call (E.fid i.f21) [x0] H Q
  f24:∀ H Q,F.f24 E H Q->E.call (E.fid i.f24) [] H Q
  f14:∀ x0 H Q,F.f14 E x0 H Q->E.call (E.fid i.f14) [x0] H Q
  f11:∀ H Q,Q (.bool true) H->E.call (E.fid i.f11) [] H Q
  f27:∀ x0 x1 H Q,strJoin x0 x1 H Q->E.call (E.fid i.f27) [x0,x1] H Q
end Go.AM
