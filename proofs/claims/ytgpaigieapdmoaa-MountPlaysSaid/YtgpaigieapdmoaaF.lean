/- THE FUNCTIONS, AS THE ABSTRACT MACHINE SEES THEM: written by program (gen2.py). -/
import Derived.Test.YtgpaigieapdmoaaAmC
set_option linter.all false
set_option linter.unusedVariables false
namespace Go.AM
def i.pinfoldlaw17_MountBack : Nat := 66
def i.pinfoldlaw17_Awake : Nat := 67
def i.mount_New : Nat := 68
def i.mount_Table_Seen : Nat := 69
def i.mount_Table_Down : Nat := 70
def i.mount_Table_Bind : Nat := 71
def i.mount_Table_List : Nat := 72
def i.pinfoldlaw17_MountHeld : Nat := 73
def i.mount_Table_Hold : Nat := 74
def i.mount_Table_Drop : Nat := 75
def i.mount_Top : Nat := 76
def i.pinfoldlaw17_MountPlays : Nat := 77
def i.pinfoldref16_New : Nat := 78
def i.pinfoldlaw17_Ref : Nat := 79
def i.pinfoldref16_Tree_Down : Nat := 80
def i.pinfoldref16_Tree_Seen : Nat := 81
def i.mount_Table_Used : Nat := 82
def i.pinfoldref16_Tree_Used : Nat := 83
def i.mount_Table_Get : Nat := 84
def i.pinfoldref16_Tree_Bind : Nat := 85
def i.pinfoldref16_Tree_Unmount : Nat := 86
def i.pinfoldref16_Tree_HoldMount : Nat := 87
def i.mount_Table_Seen_1 : Nat := 88
def i.slices_IndexFunc_mount_Mount : Nat := 89
def i.mount_Table_find : Nat := 90
def i.slices_Clone_mount_Mount : Nat := 91
def i.mount_Table_Drop_1 : Nat := 92
def i.slices_ContainsFunc_mount_Mount : Nat := 93
def i.slices_Delete_mount_Mount : Nat := 94
def i.pinfoldref16_Tree_find : Nat := 95
def i.mount_Table_Used_1 : Nat := 96
def i.mount_Table_find_1 : Nat := 97
def F.pinfoldlaw17_MountBack_l1 (E : Sy) (Q : Value → AH → Prop) (t5 t6 t13 t77 t78 : Value) (H : AH) (X0 : List Value → AH → Prop) : Prop :=
 opt (binInt .lss t78 t77) fun v1 =>
 ifB v1 (
 opt (loadN 2 t13 H) fun v2 =>
 E.call (E.fid i.mount_Table_Down) [t5, v2] H fun v3 H1 =>
 opt (ext v3 0) fun v4 =>
 opt (ext v3 1) fun v5 =>
 allocW [(.int .i64 0), (.int .u16 0)] H1 fun v6 H2 =>
 opt (storeN 2 v6 v4 H2) fun H3 =>
 opt (un .not v5) fun v7 =>
 ifB v7 (
 Q (.bool false) H3) (
 opt (loadN 2 v6 H3) fun v8 =>
 opt (storeN 2 t13 v8 H3) fun H4 =>
 opt (binInt .add t78 (.int .i64 1)) fun v9 =>
 X0 [t5, t6, t13, t77, v9] H4)) (
 opt (loadN 2 t13 H) fun v10 =>
 opt (loadN 2 t6 H) fun v11 =>
 opt (binAgg [0, 0] .eql v10 v11) fun v12 =>
 Q v12 H)
def F.pinfoldlaw17_MountBack_j1 (E : Sy) (Q : Value → AH → Prop) (t5 t6 t7 : Value) (H : AH) : Prop :=
 opt (loadN 2 t6 H) fun v1 =>
 E.call (E.fid i.mount_Table_Seen) [t5, v1] H fun v2 H1 =>
 allocW [(.int .i64 0), (.int .u16 0)] H1 fun v3 H2 =>
 opt (storeN 2 v3 v2 H2) fun H3 =>
 LoopL (fun l H X0 => F.pinfoldlaw17_MountBack_l1 E Q (nth l 0) (nth l 1) (nth l 2) (nth l 3) (nth l 4) H X0) [t5, t6, v3, t7, (.int .i64 0)] H3
def F.pinfoldlaw17_MountBack_l2 (E : Sy) (Q : Value → AH → Prop) (t5 t6 t7 t23 t24 t25 : Value) (H : AH) (X0 : List Value → AH → Prop) : Prop :=
 opt (binInt .lss t25 t24) fun v1 =>
 ifB v1 (
 opt (ixSlc 1 t23 t25) fun v2 =>
 opt (load1 v2 H) fun v3 =>
 opt (binInt .geq t25 (.int .i64 20)) fun v4 =>
 ifB v4 (
 F.pinfoldlaw17_MountBack_j1 E Q t5 t6 t7 H) (
 opt (loadN 2 t6 H) fun v5 =>
 E.call (E.fid i.mount_Table_Seen) [t5, v5] H fun v6 H1 =>
 allocW [(.int .i64 0), (.int .u16 0)] H1 fun v7 H2 =>
 opt (storeN 2 v7 v6 H2) fun H3 =>
 opt (convInt .u16 v3) fun v8 =>
 opt (binInt .add v8 (.int .u16 300)) fun v9 =>
 opt (loadN 2 v7 H3) fun v10 =>
 E.call (E.fid i.mount_Table_Bind) [t5, v9, v10] H3 fun v11 H4 =>
 opt (ext v11 0) fun v12 =>
 opt (ext v11 1) fun v13 =>
 E.call (E.fid i.mount_Table_List) [t5] H4 fun v14 H5 =>
 opt (lenSlc v14) fun v15 =>
 opt (binInt .gtr v15 (.int .i64 16)) fun v16 =>
 gd v16 false (fun k => k v13 H5) H5 fun v17 H6 =>
 gd v16 false (fun k => opt (binInt .eql v17 (.int .i64 28)) fun v => k v H6) H6 fun v18 H7 =>
 gd v16 false (fun k => k t7 H7) H7 fun v19 H8 =>
 gd v16 false (fun k => opt (binInt .geq v19 (.int .i64 15)) fun v => k v H8) H8 fun v20 H9 =>
 gd v16 false (fun k => opt (binBool .neq v18 v20) fun v => k v H9) H9 fun v21 H10 =>
 opt (pick v16 (.bool true) v21) fun v22 =>
 ifB v22 (
 Q (.bool false) H10) (
 opt (binInt .neq v13 (.int .i64 0)) fun v23 =>
 ifB v23 (
 opt (binInt .add t25 (.int .i64 1)) fun v24 =>
 X0 [t5, t6, t7, t23, t24, v24] H10) (
 opt (binInt .add t7 (.int .i64 1)) fun v25 =>
 opt (binInt .neq v12 v25) fun v26 =>
 gd v26 false (fun k => k t5 H10) H10 fun v27 H11 =>
 gd v26 false (fun k => opt (loadN 2 t6 H11) fun v => k v H11) H11 fun v28 H12 =>
 gd v26 false (fun k => E.call (E.fid i.mount_Table_Seen) [v27, v28] H12 fun v h => k v h) H12 fun v29 H13 =>
 gd v26 false (fun k => k v12 H13) H13 fun v30 H14 =>
 gd v26 false (fun k => k v3 H14) H14 fun v31 H15 =>
 gd v26 false (fun k => opt (convInt .u16 v31) fun v => k v H15) H15 fun v32 H16 =>
 gd v26 false (fun k => opt (binInt .add v32 (.int .u16 300)) fun v => k v H16) H16 fun v33 H17 =>
 gd v26 false (fun k => opt (buildV [(0, 1), (1, 1)] #[(.int .i64 0), (.int .u16 0)] [(0, v30), (1, v33)]) fun v => k v H17) H17 fun v34 H18 =>
 gd v26 false (fun k => opt (binAgg [0, 0] .neq v29 v34) fun v => k v H18) H18 fun v35 H19 =>
 opt (pick v26 (.bool true) v35) fun v36 =>
 ifB v36 (
 Q (.bool false) H19) (
 opt (binInt .add t25 (.int .i64 1)) fun v37 =>
 X0 [t5, t6, v25, t23, t24, v37] H19))))) (
 F.pinfoldlaw17_MountBack_j1 E Q t5 t6 t7 H)
/-- pinfold/pinfoldlaw17.MountBack -/
def F.pinfoldlaw17_MountBack (E : Sy) (x0 x1 : Value) (H : AH) (Q : Value → AH → Prop) : Prop :=
 E.call (E.fid i.pinfoldlaw17_Awake) [] H fun v1 H1 =>
 opt (un .not v1) fun v2 =>
 ifB v2 (
 Q (.bool false) H1) (
 E.call (E.fid i.mount_New) [] H1 fun v3 H2 =>
 opt (binInt .add (.int .u8 2) x1) fun v4 =>
 opt (convInt .u16 v4) fun v5 =>
 opt (buildV [(0, 1), (1, 1)] #[(.int .i64 0), (.int .u16 0)] [(0, (.int .i64 0)), (1, v5)]) fun v6 =>
 allocW [(.int .i64 0), (.int .u16 0)] H2 fun v7 H3 =>
 opt (storeN 2 v7 v6 H3) fun H4 =>
 opt (lenSlc x0) fun v8 =>
 LoopL (fun l H X0 => F.pinfoldlaw17_MountBack_l2 E Q (nth l 0) (nth l 1) (nth l 2) (nth l 3) (nth l 4) (nth l 5) H X0) [v3, v7, (.int .i64 0), x0, v8, (.int .i64 0)] H4)

def F.pinfoldlaw17_MountHeld_j2 (E : Sy) (Q : Value → AH → Prop) (X0 : List Value → AH → Prop) (t2 t7 t12 t13 t14 : Value) (H : AH) : Prop :=
 opt (loadN 2 t14 H) fun v1 =>
 E.call (E.fid i.mount_Table_Drop) [t7, v1] H fun v2 H1 =>
 opt (binInt .neq v2 (.int .i64 0)) fun v3 =>
 gd v3 false (fun k => k t7 H1) H1 fun v4 H2 =>
 gd v3 false (fun k => opt (loadN 2 t14 H2) fun v => k v H2) H2 fun v5 H3 =>
 gd v3 false (fun k => E.call (E.fid i.mount_Table_Drop) [v4, v5] H3 fun v h => k v h) H3 fun v6 H4 =>
 gd v3 false (fun k => opt (binInt .neq v6 (.int .i64 22)) fun v => k v H4) H4 fun v7 H5 =>
 opt (pick v3 (.bool true) v7) fun v8 =>
 ifB v8 (
 Q (.bool false) H5) (
 opt (binInt .sub t13 (.int .i64 1)) fun v9 =>
 X0 [t2, t7, t12, v9] H5)
def F.pinfoldlaw17_MountHeld_l4 (E : Sy) (Q : Value → AH → Prop) (X0 : List Value → AH → Prop) (t2 t7 t12 t13 t14 t79 t80 : Value) (H : AH) (X1 : List Value → AH → Prop) : Prop :=
 opt (binInt .lss t80 t79) fun v1 =>
 ifB v1 (
 opt (loadN 2 t14 H) fun v2 =>
 E.call (E.fid i.mount_Table_Drop) [t7, v2] H fun v3 H1 =>
 opt (binInt .neq v3 (.int .i64 16)) fun v4 =>
 gd v4 false (fun k => k t7 H1) H1 fun v5 H2 =>
 gd v4 false (fun k => k t12 H2) H2 fun v6 H3 =>
 gd v4 false (fun k => E.call (E.fid i.mount_Table_Hold) [v5, v6, (.bool false)] H3 fun v h => k v h) H3 fun v7 H4 =>
 gd v4 false (fun k => opt (binInt .neq v7 (.int .i64 0)) fun v => k v H4) H4 fun v8 H5 =>
 opt (pick v4 (.bool true) v8) fun v9 =>
 ifB v9 (
 Q (.bool false) H5) (
 opt (binInt .add t80 (.int .i64 1)) fun v10 =>
 X1 [t2, t7, t12, t13, t14, t79, v10] H5)) (
 F.pinfoldlaw17_MountHeld_j2 E Q X0 t2 t7 t12 t13 t14 H)
def F.pinfoldlaw17_MountHeld_j1 (E : Sy) (Q : Value → AH → Prop) (X0 : List Value → AH → Prop) (t2 t7 t12 t13 t14 : Value) (H : AH) : Prop :=
 opt (binInt .eql t13 t12) fun v1 =>
 ifB v1 (
 opt (binInt .rem t2 (.int .u8 4)) fun v2 =>
 opt (convInt .i64 v2) fun v3 =>
 LoopL (fun l H X1 => F.pinfoldlaw17_MountHeld_l4 E Q X0 (nth l 0) (nth l 1) (nth l 2) (nth l 3) (nth l 4) (nth l 5) (nth l 6) H X1) [t2, t7, t12, t13, t14, v3, (.int .i64 0)] H) (
 F.pinfoldlaw17_MountHeld_j2 E Q X0 t2 t7 t12 t13 t14 H)
def F.pinfoldlaw17_MountHeld_l3 (E : Sy) (Q : Value → AH → Prop) (t2 t7 t12 t13 : Value) (H : AH) (X0 : List Value → AH → Prop) : Prop :=
 opt (binInt .gtr t13 (.int .i64 0)) fun v1 =>
 ifB v1 (
 opt (binInt .add (.int .i64 9) t13) fun v2 =>
 opt (convInt .u16 v2) fun v3 =>
 opt (buildV [(0, 1), (1, 1)] #[(.int .i64 0), (.int .u16 0)] [(0, t13), (1, v3)]) fun v4 =>
 allocW [(.int .i64 0), (.int .u16 0)] H fun v5 H1 =>
 opt (storeN 2 v5 v4 H1) fun H2 =>
 opt (binInt .gtr t13 (.int .i64 1)) fun v6 =>
 ifB v6 (
 opt (binInt .sub t13 (.int .i64 1)) fun v7 =>
 opt (binInt .add (.int .i64 8) t13) fun v8 =>
 opt (convInt .u16 v8) fun v9 =>
 opt (buildV [(0, 1), (1, 1)] #[(.int .i64 0), (.int .u16 0)] [(0, v7), (1, v9)]) fun v10 =>
 E.call (E.fid i.mount_Table_Drop) [t7, v10] H2 fun v11 H3 =>
 opt (binInt .neq v11 (.int .i64 16)) fun v12 =>
 ifB v12 (
 Q (.bool false) H3) (
 F.pinfoldlaw17_MountHeld_j1 E Q X0 t2 t7 t12 t13 v5 H3)) (
 F.pinfoldlaw17_MountHeld_j1 E Q X0 t2 t7 t12 t13 v5 H2)) (
 E.call (E.fid i.mount_Table_List) [t7] H fun v13 H4 =>
 opt (lenSlc v13) fun v14 =>
 opt (binInt .eql v14 (.int .i64 1)) fun v15 =>
 gd v15 true (fun k => k t7 H4) H4 fun v16 H5 =>
 gd v15 true (fun k => E.call (E.fid i.mount_Top) [] H5 fun v h => k v h) H5 fun v17 H6 =>
 gd v15 true (fun k => E.call (E.fid i.mount_Table_Drop) [v16, v17] H6 fun v h => k v h) H6 fun v18 H7 =>
 gd v15 true (fun k => opt (binInt .eql v18 (.int .i64 22)) fun v => k v H7) H7 fun v19 H8 =>
 opt (pick v15 v19 (.bool false)) fun v20 =>
 Q v20 H8)
def F.pinfoldlaw17_MountHeld_l2 (E : Sy) (Q : Value → AH → Prop) (t2 t7 t8 t12 t46 t47 : Value) (H : AH) (X0 : List Value → AH → Prop) : Prop :=
 opt (binInt .lss t47 t46) fun v1 =>
 ifB v1 (
 E.call (E.fid i.mount_Table_Hold) [t7, t12, (.bool true)] H fun v2 H1 =>
 opt (binInt .add t47 (.int .i64 1)) fun v3 =>
 X0 [t2, t7, t8, t12, t46, v3] H1) (
 LoopL (fun l H X0 => F.pinfoldlaw17_MountHeld_l3 E Q (nth l 0) (nth l 1) (nth l 2) (nth l 3) H X0) [t2, t7, t12, t8] H)
def F.pinfoldlaw17_MountHeld_l1 (E : Sy) (Q : Value → AH → Prop) (t1 t2 t7 t8 t22 t23 : Value) (H : AH) (X0 : List Value → AH → Prop) : Prop :=
 opt (binInt .lss t23 t22) fun v1 =>
 ifB v1 (
 opt (binInt .add (.int .i64 10) t23) fun v2 =>
 opt (convInt .u16 v2) fun v3 =>
 opt (buildV [(0, 1), (1, 1)] #[(.int .i64 0), (.int .u16 0)] [(0, t23), (1, (.int .u16 99))]) fun v4 =>
 E.call (E.fid i.mount_Table_Bind) [t7, v3, v4] H fun v5 H1 =>
 opt (ext v5 0) fun v6 =>
 opt (ext v5 1) fun v7 =>
 opt (binInt .neq v7 (.int .i64 0)) fun v8 =>
 ifB v8 (
 Q (.bool false) H1) (
 opt (binInt .add t23 (.int .i64 1)) fun v9 =>
 X0 [t1, t2, t7, t8, t22, v9] H1)) (
 opt (convInt .i64 t1) fun v10 =>
 opt (binInt .rem v10 t8) fun v11 =>
 opt (binInt .add (.int .i64 1) v11) fun v12 =>
 opt (binInt .rem t2 (.int .u8 4)) fun v13 =>
 opt (convInt .i64 v13) fun v14 =>
 LoopL (fun l H X0 => F.pinfoldlaw17_MountHeld_l2 E Q (nth l 0) (nth l 1) (nth l 2) (nth l 3) (nth l 4) (nth l 5) H X0) [t2, t7, t8, v12, v14, (.int .i64 0)] H)
/-- pinfold/pinfoldlaw17.MountHeld -/
def F.pinfoldlaw17_MountHeld (E : Sy) (x0 x1 x2 : Value) (H : AH) (Q : Value → AH → Prop) : Prop :=
 E.call (E.fid i.pinfoldlaw17_Awake) [] H fun v1 H1 =>
 opt (un .not v1) fun v2 =>
 ifB v2 (
 Q (.bool false) H1) (
 E.call (E.fid i.mount_New) [] H1 fun v3 H2 =>
 opt (binInt .rem x0 (.int .u8 15)) fun v4 =>
 opt (convInt .i64 v4) fun v5 =>
 opt (binInt .add (.int .i64 1) v5) fun v6 =>
 LoopL (fun l H X0 => F.pinfoldlaw17_MountHeld_l1 E Q (nth l 0) (nth l 1) (nth l 2) (nth l 3) (nth l 4) (nth l 5) H X0) [x1, x2, v3, v6, v6, (.int .i64 0)] H2)

def F.pinfoldlaw17_MountPlays_l1 (E : Sy) (Q : Value → AH → Prop) (t5 t6 t193 t194 t195 : Value) (H : AH) (X0 : List Value → AH → Prop) : Prop :=
 opt (binInt .lss t195 t194) fun v1 =>
 ifB v1 (
 opt (ixSlc 2 t193 t195) fun v2 =>
 opt (loadN 2 v2 H) fun v3 =>
 allocW [(.int .i64 0), (.int .u16 0)] H fun v4 H1 =>
 opt (storeN 2 v4 v3 H1) fun H2 =>
 opt (loadN 2 v4 H2) fun v5 =>
 E.call (E.fid i.mount_Table_Down) [t5, v5] H2 fun v6 H3 =>
 opt (ext v6 0) fun v7 =>
 opt (ext v6 1) fun v8 =>
 allocW [(.int .i64 0), (.int .u16 0)] H3 fun v9 H4 =>
 opt (storeN 2 v9 v7 H4) fun H5 =>
 opt (loadN 2 v4 H5) fun v10 =>
 E.call (E.fid i.pinfoldlaw17_Ref) [v10] H5 fun v11 H6 =>
 E.call (E.fid i.pinfoldref16_Tree_Down) [t6, v11] H6 fun v12 H7 =>
 opt (ext v12 0) fun v13 =>
 opt (ext v12 1) fun v14 =>
 allocW [(.int .i64 0), (.int .i64 0)] H7 fun v15 H8 =>
 opt (storeN 2 v15 v13 H8) fun H9 =>
 opt (loadN 2 v4 H9) fun v16 =>
 opt (loadN 2 v4 H9) fun v17 =>
 E.call (E.fid i.mount_Table_Seen) [t5, v16] H9 fun v18 H10 =>
 loadN 2 v4 H10 = loadN 2 v4 H9 ∧
 E.call (E.fid i.pinfoldlaw17_Ref) [v18] H10 fun v19 H11 =>
 loadN 2 v4 H11 = loadN 2 v4 H9 ∧
 E.call (E.fid i.pinfoldlaw17_Ref) [v17] H11 fun v20 H12 =>
 E.call (E.fid i.pinfoldref16_Tree_Seen) [t6, v20] H12 fun v21 H13 =>
 opt (binAgg [0, 0] .neq v19 v21) fun v22 =>
 gd v22 false (fun k => k v8 H13) H13 fun v23 H14 =>
 gd v22 false (fun k => k v14 H14) H14 fun v24 H15 =>
 gd v22 false (fun k => opt (binBool .neq v23 v24) fun v => k v H15) H15 fun v25 H16 =>
 opt (pick v22 (.bool true) v25) fun v26 =>
 gd v26 false (fun k => opt (loadN 2 v9 H16) fun v => k v H16) H16 fun v27 H17 =>
 gd v26 false (fun k => opt (loadN 2 v15 H17) fun v => k v H17) H17 fun v28 H18 =>
 gd v26 false (fun k => E.call (E.fid i.pinfoldlaw17_Ref) [v27] H18 fun v h => k v h) H18 fun v29 H19 =>
 gdC v26 false (loadN 2 v15 H19 = loadN 2 v15 H17) ∧
 gd v26 false (fun k => opt (binAgg [0, 0] .neq v29 v28) fun v => k v H19) H19 fun v30 H20 =>
 opt (pick v26 (.bool true) v30) fun v31 =>
 gd v31 false (fun k => k t5 H20) H20 fun v32 H21 =>
 gd v31 false (fun k => opt (addOff v4 1) fun v => k v H21) H21 fun v33 H22 =>
 gd v31 false (fun k => opt (load1 v33 H22) fun v => k v H22) H22 fun v34 H23 =>
 gd v31 false (fun k => k t6 H23) H23 fun v35 H24 =>
 gd v31 false (fun k => opt (addOff v4 1) fun v => k v H24) H24 fun v36 H25 =>
 gd v31 false (fun k => opt (load1 v36 H25) fun v => k v H25) H25 fun v37 H26 =>
 gd v31 false (fun k => opt (convInt .i64 v37) fun v => k v H26) H26 fun v38 H27 =>
 gd v31 false (fun k => E.call (E.fid i.mount_Table_Used) [v32, v34] H27 fun v h => k v h) H27 fun v39 H28 =>
 gdC v31 false (load1 v36 H28 = load1 v36 H25) ∧
 gd v31 false (fun k => E.call (E.fid i.pinfoldref16_Tree_Used) [v35, v38] H28 fun v h => k v h) H28 fun v40 H29 =>
 gd v31 false (fun k => opt (binBool .neq v39 v40) fun v => k v H29) H29 fun v41 H30 =>
 opt (pick v31 (.bool true) v41) fun v42 =>
 ifB v42 (
 Q (.bool false) H30) (
 opt (binInt .add t195 (.int .i64 1)) fun v43 =>
 X0 [t5, t6, t193, t194, v43] H30)) (
 E.call (E.fid i.mount_Top) [] H fun v44 H31 =>
 opt (buildV [(0, 1), (1, 1)] #[(.int .i64 0), (.int .u16 0)] [(0, (.int .i64 0)), (1, (.int .u16 1))]) fun v45 =>
 opt (binAgg [0, 0] .eql v44 v45) fun v46 =>
 Q v46 H31)
def F.pinfoldlaw17_MountPlays_j1 (E : Sy) (Q : Value → AH → Prop) (t1 t5 t6 : Value) (H : AH) : Prop :=
 opt (buildV [(0, 1), (1, 1)] #[(.int .i64 0), (.int .u16 0)] []) fun v1 =>
 opt (buildV [(0, 1), (1, 1)] #[(.int .i64 0), (.int .u16 0)] [(0, (.int .i64 0)), (1, (.int .u16 3))]) fun v2 =>
 opt (buildV [(0, 1), (1, 1)] #[(.int .i64 0), (.int .u16 0)] [(0, (.int .i64 1)), (1, (.int .u16 2))]) fun v3 =>
 opt (buildV [(0, 1), (1, 1)] #[(.int .i64 0), (.int .u16 0)] [(0, (.int .i64 2)), (1, (.int .u16 1))]) fun v4 =>
 mk (buildS 4 2 #[(.int .i64 0), (.int .u16 0)] [(0, v1), (1, v2), (2, v3), (3, v4)]) H fun v5 H1 =>
 opt2 (app 2 16 v5 t1 H1) fun v6 H2 =>
 opt (lenSlc v6) fun v7 =>
 LoopL (fun l H X0 => F.pinfoldlaw17_MountPlays_l1 E Q (nth l 0) (nth l 1) (nth l 2) (nth l 3) (nth l 4) H X0) [t5, t6, v6, v7, (.int .i64 0)] H2
def F.pinfoldlaw17_MountPlays_l3 (E : Sy) (Q : Value → AH → Prop) (X0 : List Value → AH → Prop) (t1 t5 t6 t35 t36 t37 t127 t128 t129 : Value) (H : AH) (X1 : List Value → AH → Prop) : Prop :=
 opt (binInt .lss t129 t128) fun v1 =>
 ifB v1 (
 opt (ixSlc 5 t127 t129) fun v2 =>
 opt (loadN 5 v2 H) fun v3 =>
 allocW [(.int .i64 0), (.int .i64 0), (.int .u16 0), (.int .u16 0), (.int .i64 0)] H fun v4 H1 =>
 opt (storeN 5 v4 v3 H1) fun H2 =>
 opt (addOff v4 0) fun v5 =>
 opt (load1 v5 H2) fun v6 =>
 E.call (E.fid i.mount_Table_Get) [t5, v6] H2 fun v7 H3 =>
 opt (ext v7 0) fun v8 =>
 opt (ext v7 1) fun v9 =>
 allocW [(.int .i64 0), (.int .i64 0), (.int .u16 0), (.int .u16 0), (.int .i64 0)] H3 fun v10 H4 =>
 opt (storeN 5 v10 v8 H4) fun H5 =>
 opt (nilCk t6) fun v11 =>
 opt (addOff v11 2) fun v12 =>
 opt (load1 v12 H5) fun v13 =>
 opt (ixSlc 5 v13 t129) fun v14 =>
 opt (loadN 5 v14 H5) fun v15 =>
 allocW [(.int .i64 0), (.int .i64 0), (.int .i64 0), (.int .i64 0), (.int .i64 0)] H5 fun v16 H6 =>
 opt (storeN 5 v16 v15 H6) fun H7 =>
 opt (un .not v9) fun v17 =>
 gd v17 false (fun k => opt (loadN 5 v10 H7) fun v => k v H7) H7 fun v18 H8 =>
 gd v17 false (fun k => opt (loadN 5 v4 H8) fun v => k v H8) H8 fun v19 H9 =>
 gd v17 false (fun k => opt (binAgg [0, 0, 0, 0, 0] .neq v18 v19) fun v => k v H9) H9 fun v20 H10 =>
 opt (pick v17 (.bool true) v20) fun v21 =>
 gd v21 false (fun k => opt (addOff v4 0) fun v => k v H10) H10 fun v22 H11 =>
 gd v21 false (fun k => opt (load1 v22 H11) fun v => k v H11) H11 fun v23 H12 =>
 gd v21 false (fun k => opt (addOff v16 0) fun v => k v H12) H12 fun v24 H13 =>
 gd v21 false (fun k => opt (load1 v24 H13) fun v => k v H13) H13 fun v25 H14 =>
 gd v21 false (fun k => opt (binInt .neq v23 v25) fun v => k v H14) H14 fun v26 H15 =>
 opt (pick v21 (.bool true) v26) fun v27 =>
 gd v27 false (fun k => opt (addOff v4 3) fun v => k v H15) H15 fun v28 H16 =>
 gd v27 false (fun k => opt (load1 v28 H16) fun v => k v H16) H16 fun v29 H17 =>
 gd v27 false (fun k => opt (convInt .i64 v29) fun v => k v H17) H17 fun v30 H18 =>
 gd v27 false (fun k => opt (addOff v16 1) fun v => k v H18) H18 fun v31 H19 =>
 gd v27 false (fun k => opt (load1 v31 H19) fun v => k v H19) H19 fun v32 H20 =>
 gd v27 false (fun k => opt (binInt .neq v30 v32) fun v => k v H20) H20 fun v33 H21 =>
 opt (pick v27 (.bool true) v33) fun v34 =>
 gd v34 false (fun k => opt (addOff v4 1) fun v => k v H21) H21 fun v35 H22 =>
 gd v34 false (fun k => opt (loadN 2 v35 H22) fun v => k v H22) H22 fun v36 H23 =>
 gd v34 false (fun k => opt (addOff v16 2) fun v => k v H23) H23 fun v37 H24 =>
 gd v34 false (fun k => opt (loadN 2 v37 H24) fun v => k v H24) H24 fun v38 H25 =>
 gd v34 false (fun k => E.call (E.fid i.pinfoldlaw17_Ref) [v36] H25 fun v h => k v h) H25 fun v39 H26 =>
 gdC v34 false (loadN 2 v37 H26 = loadN 2 v37 H24) ∧
 gd v34 false (fun k => opt (binAgg [0, 0] .neq v39 v38) fun v => k v H26) H26 fun v40 H27 =>
 opt (pick v34 (.bool true) v40) fun v41 =>
 gd v41 false (fun k => opt (addOff v4 4) fun v => k v H27) H27 fun v42 H28 =>
 gd v41 false (fun k => opt (load1 v42 H28) fun v => k v H28) H28 fun v43 H29 =>
 gd v41 false (fun k => opt (addOff v16 4) fun v => k v H29) H29 fun v44 H30 =>
 gd v41 false (fun k => opt (load1 v44 H30) fun v => k v H30) H30 fun v45 H31 =>
 gd v41 false (fun k => opt (binInt .neq v43 v45) fun v => k v H31) H31 fun v46 H32 =>
 opt (pick v41 (.bool true) v46) fun v47 =>
 ifB v47 (
 Q (.bool false) H32) (
 opt (binInt .add t129 (.int .i64 1)) fun v48 =>
 X1 [t1, t5, t6, t35, t36, t37, t127, t128, v48] H32)) (
 opt (binInt .add t37 (.int .i64 1)) fun v49 =>
 X0 [t1, t5, t6, t35, t36, v49] H)
def F.pinfoldlaw17_MountPlays_j3 (E : Sy) (Q : Value → AH → Prop) (X0 : List Value → AH → Prop) (t1 t5 t6 t35 t36 t37 : Value) (H : AH) : Prop :=
 E.call (E.fid i.mount_Table_List) [t5] H fun v1 H1 =>
 opt (lenSlc v1) fun v2 =>
 opt (nilCk t6) fun v3 =>
 opt (addOff v3 2) fun v4 =>
 opt (load1 v4 H1) fun v5 =>
 opt (lenSlc v5) fun v6 =>
 opt (binInt .neq v2 v6) fun v7 =>
 ifB v7 (
 Q (.bool false) H1) (
 opt (lenSlc v1) fun v8 =>
 LoopL (fun l H X1 => F.pinfoldlaw17_MountPlays_l3 E Q X0 (nth l 0) (nth l 1) (nth l 2) (nth l 3) (nth l 4) (nth l 5) (nth l 6) (nth l 7) (nth l 8) H X1) [t1, t5, t6, t35, t36, t37, v1, v8, (.int .i64 0)] H1)
def F.pinfoldlaw17_MountPlays_j2 (E : Sy) (Q : Value → AH → Prop) (X0 : List Value → AH → Prop) (t1 t5 t6 t8 t9 t35 t36 t37 : Value) (H : AH) : Prop :=
 opt (addOff t8 1) fun v1 =>
 opt (load1 v1 H) fun v2 =>
 opt (binInt .rem v2 (.int .u8 6)) fun v3 =>
 opt (binInt .add (.int .u8 1) v3) fun v4 =>
 opt (convInt .u16 v4) fun v5 =>
 opt (addOff t8 0) fun v6 =>
 opt (load1 v6 H) fun v7 =>
 opt (binInt .rem v7 (.int .u8 8)) fun v8 =>
 opt (binInt .lss v8 (.int .u8 4)) fun v9 =>
 ifB v9 (
 opt (loadN 2 t9 H) fun v10 =>
 E.call (E.fid i.mount_Table_Bind) [t5, v5, v10] H fun v11 H1 =>
 opt (ext v11 0) fun v12 =>
 opt (ext v11 1) fun v13 =>
 opt (convInt .i64 v5) fun v14 =>
 opt (loadN 2 t9 H1) fun v15 =>
 E.call (E.fid i.pinfoldlaw17_Ref) [v15] H1 fun v16 H2 =>
 E.call (E.fid i.pinfoldref16_Tree_Bind) [t6, v14, v16] H2 fun v17 H3 =>
 opt (ext v17 0) fun v18 =>
 opt (ext v17 1) fun v19 =>
 opt (binInt .neq v12 v18) fun v20 =>
 gd v20 false (fun k => k v13 H3) H3 fun v21 H4 =>
 gd v20 false (fun k => k v19 H4) H4 fun v22 H5 =>
 gd v20 false (fun k => opt (binInt .neq v21 v22) fun v => k v H5) H5 fun v23 H6 =>
 opt (pick v20 (.bool true) v23) fun v24 =>
 ifB v24 (
 Q (.bool false) H6) (
 F.pinfoldlaw17_MountPlays_j3 E Q X0 t1 t5 t6 t35 t36 t37 H6)) (
 opt (binInt .lss v8 (.int .u8 6)) fun v25 =>
 ifB v25 (
 opt (loadN 2 t9 H) fun v26 =>
 opt (loadN 2 t9 H) fun v27 =>
 E.call (E.fid i.mount_Table_Drop) [t5, v26] H fun v28 H7 =>
 loadN 2 t9 H7 = loadN 2 t9 H ∧
 E.call (E.fid i.pinfoldlaw17_Ref) [v27] H7 fun v29 H8 =>
 E.call (E.fid i.pinfoldref16_Tree_Unmount) [t6, v29] H8 fun v30 H9 =>
 opt (binInt .neq v28 v30) fun v31 =>
 ifB v31 (
 Q (.bool false) H9) (
 F.pinfoldlaw17_MountPlays_j3 E Q X0 t1 t5 t6 t35 t36 t37 H9)) (
 opt (addOff t9 0) fun v32 =>
 opt (load1 v32 H) fun v33 =>
 opt (addOff t8 6) fun v34 =>
 opt (load1 v34 H) fun v35 =>
 opt (addOff t9 0) fun v36 =>
 opt (load1 v36 H) fun v37 =>
 opt (addOff t8 6) fun v38 =>
 opt (load1 v38 H) fun v39 =>
 E.call (E.fid i.mount_Table_Hold) [t5, v33, v35] H fun v40 H10 =>
 load1 v38 H10 = load1 v38 H ∧
 load1 v36 H10 = load1 v36 H ∧
 E.call (E.fid i.pinfoldref16_Tree_HoldMount) [t6, v37, v39] H10 fun v41 H11 =>
 opt (binInt .neq v40 v41) fun v42 =>
 ifB v42 (
 Q (.bool false) H11) (
 F.pinfoldlaw17_MountPlays_j3 E Q X0 t1 t5 t6 t35 t36 t37 H11)))
def F.pinfoldlaw17_MountPlays_l2 (E : Sy) (Q : Value → AH → Prop) (t1 t5 t6 t35 t36 t37 : Value) (H : AH) (X0 : List Value → AH → Prop) : Prop :=
 opt (binInt .lss t37 t36) fun v1 =>
 ifB v1 (
 opt (ixSlc 8 t35 t37) fun v2 =>
 opt (loadN 8 v2 H) fun v3 =>
 allocW [(.int .u8 0), (.int .u8 0), (.int .u8 0), (.int .u8 0), (.int .i64 0), (.int .u16 0), (.bool false), (.bool false)] H fun v4 H1 =>
 opt (storeN 8 v4 v3 H1) fun H2 =>
 opt (binInt .geq t37 (.int .i64 80)) fun v5 =>
 ifB v5 (
 F.pinfoldlaw17_MountPlays_j1 E Q t1 t5 t6 H2) (
 opt (addOff v4 2) fun v6 =>
 opt (load1 v6 H2) fun v7 =>
 opt (binInt .rem v7 (.int .u8 6)) fun v8 =>
 opt (convInt .i64 v8) fun v9 =>
 opt (addOff v4 3) fun v10 =>
 opt (load1 v10 H2) fun v11 =>
 opt (binInt .rem v11 (.int .u8 6)) fun v12 =>
 opt (binInt .add (.int .u8 1) v12) fun v13 =>
 opt (convInt .u16 v13) fun v14 =>
 opt (buildV [(0, 1), (1, 1)] #[(.int .i64 0), (.int .u16 0)] [(0, v9), (1, v14)]) fun v15 =>
 allocW [(.int .i64 0), (.int .u16 0)] H2 fun v16 H3 =>
 opt (storeN 2 v16 v15 H3) fun H4 =>
 opt (addOff v4 7) fun v17 =>
 opt (load1 v17 H4) fun v18 =>
 ifB v18 (
 opt (addOff v4 4) fun v19 =>
 opt (loadN 2 v19 H4) fun v20 =>
 opt (storeN 2 v16 v20 H4) fun H5 =>
 F.pinfoldlaw17_MountPlays_j2 E Q X0 t1 t5 t6 v4 v16 t35 t36 t37 H5) (
 F.pinfoldlaw17_MountPlays_j2 E Q X0 t1 t5 t6 v4 v16 t35 t36 t37 H4))) (
 F.pinfoldlaw17_MountPlays_j1 E Q t1 t5 t6 H)
/-- pinfold/pinfoldlaw17.MountPlays -/
def F.pinfoldlaw17_MountPlays (E : Sy) (x0 x1 : Value) (H : AH) (Q : Value → AH → Prop) : Prop :=
 E.call (E.fid i.pinfoldlaw17_Awake) [] H fun v1 H1 =>
 opt (un .not v1) fun v2 =>
 ifB v2 (
 Q (.bool false) H1) (
 opt (lenSlc x1) fun v3 =>
 opt (binInt .gtr v3 (.int .i64 20)) fun v4 =>
 ifB v4 (
 Q (.bool true) H1) (
 E.call (E.fid i.mount_New) [] H1 fun v5 H2 =>
 E.call (E.fid i.pinfoldref16_New) [(.int .i64 1)] H2 fun v6 H3 =>
 opt (lenSlc x0) fun v7 =>
 LoopL (fun l H X0 => F.pinfoldlaw17_MountPlays_l2 E Q (nth l 0) (nth l 1) (nth l 2) (nth l 3) (nth l 4) (nth l 5) H X0) [x1, v5, v6, x0, v7, (.int .i64 0)] H3))

/-- pinfold/pinfoldlaw17.Awake -/
def F.pinfoldlaw17_Awake (E : Sy) (H : AH) (Q : Value → AH → Prop) : Prop :=
 E.call (E.fid i.mount_New) [] H fun v1 H1 =>
 opt (buildV [(0, 1), (1, 1)] #[(.int .i64 0), (.int .u16 0)] [(0, (.int .i64 0)), (1, (.int .u16 7))]) fun v2 =>
 E.call (E.fid i.mount_Table_Bind) [v1, (.int .u16 5), v2] H1 fun v3 H2 =>
 opt (ext v3 0) fun v4 =>
 opt (ext v3 1) fun v5 =>
 opt (binInt .eql v5 (.int .i64 0)) fun v6 =>
 gd v6 true (fun k => k v4 H2) H2 fun v7 H3 =>
 gd v6 true (fun k => opt (binInt .eql v7 (.int .i64 1)) fun v => k v H3) H3 fun v8 H4 =>
 opt (pick v6 v8 (.bool false)) fun v9 =>
 gd v9 true (fun k => k v1 H4) H4 fun v10 H5 =>
 gd v9 true (fun k => opt (buildV [(0, 1), (1, 1)] #[(.int .i64 0), (.int .u16 0)] [(0, (.int .i64 0)), (1, (.int .u16 7))]) fun v => k v H5) H5 fun v11 H6 =>
 gd v9 true (fun k => E.call (E.fid i.mount_Table_Seen) [v10, v11] H6 fun v h => k v h) H6 fun v12 H7 =>
 gd v9 true (fun k => opt (buildV [(0, 1), (1, 1)] #[(.int .i64 0), (.int .u16 0)] [(0, (.int .i64 1)), (1, (.int .u16 5))]) fun v => k v H7) H7 fun v13 H8 =>
 gd v9 true (fun k => opt (binAgg [0, 0] .eql v12 v13) fun v => k v H8) H8 fun v14 H9 =>
 opt (pick v9 v14 (.bool false)) fun v15 =>
 Q v15 H9

/-- pinfold/mount.New -/
def F.mount_New (E : Sy) (H : AH) (Q : Value → AH → Prop) : Prop :=
 opt (buildV [(0, 1), (1, 2), (3, 1), (4, 1)] #[(.int .i64 0), (.int .i64 0), (.int .u16 0), (.int .u16 0), (.int .i64 0)] [(2, (.int .u16 1))]) fun v1 =>
 mk (buildS 1 5 #[(.int .i64 0), (.int .i64 0), (.int .u16 0), (.int .u16 0), (.int .i64 0)] [(0, v1)]) H fun v2 H1 =>
 opt (buildV [(0, 1), (1, 1)] #[(.slice none 0 0), (.int .i64 0)] [(0, v2), (1, (.int .i64 1))]) fun v3 =>
 mk (boxO v3) H1 fun v4 H2 =>
 Q v4 H2

def F.mount_Table_Seen_l1 (E : Sy) (Q : Value → AH → Prop) (t0 t3 t4 : Value) (H : AH) (X0 : List Value → AH → Prop) : Prop :=
 opt (nilCk t0) fun v1 =>
 opt (addOff v1 0) fun v2 =>
 opt (load1 v2 H) fun v3 =>
 opt (some (.func (.func (E.fid i.mount_Table_Seen_1)) #[] #[t3])) fun v4 =>
 E.call (E.fid i.slices_IndexFunc_mount_Mount) [v3, v4] H fun v5 H1 =>
 opt (binInt .lss v5 (.int .i64 0)) fun v6 =>
 ifB v6 (
 opt (loadN 2 t3 H1) fun v7 =>
 opt (storeN 2 t4 v7 H1) fun H2 =>
 opt (loadN 2 t4 H2) fun v8 =>
 Q v8 H2) (
 opt (nilCk t0) fun v9 =>
 opt (addOff v9 0) fun v10 =>
 opt (load1 v10 H1) fun v11 =>
 opt (ixSlc 5 v11 v5) fun v12 =>
 opt (addOff v12 0) fun v13 =>
 opt (load1 v13 H1) fun v14 =>
 opt (nilCk t0) fun v15 =>
 opt (addOff v15 0) fun v16 =>
 opt (load1 v16 H1) fun v17 =>
 opt (ixSlc 5 v17 v5) fun v18 =>
 opt (addOff v18 3) fun v19 =>
 opt (load1 v19 H1) fun v20 =>
 opt (buildV [(0, 1), (1, 1)] #[(.int .i64 0), (.int .u16 0)] [(0, v14), (1, v20)]) fun v21 =>
 opt (storeN 2 t3 v21 H1) fun H3 =>
 X0 [t0, t3, t4] H3)
/-- (*pinfold/mount.Table).Seen -/
def F.mount_Table_Seen (E : Sy) (x0 x1 : Value) (H : AH) (Q : Value → AH → Prop) : Prop :=
 mk (boxO x1) H fun v1 H1 =>
 allocW [(.int .i64 0), (.int .u16 0)] H1 fun v2 H2 =>
 opt (binNil eqPtr .eql x0 (.pointer none)) fun v3 =>
 ifB v3 (
 opt (loadN 2 v1 H2) fun v4 =>
 opt (storeN 2 v2 v4 H2) fun H3 =>
 opt (loadN 2 v2 H3) fun v5 =>
 Q v5 H3) (
 LoopL (fun l H X0 => F.mount_Table_Seen_l1 E Q (nth l 0) (nth l 1) (nth l 2) H X0) [x0, v1, v2] H2)

/-- (*pinfold/mount.Table).Bind -/
def F.mount_Table_Bind (E : Sy) (x0 x1 x2 : Value) (H : AH) (Q : Value → AH → Prop) : Prop :=
 mk (boxO x2) H fun v1 H1 =>
 opt (binNil eqPtr .eql x0 (.pointer none)) fun v2 =>
 ifB v2 (
 Q (.tuple #[(.int .i64 0), (.int .i64 201)]) H1) (
 opt (addOff v1 0) fun v3 =>
 opt (load1 v3 H1) fun v4 =>
 E.call (E.fid i.mount_Table_find) [x0, v4] H1 fun v5 H2 =>
 opt (binInt .lss v5 (.int .i64 0)) fun v6 =>
 ifB v6 (
 Q (.tuple #[(.int .i64 0), (.int .i64 22)]) H2) (
 opt (loadN 2 v1 H2) fun v7 =>
 opt (loadN 2 v1 H2) fun v8 =>
 E.call (E.fid i.mount_Table_Seen) [x0, v7] H2 fun v9 H3 =>
 loadN 2 v1 H3 = loadN 2 v1 H2 ∧
 opt (binAgg [0, 0] .neq v9 v8) fun v10 =>
 ifB v10 (
 Q (.tuple #[(.int .i64 0), (.int .i64 16)]) H3) (
 opt (nilCk x0) fun v11 =>
 opt (addOff v11 0) fun v12 =>
 opt (load1 v12 H3) fun v13 =>
 opt (lenSlc v13) fun v14 =>
 opt (binInt .geq v14 (.int .i64 16)) fun v15 =>
 ifB v15 (
 Q (.tuple #[(.int .i64 0), (.int .i64 28)]) H3) (
 opt (nilCk x0) fun v16 =>
 opt (addOff v16 1) fun v17 =>
 opt (load1 v17 H3) fun v18 =>
 opt (nilCk x0) fun v19 =>
 opt (addOff v19 1) fun v20 =>
 opt (load1 v20 H3) fun v21 =>
 opt (binInt .add v21 (.int .i64 1)) fun v22 =>
 opt (nilCk x0) fun v23 =>
 opt (addOff v23 1) fun v24 =>
 opt (store1 v24 v22 H3) fun H4 =>
 opt (nilCk x0) fun v25 =>
 opt (addOff v25 0) fun v26 =>
 opt (load1 v26 H4) fun v27 =>
 opt (loadN 2 v1 H4) fun v28 =>
 opt (buildV [(0, 1), (1, 2), (3, 1), (4, 1)] #[(.int .i64 0), (.int .i64 0), (.int .u16 0), (.int .u16 0), (.int .i64 0)] [(0, v18), (1, v28), (2, x1)]) fun v29 =>
 mk (buildS 1 5 #[(.int .i64 0), (.int .i64 0), (.int .u16 0), (.int .u16 0), (.int .i64 0)] [(0, v29)]) H4 fun v30 H5 =>
 opt2 (app 5 40 v27 v30 H5) fun v31 H6 =>
 opt (nilCk x0) fun v32 =>
 opt (addOff v32 0) fun v33 =>
 opt (store1 v33 v31 H6) fun H7 =>
 Q (.tuple #[v18, (.int .i64 0)]) H7))))

/-- (*pinfold/mount.Table).List -/
def F.mount_Table_List (E : Sy) (x0 : Value) (H : AH) (Q : Value → AH → Prop) : Prop :=
 opt (binNil eqPtr .eql x0 (.pointer none)) fun v1 =>
 ifB v1 (
 Q (.slice none 0 0) H) (
 opt (nilCk x0) fun v2 =>
 opt (addOff v2 0) fun v3 =>
 opt (load1 v3 H) fun v4 =>
 E.call (E.fid i.slices_Clone_mount_Mount) [v4] H fun v5 H1 =>
 Q v5 H1)

/-- (*pinfold/mount.Table).Down -/
def F.mount_Table_Down (E : Sy) (x0 x1 : Value) (H : AH) (Q : Value → AH → Prop) : Prop :=
 mk (boxO x1) H fun v1 H1 =>
 allocW [(.int .i64 0), (.int .u16 0)] H1 fun v2 H2 =>
 opt (addOff v1 0) fun v3 =>
 opt (load1 v3 H2) fun v4 =>
 E.call (E.fid i.mount_Table_Get) [x0, v4] H2 fun v5 H3 =>
 opt (ext v5 0) fun v6 =>
 opt (ext v5 1) fun v7 =>
 allocW [(.int .i64 0), (.int .i64 0), (.int .u16 0), (.int .u16 0), (.int .i64 0)] H3 fun v8 H4 =>
 opt (storeN 5 v8 v6 H4) fun H5 =>
 opt (un .not v7) fun v9 =>
 gd v9 false (fun k => opt (addOff v8 0) fun v => k v H5) H5 fun v10 H6 =>
 gd v9 false (fun k => opt (load1 v10 H6) fun v => k v H6) H6 fun v11 H7 =>
 gd v9 false (fun k => opt (binInt .eql v11 (.int .i64 0)) fun v => k v H7) H7 fun v12 H8 =>
 opt (pick v9 (.bool true) v12) fun v13 =>
 gd v13 false (fun k => opt (addOff v8 3) fun v => k v H8) H8 fun v14 H9 =>
 gd v13 false (fun k => opt (load1 v14 H9) fun v => k v H9) H9 fun v15 H10 =>
 gd v13 false (fun k => opt (addOff v1 1) fun v => k v H10) H10 fun v16 H11 =>
 gd v13 false (fun k => opt (load1 v16 H11) fun v => k v H11) H11 fun v17 H12 =>
 gd v13 false (fun k => opt (binInt .neq v15 v17) fun v => k v H12) H12 fun v18 H13 =>
 opt (pick v13 (.bool true) v18) fun v19 =>
 ifB v19 (
 opt (buildV [(0, 1), (1, 1)] #[(.int .i64 0), (.int .u16 0)] []) fun v20 =>
 opt (storeN 2 v2 v20 H13) fun H14 =>
 opt (loadN 2 v2 H14) fun v21 =>
 Q (.tuple #[v21, (.bool false)]) H14) (
 opt (addOff v8 1) fun v22 =>
 opt (loadN 2 v22 H13) fun v23 =>
 opt (storeN 2 v2 v23 H13) fun H15 =>
 opt (loadN 2 v2 H15) fun v24 =>
 Q (.tuple #[v24, (.bool true)]) H15)

/-- (*pinfold/mount.Table).Hold -/
def F.mount_Table_Hold (E : Sy) (x0 x1 x2 : Value) (H : AH) (Q : Value → AH → Prop) : Prop :=
 E.call (E.fid i.mount_Table_find) [x0, x1] H fun v1 H1 =>
 opt (binInt .lss v1 (.int .i64 0)) fun v2 =>
 ifB v2 (
 Q (.int .i64 2) H1) (
 ifB x2 (
 opt (nilCk x0) fun v3 =>
 opt (addOff v3 0) fun v4 =>
 opt (load1 v4 H1) fun v5 =>
 opt (ixSlc 5 v5 v1) fun v6 =>
 opt (addOff v6 4) fun v7 =>
 opt (load1 v7 H1) fun v8 =>
 opt (binInt .add v8 (.int .i64 1)) fun v9 =>
 opt (ixSlc 5 v5 v1) fun v10 =>
 opt (addOff v10 4) fun v11 =>
 opt (store1 v11 v9 H1) fun H2 =>
 Q (.int .i64 0) H2) (
 opt (nilCk x0) fun v12 =>
 opt (addOff v12 0) fun v13 =>
 opt (load1 v13 H1) fun v14 =>
 opt (ixSlc 5 v14 v1) fun v15 =>
 opt (addOff v15 4) fun v16 =>
 opt (load1 v16 H1) fun v17 =>
 opt (binInt .eql v17 (.int .i64 0)) fun v18 =>
 ifB v18 (
 Q (.int .i64 22) H1) (
 opt (nilCk x0) fun v19 =>
 opt (addOff v19 0) fun v20 =>
 opt (load1 v20 H1) fun v21 =>
 opt (ixSlc 5 v21 v1) fun v22 =>
 opt (addOff v22 4) fun v23 =>
 opt (load1 v23 H1) fun v24 =>
 opt (binInt .sub v24 (.int .i64 1)) fun v25 =>
 opt (ixSlc 5 v21 v1) fun v26 =>
 opt (addOff v26 4) fun v27 =>
 opt (store1 v27 v25 H1) fun H3 =>
 Q (.int .i64 0) H3)))

/-- (*pinfold/mount.Table).Drop -/
def F.mount_Table_Drop (E : Sy) (x0 x1 : Value) (H : AH) (Q : Value → AH → Prop) : Prop :=
 mk (boxO x1) H fun v1 H1 =>
 opt (binNil eqPtr .eql x0 (.pointer none)) fun v2 =>
 ifB v2 (
 Q (.int .i64 201) H1) (
 opt (loadN 2 v1 H1) fun v3 =>
 E.call (E.fid i.mount_Table_Down) [x0, v3] H1 fun v4 H2 =>
 opt (ext v4 0) fun v5 =>
 opt (ext v4 1) fun v6 =>
 allocW [(.int .i64 0), (.int .u16 0)] H2 fun v7 H3 =>
 opt (storeN 2 v7 v5 H3) fun H4 =>
 opt (un .not v6) fun v8 =>
 ifB v8 (
 Q (.int .i64 22) H4) (
 opt (addOff v1 0) fun v9 =>
 opt (load1 v9 H4) fun v10 =>
 E.call (E.fid i.mount_Table_find) [x0, v10] H4 fun v11 H5 =>
 opt (nilCk x0) fun v12 =>
 opt (addOff v12 0) fun v13 =>
 opt (load1 v13 H5) fun v14 =>
 opt (ixSlc 5 v14 v11) fun v15 =>
 opt (addOff v15 4) fun v16 =>
 opt (load1 v16 H5) fun v17 =>
 opt (binInt .gtr v17 (.int .i64 0)) fun v18 =>
 gd v18 false (fun k => k x0 H5) H5 fun v19 H6 =>
 gd v18 false (fun k => opt (nilCk v19) fun v => k v H6) H6 fun v20 H7 =>
 gd v18 false (fun k => opt (addOff v20 0) fun v => k v H7) H7 fun v21 H8 =>
 gd v18 false (fun k => opt (load1 v21 H8) fun v => k v H8) H8 fun v22 H9 =>
 gd v18 false (fun k => opt (some (.func (.func (E.fid i.mount_Table_Drop_1)) #[] #[v1])) fun v => k v H9) H9 fun v23 H10 =>
 gd v18 false (fun k => E.call (E.fid i.slices_ContainsFunc_mount_Mount) [v22, v23] H10 fun v h => k v h) H10 fun v24 H11 =>
 opt (pick v18 (.bool true) v24) fun v25 =>
 ifB v25 (
 Q (.int .i64 16) H11) (
 opt (nilCk x0) fun v26 =>
 opt (addOff v26 0) fun v27 =>
 opt (load1 v27 H11) fun v28 =>
 E.call (E.fid i.slices_Clone_mount_Mount) [v28] H11 fun v29 H12 =>
 opt (binInt .add v11 (.int .i64 1)) fun v30 =>
 E.call (E.fid i.slices_Delete_mount_Mount) [v29, v11, v30] H12 fun v31 H13 =>
 opt (nilCk x0) fun v32 =>
 opt (addOff v32 0) fun v33 =>
 opt (store1 v33 v31 H13) fun H14 =>
 Q (.int .i64 0) H14)))

/-- pinfold/mount.Top -/
def F.mount_Top (E : Sy) (H : AH) (Q : Value → AH → Prop) : Prop :=
 allocW [(.int .i64 0), (.int .u16 0)] H fun v1 H1 =>
 opt (buildV [(0, 1), (1, 1)] #[(.int .i64 0), (.int .u16 0)] [(0, (.int .i64 0)), (1, (.int .u16 1))]) fun v2 =>
 opt (storeN 2 v1 v2 H1) fun H2 =>
 opt (loadN 2 v1 H2) fun v3 =>
 Q v3 H2

/-- pinfold/pinfoldref16.New -/
def F.pinfoldref16_New (E : Sy) (x0 : Value) (H : AH) (Q : Value → AH → Prop) : Prop :=
 opt (buildV [(0, 1), (1, 1), (2, 1), (3, 1), (4, 1), (5, 1), (6, 1)] #[(.int .i64 0), (.slice none 0 0), (.slice none 0 0), (.int .i64 0), (.string ⟨#[]⟩), (.int .i64 0), (.int .i64 0)] []) fun v1 =>
 opt (buildV [(0, 1), (1, 1), (2, 1), (3, 1), (4, 1), (5, 1), (6, 1)] #[(.int .i64 0), (.slice none 0 0), (.slice none 0 0), (.int .i64 0), (.string ⟨#[]⟩), (.int .i64 0), (.int .i64 0)] [(0, (.int .i64 2)), (3, (.int .i64 1)), (5, (.int .i64 1))]) fun v2 =>
 mk (buildS 2 7 #[(.int .i64 0), (.slice none 0 0), (.slice none 0 0), (.int .i64 0), (.string ⟨#[]⟩), (.int .i64 0), (.int .i64 0)] [(0, v1), (1, v2)]) H fun v3 H1 =>
 opt (fold2 max2 [x0, (.int .i64 1)]) fun v4 =>
 opt (fold2 min2 [v4, (.int .i64 256)]) fun v5 =>
 opt (buildV [(0, 1), (1, 1), (2, 2), (4, 1)] #[(.int .i64 0), (.int .i64 0), (.int .i64 0), (.int .i64 0), (.int .i64 0)] [(1, (.int .i64 1))]) fun v6 =>
 mk (buildS 1 5 #[(.int .i64 0), (.int .i64 0), (.int .i64 0), (.int .i64 0), (.int .i64 0)] [(0, v6)]) H1 fun v7 H2 =>
 opt (buildV [(0, 1), (1, 1), (2, 1), (3, 1), (4, 1)] #[(.slice none 0 0), (.int .i64 0), (.slice none 0 0), (.int .i64 0), (.int .i64 0)] [(0, v3), (1, v5), (2, v7), (3, (.int .i64 1))]) fun v8 =>
 mk (boxO v8) H2 fun v9 H3 =>
 Q v9 H3

/-- pinfold/pinfoldlaw17.Ref -/
def F.pinfoldlaw17_Ref (E : Sy) (x0 : Value) (H : AH) (Q : Value → AH → Prop) : Prop :=
 mk (boxO x0) H fun v1 H1 =>
 allocW [(.int .i64 0), (.int .i64 0)] H1 fun v2 H2 =>
 opt (addOff v1 0) fun v3 =>
 opt (load1 v3 H2) fun v4 =>
 opt (addOff v1 1) fun v5 =>
 opt (load1 v5 H2) fun v6 =>
 opt (convInt .i64 v6) fun v7 =>
 opt (buildV [(0, 1), (1, 1)] #[(.int .i64 0), (.int .i64 0)] [(0, v4), (1, v7)]) fun v8 =>
 opt (storeN 2 v2 v8 H2) fun H3 =>
 opt (loadN 2 v2 H3) fun v9 =>
 Q v9 H3

/-- (*pinfold/pinfoldref16.Tree).Bind -/
def F.pinfoldref16_Tree_Bind (E : Sy) (x0 x1 x2 : Value) (H : AH) (Q : Value → AH → Prop) : Prop :=
 mk (boxO x2) H fun v1 H1 =>
 opt (addOff v1 0) fun v2 =>
 opt (load1 v2 H1) fun v3 =>
 E.call (E.fid i.pinfoldref16_Tree_find) [x0, v3] H1 fun v4 H2 =>
 opt (binInt .lss v4 (.int .i64 0)) fun v5 =>
 ifB v5 (
 Q (.tuple #[(.int .i64 0), (.int .i64 22)]) H2) (
 opt (loadN 2 v1 H2) fun v6 =>
 opt (loadN 2 v1 H2) fun v7 =>
 E.call (E.fid i.pinfoldref16_Tree_Seen) [x0, v6] H2 fun v8 H3 =>
 loadN 2 v1 H3 = loadN 2 v1 H2 ∧
 opt (binAgg [0, 0] .neq v8 v7) fun v9 =>
 ifB v9 (
 Q (.tuple #[(.int .i64 0), (.int .i64 16)]) H3) (
 opt (nilCk x0) fun v10 =>
 opt (addOff v10 2) fun v11 =>
 opt (load1 v11 H3) fun v12 =>
 opt (lenSlc v12) fun v13 =>
 opt (binInt .geq v13 (.int .i64 16)) fun v14 =>
 ifB v14 (
 Q (.tuple #[(.int .i64 0), (.int .i64 28)]) H3) (
 opt (nilCk x0) fun v15 =>
 opt (addOff v15 3) fun v16 =>
 opt (load1 v16 H3) fun v17 =>
 opt (nilCk x0) fun v18 =>
 opt (addOff v18 3) fun v19 =>
 opt (load1 v19 H3) fun v20 =>
 opt (binInt .add v20 (.int .i64 1)) fun v21 =>
 opt (nilCk x0) fun v22 =>
 opt (addOff v22 3) fun v23 =>
 opt (store1 v23 v21 H3) fun H4 =>
 opt (nilCk x0) fun v24 =>
 opt (addOff v24 2) fun v25 =>
 opt (load1 v25 H4) fun v26 =>
 opt (loadN 2 v1 H4) fun v27 =>
 opt (buildV [(0, 1), (1, 1), (2, 2), (4, 1)] #[(.int .i64 0), (.int .i64 0), (.int .i64 0), (.int .i64 0), (.int .i64 0)] [(0, v17), (1, x1), (2, v27)]) fun v28 =>
 mk (buildS 1 5 #[(.int .i64 0), (.int .i64 0), (.int .i64 0), (.int .i64 0), (.int .i64 0)] [(0, v28)]) H4 fun v29 H5 =>
 opt2 (app 5 40 v26 v29 H5) fun v30 H6 =>
 opt (nilCk x0) fun v31 =>
 opt (addOff v31 2) fun v32 =>
 opt (store1 v32 v30 H6) fun H7 =>
 Q (.tuple #[v17, (.int .i64 0)]) H7)))

def F.pinfoldref16_Tree_Unmount_l1 (E : Sy) (Q : Value → AH → Prop) (t0 t3 t7 t8 : Value) (H : AH) (X0 : List Value → AH → Prop) : Prop :=
 opt (nilCk t0) fun v1 =>
 opt (addOff v1 2) fun v2 =>
 opt (load1 v2 H) fun v3 =>
 opt (lenSlc v3) fun v4 =>
 opt (binInt .lss t8 v4) fun v5 =>
 ifB v5 (
 opt (nilCk t0) fun v6 =>
 opt (addOff v6 2) fun v7 =>
 opt (load1 v7 H) fun v8 =>
 opt (ixSlc 5 v8 t8) fun v9 =>
 opt (addOff v9 0) fun v10 =>
 opt (load1 v10 H) fun v11 =>
 opt (binInt .neq v11 (.int .i64 0)) fun v12 =>
 gd v12 true (fun k => k t0 H) H fun v13 H1 =>
 gd v12 true (fun k => opt (nilCk v13) fun v => k v H1) H1 fun v14 H2 =>
 gd v12 true (fun k => opt (addOff v14 2) fun v => k v H2) H2 fun v15 H3 =>
 gd v12 true (fun k => opt (load1 v15 H3) fun v => k v H3) H3 fun v16 H4 =>
 gd v12 true (fun k => k t8 H4) H4 fun v17 H5 =>
 gd v12 true (fun k => opt (ixSlc 5 v16 v17) fun v => k v H5) H5 fun v18 H6 =>
 gd v12 true (fun k => opt (addOff v18 2) fun v => k v H6) H6 fun v19 H7 =>
 gd v12 true (fun k => opt (addOff v19 0) fun v => k v H7) H7 fun v20 H8 =>
 gd v12 true (fun k => opt (load1 v20 H8) fun v => k v H8) H8 fun v21 H9 =>
 gd v12 true (fun k => opt (addOff t3 0) fun v => k v H9) H9 fun v22 H10 =>
 gd v12 true (fun k => opt (load1 v22 H10) fun v => k v H10) H10 fun v23 H11 =>
 gd v12 true (fun k => opt (binInt .eql v21 v23) fun v => k v H11) H11 fun v24 H12 =>
 opt (pick v12 v24 (.bool false)) fun v25 =>
 ifB v25 (
 Q (.int .i64 16) H12) (
 opt (binInt .add t8 (.int .i64 1)) fun v26 =>
 X0 [t0, t3, t7, v26] H12)) (
 mk (buildS 0 5 #[(.int .i64 0), (.int .i64 0), (.int .i64 0), (.int .i64 0), (.int .i64 0)] []) H fun v27 H13 =>
 opt (nilCk t0) fun v28 =>
 opt (addOff v28 2) fun v29 =>
 opt (load1 v29 H13) fun v30 =>
 opt (slSlc 5 v30 none (some t7) none H13) fun v31 =>
 opt (nilCk t0) fun v32 =>
 opt (addOff v32 2) fun v33 =>
 opt (load1 v33 H13) fun v34 =>
 opt (binInt .add t7 (.int .i64 1)) fun v35 =>
 opt (slSlc 5 v34 (some v35) none none H13) fun v36 =>
 opt2 (app 5 40 v27 v31 H13) fun v37 H14 =>
 slSlc 5 v34 (some v35) none none H14 = slSlc 5 v34 (some v35) none none H13 ∧
 load1 v33 H14 = load1 v33 H13 ∧
 opt2 (app 5 40 v37 v36 H14) fun v38 H15 =>
 opt (nilCk t0) fun v39 =>
 opt (addOff v39 2) fun v40 =>
 opt (store1 v40 v38 H15) fun H16 =>
 Q (.int .i64 0) H16)
/-- (*pinfold/pinfoldref16.Tree).Unmount -/
def F.pinfoldref16_Tree_Unmount (E : Sy) (x0 x1 : Value) (H : AH) (Q : Value → AH → Prop) : Prop :=
 mk (boxO x1) H fun v1 H1 =>
 opt (loadN 2 v1 H1) fun v2 =>
 E.call (E.fid i.pinfoldref16_Tree_Down) [x0, v2] H1 fun v3 H2 =>
 opt (ext v3 0) fun v4 =>
 opt (ext v3 1) fun v5 =>
 allocW [(.int .i64 0), (.int .i64 0)] H2 fun v6 H3 =>
 opt (storeN 2 v6 v4 H3) fun H4 =>
 opt (un .not v5) fun v7 =>
 ifB v7 (
 Q (.int .i64 22) H4) (
 opt (addOff v1 0) fun v8 =>
 opt (load1 v8 H4) fun v9 =>
 E.call (E.fid i.pinfoldref16_Tree_find) [x0, v9] H4 fun v10 H5 =>
 opt (nilCk x0) fun v11 =>
 opt (addOff v11 2) fun v12 =>
 opt (load1 v12 H5) fun v13 =>
 opt (ixSlc 5 v13 v10) fun v14 =>
 opt (addOff v14 4) fun v15 =>
 opt (load1 v15 H5) fun v16 =>
 opt (binInt .gtr v16 (.int .i64 0)) fun v17 =>
 ifB v17 (
 Q (.int .i64 16) H5) (
 LoopL (fun l H X0 => F.pinfoldref16_Tree_Unmount_l1 E Q (nth l 0) (nth l 1) (nth l 2) (nth l 3) H X0) [x0, v1, v10, (.int .i64 0)] H5))

/-- (*pinfold/pinfoldref16.Tree).HoldMount -/
def F.pinfoldref16_Tree_HoldMount (E : Sy) (x0 x1 x2 : Value) (H : AH) (Q : Value → AH → Prop) : Prop :=
 E.call (E.fid i.pinfoldref16_Tree_find) [x0, x1] H fun v1 H1 =>
 opt (binInt .lss v1 (.int .i64 0)) fun v2 =>
 ifB v2 (
 Q (.int .i64 2) H1) (
 ifB x2 (
 opt (nilCk x0) fun v3 =>
 opt (addOff v3 2) fun v4 =>
 opt (load1 v4 H1) fun v5 =>
 opt (nilCk x0) fun v6 =>
 opt (addOff v6 2) fun v7 =>
 opt (load1 v7 H1) fun v8 =>
 opt (ixSlc 5 v8 v1) fun v9 =>
 opt (addOff v9 4) fun v10 =>
 opt (load1 v10 H1) fun v11 =>
 opt (binInt .add v11 (.int .i64 1)) fun v12 =>
 opt (ixSlc 5 v5 v1) fun v13 =>
 opt (addOff v13 4) fun v14 =>
 opt (store1 v14 v12 H1) fun H2 =>
 Q (.int .i64 0) H2) (
 opt (nilCk x0) fun v15 =>
 opt (addOff v15 2) fun v16 =>
 opt (load1 v16 H1) fun v17 =>
 opt (ixSlc 5 v17 v1) fun v18 =>
 opt (addOff v18 4) fun v19 =>
 opt (load1 v19 H1) fun v20 =>
 opt (binInt .eql v20 (.int .i64 0)) fun v21 =>
 ifB v21 (
 Q (.int .i64 22) H1) (
 opt (nilCk x0) fun v22 =>
 opt (addOff v22 2) fun v23 =>
 opt (load1 v23 H1) fun v24 =>
 opt (nilCk x0) fun v25 =>
 opt (addOff v25 2) fun v26 =>
 opt (load1 v26 H1) fun v27 =>
 opt (ixSlc 5 v27 v1) fun v28 =>
 opt (addOff v28 4) fun v29 =>
 opt (load1 v29 H1) fun v30 =>
 opt (binInt .sub v30 (.int .i64 1)) fun v31 =>
 opt (ixSlc 5 v24 v1) fun v32 =>
 opt (addOff v32 4) fun v33 =>
 opt (store1 v33 v31 H1) fun H3 =>
 Q (.int .i64 0) H3)))

/-- (*pinfold/mount.Table).Get -/
def F.mount_Table_Get (E : Sy) (x0 x1 : Value) (H : AH) (Q : Value → AH → Prop) : Prop :=
 allocW [(.int .i64 0), (.int .i64 0), (.int .u16 0), (.int .u16 0), (.int .i64 0)] H fun v1 H1 =>
 E.call (E.fid i.mount_Table_find) [x0, x1] H1 fun v2 H2 =>
 opt (binInt .lss v2 (.int .i64 0)) fun v3 =>
 ifB v3 (
 opt (buildV [(0, 1), (1, 2), (3, 1), (4, 1)] #[(.int .i64 0), (.int .i64 0), (.int .u16 0), (.int .u16 0), (.int .i64 0)] []) fun v4 =>
 opt (storeN 5 v1 v4 H2) fun H3 =>
 opt (loadN 5 v1 H3) fun v5 =>
 Q (.tuple #[v5, (.bool false)]) H3) (
 opt (nilCk x0) fun v6 =>
 opt (addOff v6 0) fun v7 =>
 opt (load1 v7 H2) fun v8 =>
 opt (ixSlc 5 v8 v2) fun v9 =>
 opt (loadN 5 v9 H2) fun v10 =>
 opt (storeN 5 v1 v10 H2) fun H4 =>
 opt (loadN 5 v1 H4) fun v11 =>
 Q (.tuple #[v11, (.bool true)]) H4)

/-- (*pinfold/pinfoldref16.Tree).Down -/
def F.pinfoldref16_Tree_Down (E : Sy) (x0 x1 : Value) (H : AH) (Q : Value → AH → Prop) : Prop :=
 mk (boxO x1) H fun v1 H1 =>
 allocW [(.int .i64 0), (.int .i64 0)] H1 fun v2 H2 =>
 opt (addOff v1 0) fun v3 =>
 opt (load1 v3 H2) fun v4 =>
 E.call (E.fid i.pinfoldref16_Tree_find) [x0, v4] H2 fun v5 H3 =>
 opt (binInt .lss v5 (.int .i64 0)) fun v6 =>
 gd v6 false (fun k => opt (addOff v1 0) fun v => k v H3) H3 fun v7 H4 =>
 gd v6 false (fun k => opt (load1 v7 H4) fun v => k v H4) H4 fun v8 H5 =>
 gd v6 false (fun k => opt (binInt .eql v8 (.int .i64 0)) fun v => k v H5) H5 fun v9 H6 =>
 opt (pick v6 (.bool true) v9) fun v10 =>
 gd v10 false (fun k => k x0 H6) H6 fun v11 H7 =>
 gd v10 false (fun k => opt (nilCk v11) fun v => k v H7) H7 fun v12 H8 =>
 gd v10 false (fun k => opt (addOff v12 2) fun v => k v H8) H8 fun v13 H9 =>
 gd v10 false (fun k => opt (load1 v13 H9) fun v => k v H9) H9 fun v14 H10 =>
 gd v10 false (fun k => k v5 H10) H10 fun v15 H11 =>
 gd v10 false (fun k => opt (ixSlc 5 v14 v15) fun v => k v H11) H11 fun v16 H12 =>
 gd v10 false (fun k => opt (addOff v16 1) fun v => k v H12) H12 fun v17 H13 =>
 gd v10 false (fun k => opt (load1 v17 H13) fun v => k v H13) H13 fun v18 H14 =>
 gd v10 false (fun k => opt (addOff v1 1) fun v => k v H14) H14 fun v19 H15 =>
 gd v10 false (fun k => opt (load1 v19 H15) fun v => k v H15) H15 fun v20 H16 =>
 gd v10 false (fun k => opt (binInt .neq v18 v20) fun v => k v H16) H16 fun v21 H17 =>
 opt (pick v10 (.bool true) v21) fun v22 =>
 ifB v22 (
 opt (buildV [(0, 1), (1, 1)] #[(.int .i64 0), (.int .i64 0)] []) fun v23 =>
 opt (storeN 2 v2 v23 H17) fun H18 =>
 opt (loadN 2 v2 H18) fun v24 =>
 Q (.tuple #[v24, (.bool false)]) H18) (
 opt (nilCk x0) fun v25 =>
 opt (addOff v25 2) fun v26 =>
 opt (load1 v26 H17) fun v27 =>
 opt (ixSlc 5 v27 v5) fun v28 =>
 opt (addOff v28 2) fun v29 =>
 opt (loadN 2 v29 H17) fun v30 =>
 opt (storeN 2 v2 v30 H17) fun H19 =>
 opt (loadN 2 v2 H19) fun v31 =>
 Q (.tuple #[v31, (.bool true)]) H19)

def F.pinfoldref16_Tree_Seen_l2 (E : Sy) (Q : Value → AH → Prop) (X0 : List Value → AH → Prop) (t0 t3 t4 t5 t6 t7 : Value) (H : AH) (X1 : List Value → AH → Prop) : Prop :=
 opt (nilCk t0) fun v1 =>
 opt (addOff v1 2) fun v2 =>
 opt (load1 v2 H) fun v3 =>
 opt (lenSlc v3) fun v4 =>
 opt (binInt .lss t7 v4) fun v5 =>
 ifB v5 (
 opt (nilCk t0) fun v6 =>
 opt (addOff v6 2) fun v7 =>
 opt (load1 v7 H) fun v8 =>
 opt (ixSlc 5 v8 t7) fun v9 =>
 opt (addOff v9 0) fun v10 =>
 opt (load1 v10 H) fun v11 =>
 opt (binInt .neq v11 (.int .i64 0)) fun v12 =>
 gd v12 true (fun k => k t0 H) H fun v13 H1 =>
 gd v12 true (fun k => opt (nilCk v13) fun v => k v H1) H1 fun v14 H2 =>
 gd v12 true (fun k => opt (addOff v14 2) fun v => k v H2) H2 fun v15 H3 =>
 gd v12 true (fun k => opt (load1 v15 H3) fun v => k v H3) H3 fun v16 H4 =>
 gd v12 true (fun k => k t7 H4) H4 fun v17 H5 =>
 gd v12 true (fun k => opt (ixSlc 5 v16 v17) fun v => k v H5) H5 fun v18 H6 =>
 gd v12 true (fun k => opt (addOff v18 2) fun v => k v H6) H6 fun v19 H7 =>
 gd v12 true (fun k => opt (loadN 2 v19 H7) fun v => k v H7) H7 fun v20 H8 =>
 gd v12 true (fun k => opt (loadN 2 t3 H8) fun v => k v H8) H8 fun v21 H9 =>
 gd v12 true (fun k => opt (binAgg [0, 0] .eql v20 v21) fun v => k v H9) H9 fun v22 H10 =>
 opt (pick v12 v22 (.bool false)) fun v23 =>
 ifB v23 (
 opt (binInt .add t7 (.int .i64 1)) fun v24 =>
 X1 [t0, t3, t4, t5, t7, v24] H10) (
 opt (binInt .add t7 (.int .i64 1)) fun v25 =>
 X1 [t0, t3, t4, t5, t6, v25] H10)) (
 opt (binInt .lss t6 (.int .i64 0)) fun v26 =>
 ifB v26 (
 opt (loadN 2 t3 H) fun v27 =>
 opt (storeN 2 t4 v27 H) fun H11 =>
 opt (loadN 2 t4 H11) fun v28 =>
 Q v28 H11) (
 opt (nilCk t0) fun v29 =>
 opt (addOff v29 2) fun v30 =>
 opt (load1 v30 H) fun v31 =>
 opt (ixSlc 5 v31 t6) fun v32 =>
 opt (addOff v32 0) fun v33 =>
 opt (load1 v33 H) fun v34 =>
 opt (nilCk t0) fun v35 =>
 opt (addOff v35 2) fun v36 =>
 opt (load1 v36 H) fun v37 =>
 opt (ixSlc 5 v37 t6) fun v38 =>
 opt (addOff v38 1) fun v39 =>
 opt (load1 v39 H) fun v40 =>
 opt (buildV [(0, 1), (1, 1)] #[(.int .i64 0), (.int .i64 0)] [(0, v34), (1, v40)]) fun v41 =>
 opt (storeN 2 t3 v41 H) fun H12 =>
 opt (binInt .add t5 (.int .i64 1)) fun v42 =>
 X0 [t0, t3, t4, v42] H12))
def F.pinfoldref16_Tree_Seen_l1 (E : Sy) (Q : Value → AH → Prop) (t0 t3 t4 t5 : Value) (H : AH) (X0 : List Value → AH → Prop) : Prop :=
 opt (binInt .lss t5 (.int .i64 20)) fun v1 =>
 ifB v1 (
 LoopL (fun l H X1 => F.pinfoldref16_Tree_Seen_l2 E Q X0 (nth l 0) (nth l 1) (nth l 2) (nth l 3) (nth l 4) (nth l 5) H X1) [t0, t3, t4, t5, (.int .i64 (-1)), (.int .i64 0)] H) (
 opt (loadN 2 t3 H) fun v2 =>
 opt (storeN 2 t4 v2 H) fun H1 =>
 opt (loadN 2 t4 H1) fun v3 =>
 Q v3 H1)
/-- (*pinfold/pinfoldref16.Tree).Seen -/
def F.pinfoldref16_Tree_Seen (E : Sy) (x0 x1 : Value) (H : AH) (Q : Value → AH → Prop) : Prop :=
 mk (boxO x1) H fun v1 H1 =>
 allocW [(.int .i64 0), (.int .i64 0)] H1 fun v2 H2 =>
 LoopL (fun l H X0 => F.pinfoldref16_Tree_Seen_l1 E Q (nth l 0) (nth l 1) (nth l 2) (nth l 3) H X0) [x0, v1, v2, (.int .i64 0)] H2

/-- (*pinfold/mount.Table).Used -/
def F.mount_Table_Used (E : Sy) (x0 x1 : Value) (H : AH) (Q : Value → AH → Prop) : Prop :=
 mk (boxO x1) H fun v1 H1 =>
 opt (binNil eqPtr .eql x0 (.pointer none)) fun v2 =>
 ifB v2 (
 Q (.bool false) H1) (
 opt (nilCk x0) fun v3 =>
 opt (addOff v3 0) fun v4 =>
 opt (load1 v4 H1) fun v5 =>
 opt (some (.func (.func (E.fid i.mount_Table_Used_1)) #[] #[v1])) fun v6 =>
 E.call (E.fid i.slices_ContainsFunc_mount_Mount) [v5, v6] H1 fun v7 H2 =>
 Q v7 H2)

def F.pinfoldref16_Tree_Used_l1 (E : Sy) (Q : Value → AH → Prop) (t0 t1 t5 : Value) (H : AH) (X0 : List Value → AH → Prop) : Prop :=
 opt (nilCk t0) fun v1 =>
 opt (addOff v1 2) fun v2 =>
 opt (load1 v2 H) fun v3 =>
 opt (lenSlc v3) fun v4 =>
 opt (binInt .lss t5 v4) fun v5 =>
 ifB v5 (
 opt (nilCk t0) fun v6 =>
 opt (addOff v6 2) fun v7 =>
 opt (load1 v7 H) fun v8 =>
 opt (ixSlc 5 v8 t5) fun v9 =>
 opt (addOff v9 1) fun v10 =>
 opt (load1 v10 H) fun v11 =>
 opt (binInt .eql v11 t1) fun v12 =>
 gd v12 false (fun k => k t0 H) H fun v13 H1 =>
 gd v12 false (fun k => opt (nilCk v13) fun v => k v H1) H1 fun v14 H2 =>
 gd v12 false (fun k => opt (addOff v14 2) fun v => k v H2) H2 fun v15 H3 =>
 gd v12 false (fun k => opt (load1 v15 H3) fun v => k v H3) H3 fun v16 H4 =>
 gd v12 false (fun k => k t5 H4) H4 fun v17 H5 =>
 gd v12 false (fun k => opt (ixSlc 5 v16 v17) fun v => k v H5) H5 fun v18 H6 =>
 gd v12 false (fun k => opt (addOff v18 0) fun v => k v H6) H6 fun v19 H7 =>
 gd v12 false (fun k => opt (load1 v19 H7) fun v => k v H7) H7 fun v20 H8 =>
 gd v12 false (fun k => opt (binInt .neq v20 (.int .i64 0)) fun v => k v H8) H8 fun v21 H9 =>
 gd v12 false (fun k => k v21 H9) H9 fun v22 H10 =>
 gd v22 true (fun k => k t0 H10) H10 fun v23 H11 =>
 gd v22 true (fun k => opt (nilCk v23) fun v => k v H11) H11 fun v24 H12 =>
 gd v22 true (fun k => opt (addOff v24 2) fun v => k v H12) H12 fun v25 H13 =>
 gd v22 true (fun k => opt (load1 v25 H13) fun v => k v H13) H13 fun v26 H14 =>
 gd v22 true (fun k => k t5 H14) H14 fun v27 H15 =>
 gd v22 true (fun k => opt (ixSlc 5 v26 v27) fun v => k v H15) H15 fun v28 H16 =>
 gd v22 true (fun k => opt (addOff v28 2) fun v => k v H16) H16 fun v29 H17 =>
 gd v22 true (fun k => opt (addOff v29 1) fun v => k v H17) H17 fun v30 H18 =>
 gd v22 true (fun k => opt (load1 v30 H18) fun v => k v H18) H18 fun v31 H19 =>
 gd v22 true (fun k => k t1 H19) H19 fun v32 H20 =>
 gd v22 true (fun k => opt (binInt .eql v31 v32) fun v => k v H20) H20 fun v33 H21 =>
 gd v12 false (fun k => opt (pick v22 v33 (.bool false)) fun v => k v H21) H21 fun v34 H22 =>
 opt (pick v12 (.bool true) v34) fun v35 =>
 ifB v35 (
 Q (.bool true) H22) (
 opt (binInt .add t5 (.int .i64 1)) fun v36 =>
 X0 [t0, t1, v36] H22)) (
 Q (.bool false) H)
/-- (*pinfold/pinfoldref16.Tree).Used -/
def F.pinfoldref16_Tree_Used (E : Sy) (x0 x1 : Value) (H : AH) (Q : Value → AH → Prop) : Prop :=
 LoopL (fun l H X0 => F.pinfoldref16_Tree_Used_l1 E Q (nth l 0) (nth l 1) (nth l 2) H X0) [x0, x1, (.int .i64 0)] H

/-- (*pinfold/mount.Table).Seen$1 -/
def F.mount_Table_Seen_1 (E : Sy) (x0 x1 : Value) (H : AH) (Q : Value → AH → Prop) : Prop :=
 mk (boxO x0) H fun v1 H1 =>
 opt (addOff v1 0) fun v2 =>
 opt (load1 v2 H1) fun v3 =>
 opt (binInt .neq v3 (.int .i64 0)) fun v4 =>
 gd v4 true (fun k => opt (addOff v1 1) fun v => k v H1) H1 fun v5 H2 =>
 gd v4 true (fun k => opt (loadN 2 v5 H2) fun v => k v H2) H2 fun v6 H3 =>
 gd v4 true (fun k => opt (loadN 2 x1 H3) fun v => k v H3) H3 fun v7 H4 =>
 gd v4 true (fun k => opt (binAgg [0, 0] .eql v6 v7) fun v => k v H4) H4 fun v8 H5 =>
 opt (pick v4 v8 (.bool false)) fun v9 =>
 Q v9 H5

def F.slices_IndexFunc_mount_Mount_l1 (E : Sy) (Q : Value → AH → Prop) (t0 t1 t7 t8 : Value) (H : AH) (X0 : List Value → AH → Prop) : Prop :=
 opt (binInt .lss t8 t7) fun v1 =>
 ifB v1 (
 opt (ixSlc 5 t0 t8) fun v2 =>
 opt (loadN 5 v2 H) fun v3 =>
 callV E.call t1 [v3] H fun v4 H1 =>
 ifB v4 (
 Q t8 H1) (
 opt (binInt .add t8 (.int .i64 1)) fun v5 =>
 X0 [t0, t1, t7, v5] H1)) (
 Q (.int .i64 (-1)) H)
/-- slices.IndexFunc[[]pinfold/mount.Mount,pinfold/mount.Mount] -/
def F.slices_IndexFunc_mount_Mount (E : Sy) (x0 x1 : Value) (H : AH) (Q : Value → AH → Prop) : Prop :=
 opt (lenSlc x0) fun v1 =>
 LoopL (fun l H X0 => F.slices_IndexFunc_mount_Mount_l1 E Q (nth l 0) (nth l 1) (nth l 2) (nth l 3) H X0) [x0, x1, v1, (.int .i64 0)] H

/-- (*pinfold/mount.Table).find -/
def F.mount_Table_find (E : Sy) (x0 x1 : Value) (H : AH) (Q : Value → AH → Prop) : Prop :=
 mk (boxO x1) H fun v1 H1 =>
 opt (binNil eqPtr .eql x0 (.pointer none)) fun v2 =>
 ifB v2 (
 Q (.int .i64 (-1)) H1) (
 opt (nilCk x0) fun v3 =>
 opt (addOff v3 0) fun v4 =>
 opt (load1 v4 H1) fun v5 =>
 opt (some (.func (.func (E.fid i.mount_Table_find_1)) #[] #[v1])) fun v6 =>
 E.call (E.fid i.slices_IndexFunc_mount_Mount) [v5, v6] H1 fun v7 H2 =>
 Q v7 H2)

/-- slices.Clone[[]pinfold/mount.Mount,pinfold/mount.Mount] -/
def F.slices_Clone_mount_Mount (E : Sy) (x0 : Value) (H : AH) (Q : Value → AH → Prop) : Prop :=
 opt (binNil eqSlc .eql x0 (.slice none 0 0)) fun v1 =>
 ifB v1 (
 Q (.slice none 0 0) H) (
 mk (buildS 0 5 #[(.int .i64 0), (.int .i64 0), (.int .u16 0), (.int .u16 0), (.int .i64 0)] []) H fun v2 H1 =>
 opt2 (app 5 40 v2 x0 H1) fun v3 H2 =>
 Q v3 H2)

/-- (*pinfold/mount.Table).Drop$1 -/
def F.mount_Table_Drop_1 (E : Sy) (x0 x1 : Value) (H : AH) (Q : Value → AH → Prop) : Prop :=
 mk (boxO x0) H fun v1 H1 =>
 opt (addOff v1 0) fun v2 =>
 opt (load1 v2 H1) fun v3 =>
 opt (binInt .neq v3 (.int .i64 0)) fun v4 =>
 gd v4 true (fun k => opt (addOff v1 1) fun v => k v H1) H1 fun v5 H2 =>
 gd v4 true (fun k => opt (addOff v5 0) fun v => k v H2) H2 fun v6 H3 =>
 gd v4 true (fun k => opt (load1 v6 H3) fun v => k v H3) H3 fun v7 H4 =>
 gd v4 true (fun k => opt (addOff x1 0) fun v => k v H4) H4 fun v8 H5 =>
 gd v4 true (fun k => opt (load1 v8 H5) fun v => k v H5) H5 fun v9 H6 =>
 gd v4 true (fun k => opt (binInt .eql v7 v9) fun v => k v H6) H6 fun v10 H7 =>
 opt (pick v4 v10 (.bool false)) fun v11 =>
 Q v11 H7

/-- slices.ContainsFunc[[]pinfold/mount.Mount,pinfold/mount.Mount] -/
def F.slices_ContainsFunc_mount_Mount (E : Sy) (x0 x1 : Value) (H : AH) (Q : Value → AH → Prop) : Prop :=
 E.call (E.fid i.slices_IndexFunc_mount_Mount) [x0, x1] H fun v1 H1 =>
 opt (binInt .geq v1 (.int .i64 0)) fun v2 =>
 Q v2 H1

/-- slices.Delete[[]pinfold/mount.Mount,pinfold/mount.Mount] -/
def F.slices_Delete_mount_Mount (E : Sy) (x0 x1 x2 : Value) (H : AH) (Q : Value → AH → Prop) : Prop :=
 opt (lenSlc x0) fun v1 =>
 opt (slSlc 5 x0 (some x1) (some x2) (some v1) H) fun v2 =>
 opt (binInt .eql x1 x2) fun v3 =>
 ifB v3 (
 Q x0 H) (
 opt (lenSlc x0) fun v4 =>
 opt (slSlc 5 x0 none (some x1) none H) fun v5 =>
 opt (slSlc 5 x0 (some x2) none none H) fun v6 =>
 opt2 (app 5 40 v5 v6 H) fun v7 H1 =>
 opt (lenSlc v7) fun v8 =>
 opt (slSlc 5 v7 (some v8) (some v4) none H1) fun v9 =>
 opt (clearS [(.int .i64 0), (.int .i64 0), (.int .u16 0), (.int .u16 0), (.int .i64 0)] v9 H1) fun H2 =>
 Q v7 H2)

def F.pinfoldref16_Tree_find_l1 (E : Sy) (Q : Value → AH → Prop) (t0 t1 t5 : Value) (H : AH) (X0 : List Value → AH → Prop) : Prop :=
 opt (nilCk t0) fun v1 =>
 opt (addOff v1 2) fun v2 =>
 opt (load1 v2 H) fun v3 =>
 opt (lenSlc v3) fun v4 =>
 opt (binInt .lss t5 v4) fun v5 =>
 ifB v5 (
 opt (nilCk t0) fun v6 =>
 opt (addOff v6 2) fun v7 =>
 opt (load1 v7 H) fun v8 =>
 opt (ixSlc 5 v8 t5) fun v9 =>
 opt (addOff v9 0) fun v10 =>
 opt (load1 v10 H) fun v11 =>
 opt (binInt .eql v11 t1) fun v12 =>
 ifB v12 (
 Q t5 H) (
 opt (binInt .add t5 (.int .i64 1)) fun v13 =>
 X0 [t0, t1, v13] H)) (
 Q (.int .i64 (-1)) H)
/-- (*pinfold/pinfoldref16.Tree).find -/
def F.pinfoldref16_Tree_find (E : Sy) (x0 x1 : Value) (H : AH) (Q : Value → AH → Prop) : Prop :=
 LoopL (fun l H X0 => F.pinfoldref16_Tree_find_l1 E Q (nth l 0) (nth l 1) (nth l 2) H X0) [x0, x1, (.int .i64 0)] H

/-- (*pinfold/mount.Table).Used$1 -/
def F.mount_Table_Used_1 (E : Sy) (x0 x1 : Value) (H : AH) (Q : Value → AH → Prop) : Prop :=
 mk (boxO x0) H fun v1 H1 =>
 opt (addOff v1 3) fun v2 =>
 opt (load1 v2 H1) fun v3 =>
 opt (load1 x1 H1) fun v4 =>
 opt (binInt .eql v3 v4) fun v5 =>
 gd v5 false (fun k => opt (addOff v1 0) fun v => k v H1) H1 fun v6 H2 =>
 gd v5 false (fun k => opt (load1 v6 H2) fun v => k v H2) H2 fun v7 H3 =>
 gd v5 false (fun k => opt (binInt .neq v7 (.int .i64 0)) fun v => k v H3) H3 fun v8 H4 =>
 gd v5 false (fun k => k v8 H4) H4 fun v9 H5 =>
 gd v9 true (fun k => opt (addOff v1 1) fun v => k v H5) H5 fun v10 H6 =>
 gd v9 true (fun k => opt (addOff v10 1) fun v => k v H6) H6 fun v11 H7 =>
 gd v9 true (fun k => opt (load1 v11 H7) fun v => k v H7) H7 fun v12 H8 =>
 gd v9 true (fun k => opt (load1 x1 H8) fun v => k v H8) H8 fun v13 H9 =>
 gd v9 true (fun k => opt (binInt .eql v12 v13) fun v => k v H9) H9 fun v14 H10 =>
 gd v5 false (fun k => opt (pick v9 v14 (.bool false)) fun v => k v H10) H10 fun v15 H11 =>
 opt (pick v5 (.bool true) v15) fun v16 =>
 Q v16 H11

/-- (*pinfold/mount.Table).find$1 -/
def F.mount_Table_find_1 (E : Sy) (x0 x1 : Value) (H : AH) (Q : Value → AH → Prop) : Prop :=
 mk (boxO x0) H fun v1 H1 =>
 opt (addOff v1 0) fun v2 =>
 opt (load1 v2 H1) fun v3 =>
 opt (load1 x1 H1) fun v4 =>
 opt (binInt .eql v3 v4) fun v5 =>
 Q v5 H1
/-- Calls that may be answered by what the functions do. -/
structure Fold (E : Sy) : Prop where
  mono : MonoC E.call
  pinfoldlaw17_MountBack : ∀ (x0 x1 : Value) (H : AH) (Q : Value → AH → Prop), F.pinfoldlaw17_MountBack E x0 x1 H Q → E.call (E.fid i.pinfoldlaw17_MountBack) [x0, x1] H Q
  pinfoldlaw17_MountHeld : ∀ (x0 x1 x2 : Value) (H : AH) (Q : Value → AH → Prop), F.pinfoldlaw17_MountHeld E x0 x1 x2 H Q → E.call (E.fid i.pinfoldlaw17_MountHeld) [x0, x1, x2] H Q
  pinfoldlaw17_MountPlays : ∀ (x0 x1 : Value) (H : AH) (Q : Value → AH → Prop), F.pinfoldlaw17_MountPlays E x0 x1 H Q → E.call (E.fid i.pinfoldlaw17_MountPlays) [x0, x1] H Q
  pinfoldlaw17_Awake : ∀ (H : AH) (Q : Value → AH → Prop), F.pinfoldlaw17_Awake E H Q → E.call (E.fid i.pinfoldlaw17_Awake) [] H Q
  mount_New : ∀ (H : AH) (Q : Value → AH → Prop), F.mount_New E H Q → E.call (E.fid i.mount_New) [] H Q
  mount_Table_Seen : ∀ (x0 x1 : Value) (H : AH) (Q : Value → AH → Prop), F.mount_Table_Seen E x0 x1 H Q → E.call (E.fid i.mount_Table_Seen) [x0, x1] H Q
  mount_Table_Bind : ∀ (x0 x1 x2 : Value) (H : AH) (Q : Value → AH → Prop), F.mount_Table_Bind E x0 x1 x2 H Q → E.call (E.fid i.mount_Table_Bind) [x0, x1, x2] H Q
  mount_Table_List : ∀ (x0 : Value) (H : AH) (Q : Value → AH → Prop), F.mount_Table_List E x0 H Q → E.call (E.fid i.mount_Table_List) [x0] H Q
  mount_Table_Down : ∀ (x0 x1 : Value) (H : AH) (Q : Value → AH → Prop), F.mount_Table_Down E x0 x1 H Q → E.call (E.fid i.mount_Table_Down) [x0, x1] H Q
  mount_Table_Hold : ∀ (x0 x1 x2 : Value) (H : AH) (Q : Value → AH → Prop), F.mount_Table_Hold E x0 x1 x2 H Q → E.call (E.fid i.mount_Table_Hold) [x0, x1, x2] H Q
  mount_Table_Drop : ∀ (x0 x1 : Value) (H : AH) (Q : Value → AH → Prop), F.mount_Table_Drop E x0 x1 H Q → E.call (E.fid i.mount_Table_Drop) [x0, x1] H Q
  mount_Top : ∀ (H : AH) (Q : Value → AH → Prop), F.mount_Top E H Q → E.call (E.fid i.mount_Top) [] H Q
  pinfoldref16_New : ∀ (x0 : Value) (H : AH) (Q : Value → AH → Prop), F.pinfoldref16_New E x0 H Q → E.call (E.fid i.pinfoldref16_New) [x0] H Q
  pinfoldlaw17_Ref : ∀ (x0 : Value) (H : AH) (Q : Value → AH → Prop), F.pinfoldlaw17_Ref E x0 H Q → E.call (E.fid i.pinfoldlaw17_Ref) [x0] H Q
  pinfoldref16_Tree_Bind : ∀ (x0 x1 x2 : Value) (H : AH) (Q : Value → AH → Prop), F.pinfoldref16_Tree_Bind E x0 x1 x2 H Q → E.call (E.fid i.pinfoldref16_Tree_Bind) [x0, x1, x2] H Q
  pinfoldref16_Tree_Unmount : ∀ (x0 x1 : Value) (H : AH) (Q : Value → AH → Prop), F.pinfoldref16_Tree_Unmount E x0 x1 H Q → E.call (E.fid i.pinfoldref16_Tree_Unmount) [x0, x1] H Q
  pinfoldref16_Tree_HoldMount : ∀ (x0 x1 x2 : Value) (H : AH) (Q : Value → AH → Prop), F.pinfoldref16_Tree_HoldMount E x0 x1 x2 H Q → E.call (E.fid i.pinfoldref16_Tree_HoldMount) [x0, x1, x2] H Q
  mount_Table_Get : ∀ (x0 x1 : Value) (H : AH) (Q : Value → AH → Prop), F.mount_Table_Get E x0 x1 H Q → E.call (E.fid i.mount_Table_Get) [x0, x1] H Q
  pinfoldref16_Tree_Down : ∀ (x0 x1 : Value) (H : AH) (Q : Value → AH → Prop), F.pinfoldref16_Tree_Down E x0 x1 H Q → E.call (E.fid i.pinfoldref16_Tree_Down) [x0, x1] H Q
  pinfoldref16_Tree_Seen : ∀ (x0 x1 : Value) (H : AH) (Q : Value → AH → Prop), F.pinfoldref16_Tree_Seen E x0 x1 H Q → E.call (E.fid i.pinfoldref16_Tree_Seen) [x0, x1] H Q
  mount_Table_Used : ∀ (x0 x1 : Value) (H : AH) (Q : Value → AH → Prop), F.mount_Table_Used E x0 x1 H Q → E.call (E.fid i.mount_Table_Used) [x0, x1] H Q
  pinfoldref16_Tree_Used : ∀ (x0 x1 : Value) (H : AH) (Q : Value → AH → Prop), F.pinfoldref16_Tree_Used E x0 x1 H Q → E.call (E.fid i.pinfoldref16_Tree_Used) [x0, x1] H Q
  mount_Table_Seen_1 : ∀ (x0 x1 : Value) (H : AH) (Q : Value → AH → Prop), F.mount_Table_Seen_1 E x0 x1 H Q → E.call (E.fid i.mount_Table_Seen_1) [x0, x1] H Q
  slices_IndexFunc_mount_Mount : ∀ (x0 x1 : Value) (H : AH) (Q : Value → AH → Prop), F.slices_IndexFunc_mount_Mount E x0 x1 H Q → E.call (E.fid i.slices_IndexFunc_mount_Mount) [x0, x1] H Q
  mount_Table_find : ∀ (x0 x1 : Value) (H : AH) (Q : Value → AH → Prop), F.mount_Table_find E x0 x1 H Q → E.call (E.fid i.mount_Table_find) [x0, x1] H Q
  slices_Clone_mount_Mount : ∀ (x0 : Value) (H : AH) (Q : Value → AH → Prop), F.slices_Clone_mount_Mount E x0 H Q → E.call (E.fid i.slices_Clone_mount_Mount) [x0] H Q
  mount_Table_Drop_1 : ∀ (x0 x1 : Value) (H : AH) (Q : Value → AH → Prop), F.mount_Table_Drop_1 E x0 x1 H Q → E.call (E.fid i.mount_Table_Drop_1) [x0, x1] H Q
  slices_ContainsFunc_mount_Mount : ∀ (x0 x1 : Value) (H : AH) (Q : Value → AH → Prop), F.slices_ContainsFunc_mount_Mount E x0 x1 H Q → E.call (E.fid i.slices_ContainsFunc_mount_Mount) [x0, x1] H Q
  slices_Delete_mount_Mount : ∀ (x0 x1 x2 : Value) (H : AH) (Q : Value → AH → Prop), F.slices_Delete_mount_Mount E x0 x1 x2 H Q → E.call (E.fid i.slices_Delete_mount_Mount) [x0, x1, x2] H Q
  pinfoldref16_Tree_find : ∀ (x0 x1 : Value) (H : AH) (Q : Value → AH → Prop), F.pinfoldref16_Tree_find E x0 x1 H Q → E.call (E.fid i.pinfoldref16_Tree_find) [x0, x1] H Q
  mount_Table_Used_1 : ∀ (x0 x1 : Value) (H : AH) (Q : Value → AH → Prop), F.mount_Table_Used_1 E x0 x1 H Q → E.call (E.fid i.mount_Table_Used_1) [x0, x1] H Q
  mount_Table_find_1 : ∀ (x0 x1 : Value) (H : AH) (Q : Value → AH → Prop), F.mount_Table_find_1 E x0 x1 H Q → E.call (E.fid i.mount_Table_find_1) [x0, x1] H Q
end Go.AM
