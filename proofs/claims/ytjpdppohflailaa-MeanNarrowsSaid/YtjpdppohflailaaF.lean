/- THE FUNCTIONS, AS THE ABSTRACT MACHINE SEES THEM: written by program (gen2.py). -/
import Derived.Test.YtjpdppohflailaaAmC
set_option linter.all false
set_option linter.unusedVariables false
namespace Go.AM
def i.pinfoldlaw03_InsnKnown : Nat := 0
def i.pinfoldlaw03_Awake : Nat := 1
def i.insn_Known : Nat := 2
def i.pinfoldref03_Known : Nat := 3
def i.insn_Class : Nat := 4
def i.pinfoldlaw04_RecordOrder : Nat := 5
def i.pinfoldlaw04_Awake : Nat := 6
def i.pinfoldlaw04_RecordOrder_1 : Nat := 7
def i.record_Stronger : Nat := 8
def i.record_Action_Kind : Nat := 9
def i.insn_Load : Nat := 10
def i.insn_Insn_Bytes : Nat := 11
def i.record_Fail : Nat := 12
def i.record_Action_strength : Nat := 13
def i.pinfoldlaw04_RecordActions : Nat := 14
def i.pinfoldref03_Strength : Nat := 15
def i.record_Action_Number : Nat := 16
def i.pinfoldref03_Stronger : Nat := 17
def i.pinfoldlaw03_InsnMakes : Nat := 18
def i.insn_Return : Nat := 19
def i.insn_Skip : Nat := 20
def i.insn_Mask : Nat := 21
def i.insn_If : Nat := 22
def i.pinfoldlaw03_InsnBytes : Nat := 23
def i.pinfoldlaw03_Ref : Nat := 24
def i.pinfoldref03_Bytes : Nat := 25
def i.insn_Of : Nat := 26
def i.insn_Encode : Nat := 27
def i.insn_Decode : Nat := 28
def i.pinfoldlaw03_same : Nat := 29
def i.pinfoldlaw04_RecordBytes : Nat := 30
def i.record_Record_Bytes : Nat := 31
def i.pinfoldlaw04_Ref : Nat := 32
def i.record_Of : Nat := 33
def i.record_Record_Word : Nat := 34
def i.record_put : Nat := 35
def i.pinfoldref03_Of : Nat := 36
def i.record_take : Nat := 37
def i.pinfoldlaw04_RecordHalves : Nat := 38
def i.record_Half : Nat := 39
def i.pinfoldlaw11_MeanSays : Nat := 40
def i.pinfoldlaw11_Awake : Nat := 41
def i.pinfoldlaw09_Few : Nat := 42
def i.pinfoldlaw09_Small_Policy : Nat := 43
def i.pinfoldlaw09_Ref : Nat := 44
def i.pinfoldlaw11_Records : Nat := 45
def i.mean_Matches : Nat := 46
def i.pinfoldlaw11_Ref : Nat := 47
def i.pinfoldref09_Matches : Nat := 48
def i.mean_Holds : Nat := 49
def i.pinfoldref09_Holds : Nat := 50
def i.mean_Says : Nat := 51
def i.pinfoldref09_Says : Nat := 52
def i.pinfoldlaw11_MeanNarrows : Nat := 53
def i.pinfoldlaw09_Cond_Cond : Nat := 54
def i.pinfoldlaw11_MeanAll : Nat := 55
def i.mean_All : Nat := 56
def i.pinfoldref09_All : Nat := 57
def i.pinfoldlaw11_MeanSpeaks : Nat := 58
def i.mean_Speaks : Nat := 59
def i.pinfoldref01_Calls : Nat := 60
def i.pinfoldlaw09_Action : Nat := 61
def i.pinfoldlaw09_Small_Policy_1 : Nat := 62
def i.pinfoldlaw09_Dirs : Nat := 63
def i.pinfoldlaw09_RefCond : Nat := 64
def i.pinfoldlaw09_values : Nat := 65
def F.pinfoldlaw04_RecordOrder_j1 (E : Sy) (Q : Value → AH → Prop) (t0 t1 t5 t6 : Value) (H : AH) : Prop :=
 opt (convInt .i64 t1) fun v1 =>
 opt (lenSlc t0) fun v2 =>
 opt (binInt .rem v1 v2) fun v3 =>
 opt (binInt .eql v3 (.int .i64 0)) fun v4 =>
 ifB v4 (
 Q (.bool true) H) (
 opt (slSlc 1 t0 none (some v3) none H) fun v5 =>
 opt (slSlc 1 t0 (some v3) none none H) fun v6 =>
 callV E.call t5 [v5] H fun v7 H1 =>
 slSlc 1 t0 (some v3) none none H1 = slSlc 1 t0 (some v3) none none H ∧
 callV E.call t5 [v6] H1 fun v8 H2 =>
 E.call (E.fid i.record_Stronger) [v7, v8] H2 fun v9 H3 =>
 opt (binInt .eql v9 t6) fun v10 =>
 Q v10 H3)
def F.pinfoldlaw04_RecordOrder_l1 (E : Sy) (Q : Value → AH → Prop) (t0 t1 t5 t6 t23 t24 t25 : Value) (H : AH) (X0 : List Value → AH → Prop) : Prop :=
 opt (binInt .lss t25 t24) fun v1 =>
 ifB v1 (
 opt (ixSlc 1 t23 t25) fun v2 =>
 opt (load1 v2 H) fun v3 =>
 E.call (E.fid i.record_Stronger) [t6, v3] H fun v4 H1 =>
 opt (binInt .neq v4 t6) fun v5 =>
 ifB v5 (
 Q (.bool false) H1) (
 opt (binInt .eql v3 t6) fun v6 =>
 ifB v6 (
 F.pinfoldlaw04_RecordOrder_j1 E Q t0 t1 t5 t6 H1) (
 opt (ixSlc 1 t0 t25) fun v7 =>
 opt (load1 v7 H1) fun v8 =>
 E.call (E.fid i.record_Action_Kind) [v8] H1 fun v9 H2 =>
 E.call (E.fid i.record_Action_Kind) [t6] H2 fun v10 H3 =>
 opt (binInt .eql v9 v10) fun v11 =>
 ifB v11 (
 Q (.bool false) H3) (
 opt (binInt .add t25 (.int .i64 1)) fun v12 =>
 X0 [t0, t1, t5, t6, t23, t24, v12] H3)))) (
 F.pinfoldlaw04_RecordOrder_j1 E Q t0 t1 t5 t6 H)
/-- pinfold/pinfoldlaw04.RecordOrder -/
def F.pinfoldlaw04_RecordOrder (E : Sy) (x0 x1 : Value) (H : AH) (Q : Value → AH → Prop) : Prop :=
 E.call (E.fid i.pinfoldlaw04_Awake) [] H fun v1 H1 =>
 opt (un .not v1) fun v2 =>
 ifB v2 (
 Q (.bool false) H1) (
 opt (lenSlc x0) fun v3 =>
 opt (binInt .gtr v3 (.int .i64 40)) fun v4 =>
 gd v4 false (fun k => k x0 H1) H1 fun v5 H2 =>
 gd v4 false (fun k => opt (lenSlc v5) fun v => k v H2) H2 fun v6 H3 =>
 gd v4 false (fun k => opt (binInt .eql v6 (.int .i64 0)) fun v => k v H3) H3 fun v7 H4 =>
 opt (pick v4 (.bool true) v7) fun v8 =>
 ifB v8 (
 Q (.bool true) H4) (
 callV E.call (.func (.func (E.fid i.pinfoldlaw04_RecordOrder_1)) #[] #[]) [x0] H4 fun v9 H5 =>
 opt (lenSlc x0) fun v10 =>
 LoopL (fun l H X0 => F.pinfoldlaw04_RecordOrder_l1 E Q (nth l 0) (nth l 1) (nth l 2) (nth l 3) (nth l 4) (nth l 5) (nth l 6) H X0) [x0, x1, (.func (.func (E.fid i.pinfoldlaw04_RecordOrder_1)) #[] #[]), v9, x0, v10, (.int .i64 0)] H5))

def F.pinfoldlaw03_InsnKnown_l1 (E : Sy) (Q : Value → AH → Prop) (t12 t13 t14 : Value) (H : AH) (X0 : List Value → AH → Prop) : Prop :=
 opt (binInt .lss t14 t13) fun v1 =>
 ifB v1 (
 opt (ixSlc 1 t12 t14) fun v2 =>
 opt (load1 v2 H) fun v3 =>
 E.call (E.fid i.insn_Known) [v3] H fun v4 H1 =>
 opt (convInt .i64 v3) fun v5 =>
 E.call (E.fid i.pinfoldref03_Known) [v5] H1 fun v6 H2 =>
 opt (binBool .neq v4 v6) fun v7 =>
 gd v7 false (fun k => k v3 H2) H2 fun v8 H3 =>
 gd v7 false (fun k => E.call (E.fid i.insn_Class) [v8] H3 fun v h => k v h) H3 fun v9 H4 =>
 gd v7 false (fun k => k v3 H4) H4 fun v10 H5 =>
 gd v7 false (fun k => opt (binInt .rem v10 (.int .u16 8)) fun v => k v H5) H5 fun v11 H6 =>
 gd v7 false (fun k => opt (binInt .neq v9 v11) fun v => k v H6) H6 fun v12 H7 =>
 opt (pick v7 (.bool true) v12) fun v13 =>
 ifB v13 (
 Q (.bool false) H7) (
 opt (binInt .add t14 (.int .i64 1)) fun v14 =>
 X0 [t12, t13, v14] H7)) (
 Q (.bool true) H)
/-- pinfold/pinfoldlaw03.InsnKnown -/
def F.pinfoldlaw03_InsnKnown (E : Sy) (x0 x1 : Value) (H : AH) (Q : Value → AH → Prop) : Prop :=
 E.call (E.fid i.pinfoldlaw03_Awake) [] H fun v1 H1 =>
 opt (un .not v1) fun v2 =>
 ifB v2 (
 Q (.bool false) H1) (
 opt (convInt .u16 x1) fun v3 =>
 mk (buildS 2 1 #[(.int .u16 0)] [(0, x0), (1, v3)]) H1 fun v4 H2 =>
 opt (lenSlc v4) fun v5 =>
 LoopL (fun l H X0 => F.pinfoldlaw03_InsnKnown_l1 E Q (nth l 0) (nth l 1) (nth l 2) H X0) [v4, v5, (.int .i64 0)] H2)

def F.pinfoldlaw04_RecordActions_l2 (E : Sy) (Q : Value → AH → Prop) (X0 : List Value → AH → Prop) (t2 t9 t10 t12 t28 t29 t30 t54 t55 t56 : Value) (H : AH) (X1 : List Value → AH → Prop) : Prop :=
 opt (binInt .lss t56 t55) fun v1 =>
 ifB v1 (
 opt (ixSlc 1 t54 t56) fun v2 =>
 opt (load1 v2 H) fun v3 =>
 E.call (E.fid i.record_Stronger) [t12, v3] H fun v4 H1 =>
 E.call (E.fid i.pinfoldref03_Stronger) [t12, v3] H1 fun v5 H2 =>
 opt (binInt .neq v4 v5) fun v6 =>
 ifB v6 (
 Q (.bool false) H2) (
 opt (binInt .add t56 (.int .i64 1)) fun v7 =>
 X1 [t2, t9, t10, t12, t28, t29, t30, t54, t55, v7] H2)) (
 opt (binInt .add t30 (.int .i64 1)) fun v8 =>
 X0 [t2, t9, t10, t28, t29, v8] H)
def F.pinfoldlaw04_RecordActions_j1 (E : Sy) (Q : Value → AH → Prop) (X0 : List Value → AH → Prop) (t2 t9 t10 t12 t13 t14 t28 t29 t30 : Value) (H : AH) : Prop :=
 opt (ixSlc 1 t10 t13) fun v1 =>
 opt (load1 v1 H) fun v2 =>
 E.call (E.fid i.record_Action_Kind) [t12] H fun v3 H1 =>
 load1 v1 H1 = load1 v1 H ∧
 opt (binInt .neq v3 v2) fun v4 =>
 gd v4 false (fun k => k t12 H1) H1 fun v5 H2 =>
 gd v4 false (fun k => k t14 H2) H2 fun v6 H3 =>
 gd v4 false (fun k => E.call (E.fid i.record_Action_Number) [v5] H3 fun v h => k v h) H3 fun v7 H4 =>
 gd v4 false (fun k => opt (binInt .neq v7 v6) fun v => k v H4) H4 fun v8 H5 =>
 opt (pick v4 (.bool true) v8) fun v9 =>
 ifB v9 (
 Q (.bool false) H5) (
 opt (lenSlc t9) fun v10 =>
 LoopL (fun l H X1 => F.pinfoldlaw04_RecordActions_l2 E Q X0 (nth l 0) (nth l 1) (nth l 2) (nth l 3) (nth l 4) (nth l 5) (nth l 6) (nth l 7) (nth l 8) (nth l 9) H X1) [t2, t9, t10, t12, t28, t29, t30, t9, v10, (.int .i64 0)] H5)
def F.pinfoldlaw04_RecordActions_l1 (E : Sy) (Q : Value → AH → Prop) (t2 t9 t10 t28 t29 t30 : Value) (H : AH) (X0 : List Value → AH → Prop) : Prop :=
 opt (binInt .lss t30 t29) fun v1 =>
 ifB v1 (
 opt (ixSlc 1 t28 t30) fun v2 =>
 opt (load1 v2 H) fun v3 =>
 E.call (E.fid i.pinfoldref03_Strength) [v3] H fun v4 H1 =>
 opt (binInt .eql v4 (.int .i64 2)) fun v5 =>
 ifB v5 (
 opt (binInt .and v3 (.int .u32 65535)) fun v6 =>
 opt (convInt .i64 v6) fun v7 =>
 F.pinfoldlaw04_RecordActions_j1 E Q X0 t2 t9 t10 v3 v4 v7 t28 t29 t30 H1) (
 F.pinfoldlaw04_RecordActions_j1 E Q X0 t2 t9 t10 v3 v4 (.int .i64 0) t28 t29 t30 H1)) (
 E.call (E.fid i.record_Fail) [t2] H fun v8 H2 =>
 opt (fold2 max2 [t2, (.int .i64 0)]) fun v9 =>
 opt (fold2 min2 [v9, (.int .i64 4095)]) fun v10 =>
 opt (convInt .u32 v10) fun v11 =>
 opt (binInt .or (.int .u32 327680) v11) fun v12 =>
 opt (binInt .eql v8 v12) fun v13 =>
 Q v13 H2)
/-- pinfold/pinfoldlaw04.RecordActions -/
def F.pinfoldlaw04_RecordActions (E : Sy) (x0 x1 x2 x3 : Value) (H : AH) (Q : Value → AH → Prop) : Prop :=
 E.call (E.fid i.pinfoldlaw04_Awake) [] H fun v1 H1 =>
 opt (un .not v1) fun v2 =>
 ifB v2 (
 Q (.bool false) H1) (
 E.call (E.fid i.record_Fail) [x2] H1 fun v3 H2 =>
 opt (convInt .u32 x3) fun v4 =>
 opt (binInt .or (.int .u32 327680) v4) fun v5 =>
 mk (buildS 7 1 #[(.int .u32 0)] [(0, x0), (1, x1), (2, (.int .u32 2147483648)), (3, (.int .u32 2147221504)), (4, (.int .u32 2147418112)), (5, v3), (6, v5)]) H2 fun v6 H3 =>
 mk (buildS 4 1 #[(.int .u32 0)] [(0, (.int .u32 2147418112)), (1, (.int .u32 2147221504)), (2, (.int .u32 327680)), (3, (.int .u32 2147483648))]) H3 fun v7 H4 =>
 opt (lenSlc v6) fun v8 =>
 LoopL (fun l H X0 => F.pinfoldlaw04_RecordActions_l1 E Q (nth l 0) (nth l 1) (nth l 2) (nth l 3) (nth l 4) (nth l 5) H X0) [x2, v6, v7, v6, v8, (.int .i64 0)] H4)

/-- pinfold/pinfoldlaw03.InsnMakes -/
def F.pinfoldlaw03_InsnMakes (E : Sy) (x0 x1 x2 x3 : Value) (H : AH) (Q : Value → AH → Prop) : Prop :=
 E.call (E.fid i.pinfoldlaw03_Awake) [] H fun v1 H1 =>
 opt (un .not v1) fun v2 =>
 ifB v2 (
 Q (.bool false) H1) (
 mk (buildS 4 1 #[(.int .u16 0)] [(0, (.int .u16 16)), (1, (.int .u16 32)), (2, (.int .u16 48)), (3, (.int .u16 64))]) H1 fun v3 H2 =>
 opt (binInt .rem x3 (.int .u8 4)) fun v4 =>
 opt (ixSlc 1 v3 v4) fun v5 =>
 opt (load1 v5 H2) fun v6 =>
 E.call (E.fid i.insn_Load) [x0] H2 fun v7 H3 =>
 opt (buildV [(0, 1), (1, 1), (2, 1), (3, 1)] #[(.int .u16 0), (.int .u8 0), (.int .u8 0), (.int .u32 0)] [(0, (.int .u16 32)), (3, x0)]) fun v8 =>
 opt (binAgg [0, 0, 0, 0] .eql v7 v8) fun v9 =>
 gd v9 true (fun k => k x0 H3) H3 fun v10 H4 =>
 gd v9 true (fun k => E.call (E.fid i.insn_Return) [v10] H4 fun v h => k v h) H4 fun v11 H5 =>
 gd v9 true (fun k => k x0 H5) H5 fun v12 H6 =>
 gd v9 true (fun k => opt (buildV [(0, 1), (1, 1), (2, 1), (3, 1)] #[(.int .u16 0), (.int .u8 0), (.int .u8 0), (.int .u32 0)] [(0, (.int .u16 6)), (3, v12)]) fun v => k v H6) H6 fun v13 H7 =>
 gd v9 true (fun k => opt (binAgg [0, 0, 0, 0] .eql v11 v13) fun v => k v H7) H7 fun v14 H8 =>
 opt (pick v9 v14 (.bool false)) fun v15 =>
 gd v15 true (fun k => k x0 H8) H8 fun v16 H9 =>
 gd v15 true (fun k => E.call (E.fid i.insn_Skip) [v16] H9 fun v h => k v h) H9 fun v17 H10 =>
 gd v15 true (fun k => k x0 H10) H10 fun v18 H11 =>
 gd v15 true (fun k => opt (buildV [(0, 1), (1, 1), (2, 1), (3, 1)] #[(.int .u16 0), (.int .u8 0), (.int .u8 0), (.int .u32 0)] [(0, (.int .u16 5)), (3, v18)]) fun v => k v H11) H11 fun v19 H12 =>
 gd v15 true (fun k => opt (binAgg [0, 0, 0, 0] .eql v17 v19) fun v => k v H12) H12 fun v20 H13 =>
 opt (pick v15 v20 (.bool false)) fun v21 =>
 gd v21 true (fun k => k x0 H13) H13 fun v22 H14 =>
 gd v21 true (fun k => E.call (E.fid i.insn_Mask) [v22] H14 fun v h => k v h) H14 fun v23 H15 =>
 gd v21 true (fun k => k x0 H15) H15 fun v24 H16 =>
 gd v21 true (fun k => opt (buildV [(0, 1), (1, 1), (2, 1), (3, 1)] #[(.int .u16 0), (.int .u8 0), (.int .u8 0), (.int .u32 0)] [(0, (.int .u16 84)), (3, v24)]) fun v => k v H16) H16 fun v25 H17 =>
 gd v21 true (fun k => opt (binAgg [0, 0, 0, 0] .eql v23 v25) fun v => k v H17) H17 fun v26 H18 =>
 opt (pick v21 v26 (.bool false)) fun v27 =>
 gd v27 true (fun k => k v6 H18) H18 fun v28 H19 =>
 gd v27 true (fun k => k x0 H19) H19 fun v29 H20 =>
 gd v27 true (fun k => k x1 H20) H20 fun v30 H21 =>
 gd v27 true (fun k => k x2 H21) H21 fun v31 H22 =>
 gd v27 true (fun k => E.call (E.fid i.insn_If) [v28, v29, v30, v31] H22 fun v h => k v h) H22 fun v32 H23 =>
 gd v27 true (fun k => k x3 H23) H23 fun v33 H24 =>
 gd v27 true (fun k => opt (binInt .rem v33 (.int .u8 4)) fun v => k v H24) H24 fun v34 H25 =>
 gd v27 true (fun k => opt (convInt .u16 v34) fun v => k v H25) H25 fun v35 H26 =>
 gd v27 true (fun k => opt (binInt .add (.int .u16 1) v35) fun v => k v H26) H26 fun v36 H27 =>
 gd v27 true (fun k => opt (binInt .mul (.int .u16 16) v36) fun v => k v H27) H27 fun v37 H28 =>
 gd v27 true (fun k => opt (binInt .add (.int .u16 5) v37) fun v => k v H28) H28 fun v38 H29 =>
 gd v27 true (fun k => k x1 H29) H29 fun v39 H30 =>
 gd v27 true (fun k => k x2 H30) H30 fun v40 H31 =>
 gd v27 true (fun k => k x0 H31) H31 fun v41 H32 =>
 gd v27 true (fun k => opt (buildV [(0, 1), (1, 1), (2, 1), (3, 1)] #[(.int .u16 0), (.int .u8 0), (.int .u8 0), (.int .u32 0)] [(0, v38), (1, v39), (2, v40), (3, v41)]) fun v => k v H32) H32 fun v42 H33 =>
 gd v27 true (fun k => opt (binAgg [0, 0, 0, 0] .eql v32 v42) fun v => k v H33) H33 fun v43 H34 =>
 opt (pick v27 v43 (.bool false)) fun v44 =>
 Q v44 H34)

def F.pinfoldlaw03_InsnBytes_l1 (E : Sy) (Q : Value → AH → Prop) (t0 t1 t2 t7 t28 t29 t30 : Value) (H : AH) (X0 : List Value → AH → Prop) : Prop :=
 opt (binInt .lss t30 t29) fun v1 =>
 ifB v1 (
 opt (ixSlc 4 t28 t30) fun v2 =>
 opt (loadN 4 v2 H) fun v3 =>
 allocW [(.int .u16 0), (.int .u8 0), (.int .u8 0), (.int .u32 0)] H fun v4 H1 =>
 opt (storeN 4 v4 v3 H1) fun H2 =>
 opt (loadN 4 v4 H2) fun v5 =>
 E.call (E.fid i.insn_Insn_Bytes) [v5] H2 fun v6 H3 =>
 allocW (zs 8 (.int .u8 0)) H3 fun v7 H4 =>
 opt (storeN 8 v7 v6 H4) fun H5 =>
 opt (slArr 8 1 v7 none none none) fun v8 =>
 opt (strOf v8 H5) fun v9 =>
 opt (loadN 4 v4 H5) fun v10 =>
 E.call (E.fid i.pinfoldlaw03_Ref) [v10] H5 fun v11 H6 =>
 strOf v8 H6 = strOf v8 H5 ∧
 E.call (E.fid i.pinfoldref03_Bytes) [v11] H6 fun v12 H7 =>
 strOf v8 H7 = strOf v8 H5 ∧
 opt (strOf v12 H7) fun v13 =>
 opt (binStr .neq v9 v13) fun v14 =>
 gd v14 false (fun k => opt (loadN 8 v7 H7) fun v => k v H7) H7 fun v15 H8 =>
 gd v14 false (fun k => opt (loadN 4 v4 H8) fun v => k v H8) H8 fun v16 H9 =>
 gd v14 false (fun k => E.call (E.fid i.insn_Of) [v15] H9 fun v h => k v h) H9 fun v17 H10 =>
 gdC v14 false (loadN 4 v4 H10 = loadN 4 v4 H8) ∧
 gd v14 false (fun k => opt (binAgg [0, 0, 0, 0] .neq v17 v16) fun v => k v H10) H10 fun v18 H11 =>
 opt (pick v14 (.bool true) v18) fun v19 =>
 ifB v19 (
 Q (.bool false) H11) (
 opt (slArr 8 1 v7 none none none) fun v20 =>
 opt2 (app 1 1 t7 v20 H11) fun v21 H12 =>
 opt (binInt .add t30 (.int .i64 1)) fun v22 =>
 X0 [t0, t1, t2, v21, t28, t29, v22] H12)) (
 E.call (E.fid i.insn_Encode) [t0] H fun v23 H13 =>
 E.call (E.fid i.insn_Decode) [v23] H13 fun v24 H14 =>
 opt (ext v24 0) fun v25 =>
 opt (ext v24 1) fun v26 =>
 E.call (E.fid i.insn_Decode) [t1] H14 fun v27 H15 =>
 opt (ext v27 0) fun v28 =>
 opt (ext v27 1) fun v29 =>
 opt (strOf v23 H15) fun v30 =>
 opt (strOf t7 H15) fun v31 =>
 opt (binStr .neq v30 v31) fun v32 =>
 gd v32 false (fun k => k v26 H15) H15 fun v33 H16 =>
 gd v32 false (fun k => opt (binInt .neq v33 (.int .i64 0)) fun v => k v H16) H16 fun v34 H17 =>
 opt (pick v32 (.bool true) v34) fun v35 =>
 gd v35 false (fun k => k v25 H17) H17 fun v36 H18 =>
 gd v35 false (fun k => k t0 H18) H18 fun v37 H19 =>
 gd v35 false (fun k => E.call (E.fid i.pinfoldlaw03_same) [v36, v37] H19 fun v h => k v h) H19 fun v38 H20 =>
 gd v35 false (fun k => opt (un .not v38) fun v => k v H20) H20 fun v39 H21 =>
 opt (pick v35 (.bool true) v39) fun v40 =>
 gd v40 false (fun k => k v29 H21) H21 fun v41 H22 =>
 gd v40 false (fun k => opt (binInt .eql v41 (.int .i64 0)) fun v => k v H22) H22 fun v42 H23 =>
 gd v40 false (fun k => k t1 H23) H23 fun v43 H24 =>
 gd v40 false (fun k => opt (lenSlc v43) fun v => k v H24) H24 fun v44 H25 =>
 gd v40 false (fun k => opt (binInt .rem v44 (.int .i64 8)) fun v => k v H25) H25 fun v45 H26 =>
 gd v40 false (fun k => opt (binInt .eql v45 (.int .i64 0)) fun v => k v H26) H26 fun v46 H27 =>
 gd v40 false (fun k => opt (binBool .neq v42 v46) fun v => k v H27) H27 fun v47 H28 =>
 opt (pick v40 (.bool true) v47) fun v48 =>
 gd v48 false (fun k => k v29 H28) H28 fun v49 H29 =>
 gd v48 false (fun k => opt (binInt .eql v49 (.int .i64 0)) fun v => k v H29) H29 fun v50 H30 =>
 gd v48 false (fun k => k v50 H30) H30 fun v51 H31 =>
 gd v51 true (fun k => k v28 H31) H31 fun v52 H32 =>
 gd v51 true (fun k => k t1 H32) H32 fun v53 H33 =>
 gd v51 true (fun k => opt (strOf v53 H33) fun v => k v H33) H33 fun v54 H34 =>
 gd v51 true (fun k => E.call (E.fid i.insn_Encode) [v52] H34 fun v h => k v h) H34 fun v55 H35 =>
 gdC v51 true (strOf v53 H35 = strOf v53 H33) ∧
 gd v51 true (fun k => opt (strOf v55 H35) fun v => k v H35) H35 fun v56 H36 =>
 gd v51 true (fun k => opt (binStr .neq v56 v54) fun v => k v H36) H36 fun v57 H37 =>
 gd v48 false (fun k => opt (pick v51 v57 (.bool false)) fun v => k v H37) H37 fun v58 H38 =>
 opt (pick v48 (.bool true) v58) fun v59 =>
 gd v59 false (fun k => k v29 H38) H38 fun v60 H39 =>
 gd v59 false (fun k => opt (binInt .neq v60 (.int .i64 0)) fun v => k v H39) H39 fun v61 H40 =>
 gd v59 false (fun k => k v61 H40) H40 fun v62 H41 =>
 gd v62 true (fun k => k v29 H41) H41 fun v63 H42 =>
 gd v62 true (fun k => opt (binInt .neq v63 (.int .i64 203)) fun v => k v H42) H42 fun v64 H43 =>
 gd v62 true (fun k => k v64 H43) H43 fun v65 H44 =>
 gd v65 false (fun k => k v28 H44) H44 fun v66 H45 =>
 gd v65 false (fun k => opt (lenSlc v66) fun v => k v H45) H45 fun v67 H46 =>
 gd v65 false (fun k => opt (binInt .gtr v67 (.int .i64 0)) fun v => k v H46) H46 fun v68 H47 =>
 gd v62 true (fun k => opt (pick v65 (.bool true) v68) fun v => k v H47) H47 fun v69 H48 =>
 gd v59 false (fun k => opt (pick v62 v69 (.bool false)) fun v => k v H48) H48 fun v70 H49 =>
 opt (pick v59 (.bool true) v70) fun v71 =>
 ifB v71 (
 Q (.bool false) H49) (
 opt (binInt .rem t2 (.int .u8 12)) fun v72 =>
 opt (convInt .i64 v72) fun v73 =>
 opt (binInt .add (.int .i64 4090) v73) fun v74 =>
 opt (binInt .mul (.int .i64 8) v74) fun v75 =>
 mk (makeS 1 1 #[(.int .u8 0)] v75 v75) H49 fun v76 H50 =>
 E.call (E.fid i.insn_Decode) [v76] H50 fun v77 H51 =>
 opt (ext v77 0) fun v78 =>
 opt (ext v77 1) fun v79 =>
 opt (binInt .eql v79 (.int .i64 0)) fun v80 =>
 opt (binInt .rem t2 (.int .u8 12)) fun v81 =>
 opt (binInt .leq v81 (.int .u8 6)) fun v82 =>
 opt (binBool .eql v80 v82) fun v83 =>
 gd v83 true (fun k => k v79 H51) H51 fun v84 H52 =>
 gd v83 true (fun k => opt (binInt .eql v84 (.int .i64 0)) fun v => k v H52) H52 fun v85 H53 =>
 gd v83 true (fun k => k v85 H53) H53 fun v86 H54 =>
 gd v86 false (fun k => k v79 H54) H54 fun v87 H55 =>
 gd v86 false (fun k => opt (binInt .eql v87 (.int .i64 205)) fun v => k v H55) H55 fun v88 H56 =>
 gd v83 true (fun k => opt (pick v86 (.bool true) v88) fun v => k v H56) H56 fun v89 H57 =>
 opt (pick v83 v89 (.bool false)) fun v90 =>
 Q v90 H57))
/-- pinfold/pinfoldlaw03.InsnBytes -/
def F.pinfoldlaw03_InsnBytes (E : Sy) (x0 x1 x2 : Value) (H : AH) (Q : Value → AH → Prop) : Prop :=
 E.call (E.fid i.pinfoldlaw03_Awake) [] H fun v1 H1 =>
 opt (un .not v1) fun v2 =>
 ifB v2 (
 Q (.bool false) H1) (
 opt (lenSlc x0) fun v3 =>
 opt (binInt .gtr v3 (.int .i64 200)) fun v4 =>
 gd v4 false (fun k => k x1 H1) H1 fun v5 H2 =>
 gd v4 false (fun k => opt (lenSlc v5) fun v => k v H2) H2 fun v6 H3 =>
 gd v4 false (fun k => opt (binInt .gtr v6 (.int .i64 400)) fun v => k v H3) H3 fun v7 H4 =>
 opt (pick v4 (.bool true) v7) fun v8 =>
 ifB v8 (
 Q (.bool true) H4) (
 opt (lenSlc x0) fun v9 =>
 LoopL (fun l H X0 => F.pinfoldlaw03_InsnBytes_l1 E Q (nth l 0) (nth l 1) (nth l 2) (nth l 3) (nth l 4) (nth l 5) (nth l 6) H X0) [x0, x1, x2, (.slice none 0 0), x0, v9, (.int .i64 0)] H4))

def F.pinfoldlaw04_RecordBytes_l1 (E : Sy) (Q : Value → AH → Prop) (t2 t3 t7 t8 t33 : Value) (H : AH) (X0 : List Value → AH → Prop) : Prop :=
 opt (binInt .lss t33 (.int .i64 16)) fun v1 =>
 ifB v1 (
 opt (binInt .mul (.int .i64 4) t33) fun v2 =>
 opt (ixArr 64 1 t7 v2) fun v3 =>
 opt (load1 v3 H) fun v4 =>
 opt (convInt .u32 v4) fun v5 =>
 opt (binInt .mul (.int .i64 4) t33) fun v6 =>
 opt (binInt .add v6 (.int .i64 1)) fun v7 =>
 opt (ixArr 64 1 t7 v7) fun v8 =>
 opt (load1 v8 H) fun v9 =>
 opt (convInt .u32 v9) fun v10 =>
 opt (binInt .shl v10 (.int .u64 8)) fun v11 =>
 opt (binInt .or v5 v11) fun v12 =>
 opt (binInt .mul (.int .i64 4) t33) fun v13 =>
 opt (binInt .add v13 (.int .i64 2)) fun v14 =>
 opt (ixArr 64 1 t7 v14) fun v15 =>
 opt (load1 v15 H) fun v16 =>
 opt (convInt .u32 v16) fun v17 =>
 opt (binInt .shl v17 (.int .u64 16)) fun v18 =>
 opt (binInt .or v12 v18) fun v19 =>
 opt (binInt .mul (.int .i64 4) t33) fun v20 =>
 opt (binInt .add v20 (.int .i64 3)) fun v21 =>
 opt (ixArr 64 1 t7 v21) fun v22 =>
 opt (load1 v22 H) fun v23 =>
 opt (convInt .u32 v23) fun v24 =>
 opt (binInt .shl v24 (.int .u64 24)) fun v25 =>
 opt (binInt .or v19 v25) fun v26 =>
 opt (loadN 9 t3 H) fun v27 =>
 opt (binInt .mul (.int .i64 4) t33) fun v28 =>
 opt (convInt .u32 v28) fun v29 =>
 E.call (E.fid i.record_Record_Word) [v27, v29] H fun v30 H1 =>
 opt (ext v30 0) fun v31 =>
 opt (ext v30 1) fun v32 =>
 opt (ixArr 16 1 t8 t33) fun v33 =>
 opt (load1 v33 H1) fun v34 =>
 opt (binInt .neq v26 v34) fun v35 =>
 gd v35 false (fun k => k v32 H1) H1 fun v36 H2 =>
 gd v35 false (fun k => opt (un .not v36) fun v => k v H2) H2 fun v37 H3 =>
 opt (pick v35 (.bool true) v37) fun v38 =>
 gd v38 false (fun k => k v31 H3) H3 fun v39 H4 =>
 gd v38 false (fun k => k t33 H4) H4 fun v40 H5 =>
 gd v38 false (fun k => opt (ixArr 16 1 t8 v40) fun v => k v H5) H5 fun v41 H6 =>
 gd v38 false (fun k => opt (load1 v41 H6) fun v => k v H6) H6 fun v42 H7 =>
 gd v38 false (fun k => opt (binInt .neq v39 v42) fun v => k v H7) H7 fun v43 H8 =>
 opt (pick v38 (.bool true) v43) fun v44 =>
 ifB v44 (
 Q (.bool false) H8) (
 opt (binInt .add t33 (.int .i64 1)) fun v45 =>
 X0 [t2, t3, t7, t8, v45] H8)) (
 opt (loadN 9 t3 H) fun v46 =>
 E.call (E.fid i.record_Record_Word) [v46, t2] H fun v47 H9 =>
 opt (ext v47 0) fun v48 =>
 opt (ext v47 1) fun v49 =>
 opt (binInt .rem t2 (.int .u32 4)) fun v50 =>
 opt (binInt .eql v50 (.int .u32 0)) fun v51 =>
 gd v51 true (fun k => k t2 H9) H9 fun v52 H10 =>
 gd v51 true (fun k => opt (binInt .leq v52 (.int .u32 60)) fun v => k v H10) H10 fun v53 H11 =>
 opt (pick v51 v53 (.bool false)) fun v54 =>
 opt (binBool .eql v49 v54) fun v55 =>
 gd v55 true (fun k => k v54 H11) H11 fun v56 H12 =>
 gd v55 true (fun k => k v56 H12) H12 fun v57 H13 =>
 gd v57 false (fun k => k v48 H13) H13 fun v58 H14 =>
 gd v57 false (fun k => opt (binInt .eql v58 (.int .u32 0)) fun v => k v H14) H14 fun v59 H15 =>
 gd v55 true (fun k => opt (pick v57 (.bool true) v59) fun v => k v H15) H15 fun v60 H16 =>
 opt (pick v55 v60 (.bool false)) fun v61 =>
 Q v61 H16)
/-- pinfold/pinfoldlaw04.RecordBytes -/
def F.pinfoldlaw04_RecordBytes (E : Sy) (x0 x1 x2 : Value) (H : AH) (Q : Value → AH → Prop) : Prop :=
 mk (boxO x0) H fun v1 H1 =>
 mk (boxO x1) H1 fun v2 H2 =>
 E.call (E.fid i.pinfoldlaw04_Awake) [] H2 fun v3 H3 =>
 opt (un .not v3) fun v4 =>
 ifB v4 (
 Q (.bool false) H3) (
 opt (loadN 9 v1 H3) fun v5 =>
 E.call (E.fid i.record_Record_Bytes) [v5] H3 fun v6 H4 =>
 allocW (zs 64 (.int .u8 0)) H4 fun v7 H5 =>
 opt (storeN 64 v7 v6 H5) fun H6 =>
 opt (loadN 9 v1 H6) fun v8 =>
 E.call (E.fid i.pinfoldlaw04_Ref) [v8] H6 fun v9 H7 =>
 allocW (zs 16 (.int .u32 0)) H7 fun v10 H8 =>
 opt (storeN 16 v10 v9 H8) fun H9 =>
 opt (loadN 64 v7 H9) fun v11 =>
 opt (loadN 9 v1 H9) fun v12 =>
 E.call (E.fid i.record_Of) [v11] H9 fun v13 H10 =>
 loadN 9 v1 H10 = loadN 9 v1 H9 ∧
 opt (binAgg (List.replicate 9 0) .neq v13 v12) fun v14 =>
 gd v14 false (fun k => opt (loadN 64 v2 H10) fun v => k v H10) H10 fun v15 H11 =>
 gd v14 false (fun k => opt (loadN 64 v2 H11) fun v => k v H11) H11 fun v16 H12 =>
 gd v14 false (fun k => E.call (E.fid i.record_Of) [v15] H12 fun v h => k v h) H12 fun v17 H13 =>
 gdC v14 false (loadN 64 v2 H13 = loadN 64 v2 H11) ∧
 gd v14 false (fun k => E.call (E.fid i.record_Record_Bytes) [v17] H13 fun v h => k v h) H13 fun v18 H14 =>
 gdC v14 false (loadN 64 v2 H14 = loadN 64 v2 H11) ∧
 gd v14 false (fun k => opt (binAgg (List.replicate 64 0) .neq v18 v16) fun v => k v H14) H14 fun v19 H15 =>
 opt (pick v14 (.bool true) v19) fun v20 =>
 ifB v20 (
 Q (.bool false) H15) (
 LoopL (fun l H X0 => F.pinfoldlaw04_RecordBytes_l1 E Q (nth l 0) (nth l 1) (nth l 2) (nth l 3) (nth l 4) H X0) [x2, v1, v7, v10, (.int .i64 0)] H15))

/-- pinfold/pinfoldlaw04.RecordHalves -/
def F.pinfoldlaw04_RecordHalves (E : Sy) (x0 x1 : Value) (H : AH) (Q : Value → AH → Prop) : Prop :=
 mk (boxO x0) H fun v1 H1 =>
 E.call (E.fid i.pinfoldlaw04_Awake) [] H1 fun v2 H2 =>
 opt (un .not v2) fun v3 =>
 ifB v3 (
 Q (.bool false) H2) (
 opt (fold2 max2 [x1, (.int .i64 0)]) fun v4 =>
 opt (fold2 min2 [v4, (.int .i64 5)]) fun v5 =>
 opt (loadN 9 v1 H2) fun v6 =>
 E.call (E.fid i.record_Half) [x1, (.bool false)] H2 fun v7 H3 =>
 loadN 9 v1 H3 = loadN 9 v1 H2 ∧
 E.call (E.fid i.record_Record_Word) [v6, v7] H3 fun v8 H4 =>
 opt (ext v8 0) fun v9 =>
 opt (ext v8 1) fun v10 =>
 opt (loadN 9 v1 H4) fun v11 =>
 E.call (E.fid i.record_Half) [x1, (.bool true)] H4 fun v12 H5 =>
 loadN 9 v1 H5 = loadN 9 v1 H4 ∧
 E.call (E.fid i.record_Record_Word) [v11, v12] H5 fun v13 H6 =>
 opt (ext v13 0) fun v14 =>
 opt (ext v13 1) fun v15 =>
 opt (addOff v1 3) fun v16 =>
 opt (ixArr 6 1 v16 v5) fun v17 =>
 opt (load1 v17 H6) fun v18 =>
 opt (convInt .u64 v14) fun v19 =>
 opt (binInt .shl v19 (.int .u64 32)) fun v20 =>
 opt (convInt .u64 v9) fun v21 =>
 opt (binInt .or v20 v21) fun v22 =>
 opt (binInt .eql v18 v22) fun v23 =>
 Q v23 H6)

def F.pinfoldlaw11_MeanSays_l4 (E : Sy) (Q : Value → AH → Prop) (X0 X1 X2 : List Value → AH → Prop) (t2 t3 t10 t11 t13 t14 t31 t32 t33 t42 t43 t44 t49 t50 t51 t69 t70 t71 : Value) (H : AH) (X3 : List Value → AH → Prop) : Prop :=
 opt (binInt .lss t71 t70) fun v1 =>
 ifB v1 (
 opt (ixSlc 4 t69 t71) fun v2 =>
 opt (loadN 4 v2 H) fun v3 =>
 allocW [(.int .i64 0), (.int .u8 0), (.int .u64 0), (.int .u64 0)] H fun v4 H1 =>
 opt (storeN 4 v4 v3 H1) fun H2 =>
 opt (loadN 4 v4 H2) fun v5 =>
 opt (loadN 9 t13 H2) fun v6 =>
 opt (addOff t11 2) fun v7 =>
 opt (load1 v7 H2) fun v8 =>
 opt (ixSlc 3 v8 t14) fun v9 =>
 opt (addOff v9 2) fun v10 =>
 opt (load1 v10 H2) fun v11 =>
 opt (ixSlc 4 v11 t71) fun v12 =>
 opt (loadN 4 v12 H2) fun v13 =>
 opt (loadN 9 t13 H2) fun v14 =>
 E.call (E.fid i.mean_Holds) [v5, v6] H2 fun v15 H3 =>
 loadN 9 t13 H3 = loadN 9 t13 H2 ∧
 loadN 4 v12 H3 = loadN 4 v12 H2 ∧
 load1 v10 H3 = load1 v10 H2 ∧
 load1 v7 H3 = load1 v7 H2 ∧
 E.call (E.fid i.pinfoldlaw11_Ref) [v14] H3 fun v16 H4 =>
 loadN 4 v12 H4 = loadN 4 v12 H2 ∧
 load1 v10 H4 = load1 v10 H2 ∧
 load1 v7 H4 = load1 v7 H2 ∧
 E.call (E.fid i.pinfoldref09_Holds) [v13, v16] H4 fun v17 H5 =>
 opt (binBool .neq v15 v17) fun v18 =>
 ifB v18 (
 Q (.bool false) H5) (
 opt (binInt .add t71 (.int .i64 1)) fun v19 =>
 X3 [t2, t3, t10, t11, t13, t14, t31, t32, t33, t42, t43, t44, t49, t50, t51, t69, t70, v19] H5)) (
 opt (binInt .add t51 (.int .i64 1)) fun v20 =>
 X2 [t2, t3, t10, t11, t13, t31, t32, t33, t42, t43, t44, t49, t50, v20] H)
def F.pinfoldlaw11_MeanSays_l3 (E : Sy) (Q : Value → AH → Prop) (X0 X1 : List Value → AH → Prop) (t2 t3 t10 t11 t13 t31 t32 t33 t42 t43 t44 t49 t50 t51 : Value) (H : AH) (X2 : List Value → AH → Prop) : Prop :=
 opt (binInt .lss t51 t50) fun v1 =>
 ifB v1 (
 opt (ixSlc 3 t49 t51) fun v2 =>
 opt (loadN 3 v2 H) fun v3 =>
 allocW [(.int .u32 0), (.int .u32 0), (.slice none 0 0)] H fun v4 H1 =>
 opt (storeN 3 v4 v3 H1) fun H2 =>
 opt (loadN 3 v4 H2) fun v5 =>
 opt (loadN 9 t13 H2) fun v6 =>
 opt (addOff t11 2) fun v7 =>
 opt (load1 v7 H2) fun v8 =>
 opt (ixSlc 3 v8 t51) fun v9 =>
 opt (loadN 3 v9 H2) fun v10 =>
 opt (loadN 9 t13 H2) fun v11 =>
 E.call (E.fid i.mean_Matches) [v5, v6] H2 fun v12 H3 =>
 loadN 9 t13 H3 = loadN 9 t13 H2 ∧
 loadN 3 v9 H3 = loadN 3 v9 H2 ∧
 load1 v7 H3 = load1 v7 H2 ∧
 E.call (E.fid i.pinfoldlaw11_Ref) [v11] H3 fun v13 H4 =>
 loadN 3 v9 H4 = loadN 3 v9 H2 ∧
 load1 v7 H4 = load1 v7 H2 ∧
 E.call (E.fid i.pinfoldref09_Matches) [v10, v13] H4 fun v14 H5 =>
 opt (binBool .neq v12 v14) fun v15 =>
 ifB v15 (
 Q (.bool false) H5) (
 opt (addOff v4 2) fun v16 =>
 opt (load1 v16 H5) fun v17 =>
 opt (lenSlc v17) fun v18 =>
 LoopL (fun l H X3 => F.pinfoldlaw11_MeanSays_l4 E Q X0 X1 X2 (nth l 0) (nth l 1) (nth l 2) (nth l 3) (nth l 4) (nth l 5) (nth l 6) (nth l 7) (nth l 8) (nth l 9) (nth l 10) (nth l 11) (nth l 12) (nth l 13) (nth l 14) (nth l 15) (nth l 16) (nth l 17) H X3) [t2, t3, t10, t11, t13, t51, t31, t32, t33, t42, t43, t44, t49, t50, t51, v17, v18, (.int .i64 0)] H5)) (
 opt (loadN 6 t10 H) fun v19 =>
 opt (loadN 9 t13 H) fun v20 =>
 opt (loadN 6 t11 H) fun v21 =>
 opt (loadN 9 t13 H) fun v22 =>
 E.call (E.fid i.mean_Says) [v19, v20] H fun v23 H6 =>
 loadN 9 t13 H6 = loadN 9 t13 H ∧
 loadN 6 t11 H6 = loadN 6 t11 H ∧
 E.call (E.fid i.pinfoldlaw11_Ref) [v22] H6 fun v24 H7 =>
 loadN 6 t11 H7 = loadN 6 t11 H ∧
 E.call (E.fid i.pinfoldref09_Says) [v21, v24] H7 fun v25 H8 =>
 opt (binInt .neq v23 v25) fun v26 =>
 ifB v26 (
 Q (.bool false) H8) (
 opt (binInt .add t44 (.int .i64 1)) fun v27 =>
 X1 [t2, t3, t10, t11, t31, t32, t33, t42, t43, v27] H8))
def F.pinfoldlaw11_MeanSays_l2 (E : Sy) (Q : Value → AH → Prop) (X0 : List Value → AH → Prop) (t2 t3 t10 t11 t31 t32 t33 t42 t43 t44 : Value) (H : AH) (X1 : List Value → AH → Prop) : Prop :=
 opt (binInt .lss t44 t43) fun v1 =>
 ifB v1 (
 opt (ixSlc 9 t42 t44) fun v2 =>
 opt (loadN 9 v2 H) fun v3 =>
 allocW [(.int .u32 0), (.int .u32 0), (.int .u64 0), (.int .u64 0), (.int .u64 0), (.int .u64 0), (.int .u64 0), (.int .u64 0), (.int .u64 0)] H fun v4 H1 =>
 opt (storeN 9 v4 v3 H1) fun H2 =>
 opt (addOff t10 2) fun v5 =>
 opt (load1 v5 H2) fun v6 =>
 opt (lenSlc v6) fun v7 =>
 LoopL (fun l H X2 => F.pinfoldlaw11_MeanSays_l3 E Q X0 X1 (nth l 0) (nth l 1) (nth l 2) (nth l 3) (nth l 4) (nth l 5) (nth l 6) (nth l 7) (nth l 8) (nth l 9) (nth l 10) (nth l 11) (nth l 12) (nth l 13) H X2) [t2, t3, t10, t11, v4, t31, t32, t33, t42, t43, t44, v6, v7, (.int .i64 0)] H2) (
 opt (binInt .add t33 (.int .i64 1)) fun v8 =>
 X0 [t2, t3, t31, t32, v8] H)
def F.pinfoldlaw11_MeanSays_l1 (E : Sy) (Q : Value → AH → Prop) (t2 t3 t31 t32 t33 : Value) (H : AH) (X0 : List Value → AH → Prop) : Prop :=
 opt (binInt .lss t33 t32) fun v1 =>
 ifB v1 (
 opt (ixSlc 6 t31 t33) fun v2 =>
 opt (loadN 6 v2 H) fun v3 =>
 allocW [(.string ⟨#[]⟩), (.int .u32 0), (.slice none 0 0), (.int .u16 0), (.slice none 0 0), (.slice none 0 0)] H fun v4 H1 =>
 opt (storeN 6 v4 v3 H1) fun H2 =>
 opt (loadN 6 v4 H2) fun v5 =>
 E.call (E.fid i.pinfoldlaw09_Ref) [v5] H2 fun v6 H3 =>
 allocW [(.string ⟨#[]⟩), (.int .u32 0), (.slice none 0 0), (.int .i64 0), (.slice none 0 0), (.slice none 0 0)] H3 fun v7 H4 =>
 opt (storeN 6 v7 v6 H4) fun H5 =>
 opt (loadN 6 v4 H5) fun v8 =>
 E.call (E.fid i.pinfoldlaw11_Records) [v8, t2, t3] H5 fun v9 H6 =>
 opt (lenSlc v9) fun v10 =>
 LoopL (fun l H X1 => F.pinfoldlaw11_MeanSays_l2 E Q X0 (nth l 0) (nth l 1) (nth l 2) (nth l 3) (nth l 4) (nth l 5) (nth l 6) (nth l 7) (nth l 8) (nth l 9) H X1) [t2, t3, v4, v7, t31, t32, t33, v9, v10, (.int .i64 0)] H6) (
 Q (.bool true) H)
/-- pinfold/pinfoldlaw11.MeanSays -/
def F.pinfoldlaw11_MeanSays (E : Sy) (x0 x1 x2 x3 : Value) (H : AH) (Q : Value → AH → Prop) : Prop :=
 mk (boxO x0) H fun v1 H1 =>
 mk (boxO x1) H1 fun v2 H2 =>
 E.call (E.fid i.pinfoldlaw11_Awake) [] H2 fun v3 H3 =>
 opt (un .not v3) fun v4 =>
 ifB v4 (
 Q (.bool false) H3) (
 opt (loadN 6 v1 H3) fun v5 =>
 E.call (E.fid i.pinfoldlaw09_Few) [v5] H3 fun v6 H4 =>
 opt (un .not v6) fun v7 =>
 gd v7 false (fun k => k x2 H4) H4 fun v8 H5 =>
 gd v7 false (fun k => opt (lenSlc v8) fun v => k v H5) H5 fun v9 H6 =>
 gd v7 false (fun k => opt (binInt .gtr v9 (.int .i64 20)) fun v => k v H6) H6 fun v10 H7 =>
 opt (pick v7 (.bool true) v10) fun v11 =>
 ifB v11 (
 Q (.bool true) H7) (
 opt (loadN 6 v1 H7) fun v12 =>
 opt (loadN 8 v2 H7) fun v13 =>
 E.call (E.fid i.pinfoldlaw09_Small_Policy) [v13] H7 fun v14 H8 =>
 loadN 6 v1 H8 = loadN 6 v1 H7 ∧
 mk (buildS 2 6 #[(.string ⟨#[]⟩), (.int .u32 0), (.slice none 0 0), (.int .u16 0), (.slice none 0 0), (.slice none 0 0)] [(0, v12), (1, v14)]) H8 fun v15 H9 =>
 opt (lenSlc v15) fun v16 =>
 LoopL (fun l H X0 => F.pinfoldlaw11_MeanSays_l1 E Q (nth l 0) (nth l 1) (nth l 2) (nth l 3) (nth l 4) H X0) [x2, x3, v15, v16, (.int .i64 0)] H9))

def F.pinfoldlaw11_MeanNarrows_j1 (E : Sy) (Q : Value → AH → Prop) (X0 X1 : List Value → AH → Prop) (t5 t9 t11 t12 t13 t14 t27 t28 t29 t40 t41 t42 : Value) (H : AH) : Prop :=
 opt (addOff t13 2) fun v1 =>
 opt (load1 v1 H) fun v2 =>
 opt (addOff t9 2) fun v3 =>
 opt (load1 v3 H) fun v4 =>
 opt (addOff t9 2) fun v5 =>
 opt (load1 v5 H) fun v6 =>
 opt (lenSlc v6) fun v7 =>
 opt (binInt .sub v7 (.int .i64 1)) fun v8 =>
 opt (binInt .sub v8 t14) fun v9 =>
 opt (ixSlc 3 v4 v9) fun v10 =>
 opt (loadN 3 v10 H) fun v11 =>
 mk (buildS 1 3 #[(.int .u32 0), (.int .u32 0), (.slice none 0 0)] [(0, v11)]) H fun v12 H1 =>
 opt2 (app 3 32 v2 v12 H1) fun v13 H2 =>
 opt (addOff t13 2) fun v14 =>
 opt (store1 v14 v13 H2) fun H3 =>
 opt (binInt .add t42 (.int .i64 1)) fun v15 =>
 X1 [t5, t9, t11, t12, t13, t27, t28, t29, t40, t41, v15] H3
def F.pinfoldlaw11_MeanNarrows_l2 (E : Sy) (Q : Value → AH → Prop) (X0 : List Value → AH → Prop) (t5 t9 t11 t12 t13 t27 t28 t29 t40 t41 t42 : Value) (H : AH) (X1 : List Value → AH → Prop) : Prop :=
 opt (binInt .lss t42 t41) fun v1 =>
 ifB v1 (
 opt (ixSlc 3 t40 t42) fun v2 =>
 opt (loadN 3 v2 H) fun v3 =>
 allocW [(.int .u32 0), (.int .u32 0), (.slice none 0 0)] H fun v4 H1 =>
 opt (storeN 3 v4 v3 H1) fun H2 =>
 opt (loadN 3 v4 H2) fun v5 =>
 allocW [(.int .u32 0), (.int .u32 0), (.slice none 0 0)] H2 fun v6 H3 =>
 opt (storeN 3 v6 v5 H3) fun H4 =>
 mk (buildS 0 4 #[(.int .i64 0), (.int .u8 0), (.int .u64 0), (.int .u64 0)] []) H4 fun v7 H5 =>
 opt (addOff v4 2) fun v8 =>
 opt (load1 v8 H5) fun v9 =>
 opt (loadN 4 t5 H5) fun v10 =>
 opt2 (app 4 32 v7 v9 H5) fun v11 H6 =>
 loadN 4 t5 H6 = loadN 4 t5 H5 ∧
 E.call (E.fid i.pinfoldlaw09_Cond_Cond) [v10] H6 fun v12 H7 =>
 mk (buildS 1 4 #[(.int .i64 0), (.int .u8 0), (.int .u64 0), (.int .u64 0)] [(0, v12)]) H7 fun v13 H8 =>
 opt2 (app 4 32 v11 v13 H8) fun v14 H9 =>
 opt (addOff v6 2) fun v15 =>
 opt (store1 v15 v14 H9) fun H10 =>
 opt (loadN 3 v6 H10) fun v16 =>
 opt (loadN 9 t11 H10) fun v17 =>
 E.call (E.fid i.mean_Matches) [v16, v17] H10 fun v18 H11 =>
 gd v18 true (fun k => opt (loadN 3 v4 H11) fun v => k v H11) H11 fun v19 H12 =>
 gd v18 true (fun k => opt (loadN 9 t11 H12) fun v => k v H12) H12 fun v20 H13 =>
 gd v18 true (fun k => E.call (E.fid i.mean_Matches) [v19, v20] H13 fun v h => k v h) H13 fun v21 H14 =>
 gd v18 true (fun k => opt (un .not v21) fun v => k v H14) H14 fun v22 H15 =>
 opt (pick v18 v22 (.bool false)) fun v23 =>
 ifB v23 (
 Q (.bool false) H15) (
 opt (addOff v4 0) fun v24 =>
 opt (load1 v24 H15) fun v25 =>
 opt (addOff t11 0) fun v26 =>
 opt (load1 v26 H15) fun v27 =>
 opt (binInt .eql v25 v27) fun v28 =>
 ifB v28 (
 opt (addOff t12 2) fun v29 =>
 opt (load1 v29 H15) fun v30 =>
 opt (loadN 3 v4 H15) fun v31 =>
 mk (buildS 1 3 #[(.int .u32 0), (.int .u32 0), (.slice none 0 0)] [(0, v31)]) H15 fun v32 H16 =>
 opt2 (app 3 32 v30 v32 H16) fun v33 H17 =>
 opt (addOff t12 2) fun v34 =>
 opt (store1 v34 v33 H17) fun H18 =>
 F.pinfoldlaw11_MeanNarrows_j1 E Q X0 X1 t5 t9 t11 t12 t13 t42 t27 t28 t29 t40 t41 t42 H18) (
 F.pinfoldlaw11_MeanNarrows_j1 E Q X0 X1 t5 t9 t11 t12 t13 t42 t27 t28 t29 t40 t41 t42 H15))) (
 opt (loadN 6 t12 H) fun v35 =>
 opt (loadN 9 t11 H) fun v36 =>
 opt (loadN 6 t9 H) fun v37 =>
 opt (loadN 9 t11 H) fun v38 =>
 E.call (E.fid i.mean_Says) [v35, v36] H fun v39 H19 =>
 loadN 9 t11 H19 = loadN 9 t11 H ∧
 loadN 6 t9 H19 = loadN 6 t9 H ∧
 E.call (E.fid i.mean_Says) [v37, v38] H19 fun v40 H20 =>
 opt (binInt .neq v39 v40) fun v41 =>
 gd v41 false (fun k => opt (loadN 6 t13 H20) fun v => k v H20) H20 fun v42 H21 =>
 gd v41 false (fun k => opt (loadN 9 t11 H21) fun v => k v H21) H21 fun v43 H22 =>
 gd v41 false (fun k => opt (loadN 6 t9 H22) fun v => k v H22) H22 fun v44 H23 =>
 gd v41 false (fun k => opt (loadN 9 t11 H23) fun v => k v H23) H23 fun v45 H24 =>
 gd v41 false (fun k => E.call (E.fid i.mean_Says) [v42, v43] H24 fun v h => k v h) H24 fun v46 H25 =>
 gdC v41 false (loadN 9 t11 H25 = loadN 9 t11 H23) ∧
 gdC v41 false (loadN 6 t9 H25 = loadN 6 t9 H22) ∧
 gd v41 false (fun k => E.call (E.fid i.record_Action_Kind) [v46] H25 fun v h => k v h) H25 fun v47 H26 =>
 gdC v41 false (loadN 9 t11 H26 = loadN 9 t11 H23) ∧
 gdC v41 false (loadN 6 t9 H26 = loadN 6 t9 H22) ∧
 gd v41 false (fun k => E.call (E.fid i.mean_Says) [v44, v45] H26 fun v h => k v h) H26 fun v48 H27 =>
 gd v41 false (fun k => E.call (E.fid i.record_Action_Kind) [v48] H27 fun v h => k v h) H27 fun v49 H28 =>
 gd v41 false (fun k => opt (binInt .neq v47 v49) fun v => k v H28) H28 fun v50 H29 =>
 opt (pick v41 (.bool true) v50) fun v51 =>
 ifB v51 (
 Q (.bool false) H29) (
 opt (binInt .add t29 (.int .i64 1)) fun v52 =>
 X0 [t5, t9, t27, t28, v52] H29))
def F.pinfoldlaw11_MeanNarrows_l1 (E : Sy) (Q : Value → AH → Prop) (t5 t9 t27 t28 t29 : Value) (H : AH) (X0 : List Value → AH → Prop) : Prop :=
 opt (binInt .lss t29 t28) fun v1 =>
 ifB v1 (
 opt (ixSlc 9 t27 t29) fun v2 =>
 opt (loadN 9 v2 H) fun v3 =>
 allocW [(.int .u32 0), (.int .u32 0), (.int .u64 0), (.int .u64 0), (.int .u64 0), (.int .u64 0), (.int .u64 0), (.int .u64 0), (.int .u64 0)] H fun v4 H1 =>
 opt (storeN 9 v4 v3 H1) fun H2 =>
 allocW [(.string ⟨#[]⟩), (.int .u32 0), (.slice none 0 0), (.int .u16 0), (.slice none 0 0), (.slice none 0 0)] H2 fun v5 H3 =>
 allocW [(.string ⟨#[]⟩), (.int .u32 0), (.slice none 0 0), (.int .u16 0), (.slice none 0 0), (.slice none 0 0)] H3 fun v6 H4 =>
 opt (addOff t9 1) fun v7 =>
 opt (load1 v7 H4) fun v8 =>
 opt (addOff t9 1) fun v9 =>
 opt (load1 v9 H4) fun v10 =>
 opt (addOff v5 1) fun v11 =>
 opt (store1 v11 v8 H4) fun H5 =>
 load1 v9 H5 = load1 v9 H4 ∧
 opt (addOff v6 1) fun v12 =>
 opt (store1 v12 v10 H5) fun H6 =>
 opt (addOff t9 2) fun v13 =>
 opt (load1 v13 H6) fun v14 =>
 opt (lenSlc v14) fun v15 =>
 LoopL (fun l H X1 => F.pinfoldlaw11_MeanNarrows_l2 E Q X0 (nth l 0) (nth l 1) (nth l 2) (nth l 3) (nth l 4) (nth l 5) (nth l 6) (nth l 7) (nth l 8) (nth l 9) (nth l 10) H X1) [t5, t9, v4, v5, v6, t27, t28, t29, v14, v15, (.int .i64 0)] H6) (
 Q (.bool true) H)
/-- pinfold/pinfoldlaw11.MeanNarrows -/
def F.pinfoldlaw11_MeanNarrows (E : Sy) (x0 x1 x2 x3 : Value) (H : AH) (Q : Value → AH → Prop) : Prop :=
 mk (boxO x0) H fun v1 H1 =>
 mk (boxO x1) H1 fun v2 H2 =>
 E.call (E.fid i.pinfoldlaw11_Awake) [] H2 fun v3 H3 =>
 opt (un .not v3) fun v4 =>
 ifB v4 (
 Q (.bool false) H3) (
 opt (lenSlc x2) fun v5 =>
 opt (binInt .gtr v5 (.int .i64 20)) fun v6 =>
 ifB v6 (
 Q (.bool true) H3) (
 opt (loadN 8 v1 H3) fun v7 =>
 E.call (E.fid i.pinfoldlaw09_Small_Policy) [v7] H3 fun v8 H4 =>
 allocW [(.string ⟨#[]⟩), (.int .u32 0), (.slice none 0 0), (.int .u16 0), (.slice none 0 0), (.slice none 0 0)] H4 fun v9 H5 =>
 opt (storeN 6 v9 v8 H5) fun H6 =>
 opt (loadN 6 v9 H6) fun v10 =>
 E.call (E.fid i.pinfoldlaw11_Records) [v10, x2, x3] H6 fun v11 H7 =>
 opt (lenSlc v11) fun v12 =>
 LoopL (fun l H X0 => F.pinfoldlaw11_MeanNarrows_l1 E Q (nth l 0) (nth l 1) (nth l 2) (nth l 3) (nth l 4) H X0) [v2, v9, v11, v12, (.int .i64 0)] H7))

def F.pinfoldlaw11_MeanAll_l2 (E : Sy) (Q : Value → AH → Prop) (t6 t9 t10 t13 t50 t51 t52 : Value) (H : AH) (X0 : List Value → AH → Prop) : Prop :=
 opt (binInt .lss t52 t51) fun v1 =>
 ifB v1 (
 opt (ixSlc 9 t50 t52) fun v2 =>
 opt (loadN 9 v2 H) fun v3 =>
 allocW [(.int .u32 0), (.int .u32 0), (.int .u64 0), (.int .u64 0), (.int .u64 0), (.int .u64 0), (.int .u64 0), (.int .u64 0), (.int .u64 0)] H fun v4 H1 =>
 opt (storeN 9 v4 v3 H1) fun H2 =>
 opt (loadN 9 v4 H2) fun v5 =>
 mk (buildS 0 6 #[(.string ⟨#[]⟩), (.int .u32 0), (.slice none 0 0), (.int .u16 0), (.slice none 0 0), (.slice none 0 0)] []) H2 fun v6 H3 =>
 opt (loadN 6 t13 H3) fun v7 =>
 mk (buildS 1 6 #[(.string ⟨#[]⟩), (.int .u32 0), (.slice none 0 0), (.int .u16 0), (.slice none 0 0), (.slice none 0 0)] [(0, v7)]) H3 fun v8 H4 =>
 opt (loadN 9 v4 H4) fun v9 =>
 E.call (E.fid i.mean_All) [t9, v5] H4 fun v10 H5 =>
 loadN 9 v4 H5 = loadN 9 v4 H4 ∧
 H5.get H3.next = H4.get H3.next ∧
 loadN 6 t13 H5 = loadN 6 t13 H3 ∧
 H5.get H2.next = H3.get H2.next ∧
 opt2 (app 6 104 v6 t9 H5) fun v11 H6 =>
 loadN 9 v4 H6 = loadN 9 v4 H4 ∧
 H6.get H3.next = H4.get H3.next ∧
 loadN 6 t13 H6 = loadN 6 t13 H3 ∧
 opt2 (app 6 104 v11 v8 H6) fun v12 H7 =>
 loadN 9 v4 H7 = loadN 9 v4 H4 ∧
 E.call (E.fid i.mean_All) [v12, v9] H7 fun v13 H8 =>
 opt (loadN 9 v4 H8) fun v14 =>
 E.call (E.fid i.pinfoldlaw11_Ref) [v14] H8 fun v15 H9 =>
 E.call (E.fid i.pinfoldref09_All) [t10, v15] H9 fun v16 H10 =>
 opt (binInt .neq v10 v16) fun v17 =>
 gd v17 false (fun k => k v13 H10) H10 fun v18 H11 =>
 gd v17 false (fun k => E.call (E.fid i.pinfoldref03_Strength) [v18] H11 fun v h => k v h) H11 fun v19 H12 =>
 gd v17 false (fun k => k v10 H12) H12 fun v20 H13 =>
 gd v17 false (fun k => E.call (E.fid i.pinfoldref03_Strength) [v20] H13 fun v h => k v h) H13 fun v21 H14 =>
 gd v17 false (fun k => opt (binInt .lss v19 v21) fun v => k v H14) H14 fun v22 H15 =>
 opt (pick v17 (.bool true) v22) fun v23 =>
 ifB v23 (
 Q (.bool false) H15) (
 opt (binInt .add t52 (.int .i64 1)) fun v24 =>
 X0 [t6, t9, t10, t13, t50, t51, v24] H15)) (
 opt (loadN 9 t6 H) fun v25 =>
 E.call (E.fid i.mean_All) [(.slice none 0 0), v25] H fun v26 H16 =>
 opt (binInt .eql v26 (.int .u32 2147418112)) fun v27 =>
 Q v27 H16)
def F.pinfoldlaw11_MeanAll_l1 (E : Sy) (Q : Value → AH → Prop) (t3 t5 t6 t9 t10 t23 t24 t25 : Value) (H : AH) (X0 : List Value → AH → Prop) : Prop :=
 opt (binInt .lss t25 t24) fun v1 =>
 ifB v1 (
 opt (ixSlc 8 t23 t25) fun v2 =>
 opt (loadN 8 v2 H) fun v3 =>
 allocW [(.int .u8 0), (.int .u8 0), (.int .u8 0), (.slice none 0 0), (.int .u16 0), (.slice none 0 0), (.slice none 0 0), (.slice none 0 0)] H fun v4 H1 =>
 opt (storeN 8 v4 v3 H1) fun H2 =>
 opt (loadN 8 v4 H2) fun v5 =>
 E.call (E.fid i.pinfoldlaw09_Small_Policy) [v5] H2 fun v6 H3 =>
 mk (buildS 1 6 #[(.string ⟨#[]⟩), (.int .u32 0), (.slice none 0 0), (.int .u16 0), (.slice none 0 0), (.slice none 0 0)] [(0, v6)]) H3 fun v7 H4 =>
 opt2 (app 6 104 t9 v7 H4) fun v8 H5 =>
 opt (loadN 8 v4 H5) fun v9 =>
 E.call (E.fid i.pinfoldlaw09_Small_Policy) [v9] H5 fun v10 H6 =>
 E.call (E.fid i.pinfoldlaw09_Ref) [v10] H6 fun v11 H7 =>
 mk (buildS 1 6 #[(.string ⟨#[]⟩), (.int .u32 0), (.slice none 0 0), (.int .i64 0), (.slice none 0 0), (.slice none 0 0)] [(0, v11)]) H7 fun v12 H8 =>
 opt2 (app 6 104 t10 v12 H8) fun v13 H9 =>
 opt (binInt .add t25 (.int .i64 1)) fun v14 =>
 X0 [t3, t5, t6, v8, v13, t23, t24, v14] H9) (
 opt (loadN 8 t5 H) fun v15 =>
 E.call (E.fid i.pinfoldlaw09_Small_Policy) [v15] H fun v16 H10 =>
 allocW [(.string ⟨#[]⟩), (.int .u32 0), (.slice none 0 0), (.int .u16 0), (.slice none 0 0), (.slice none 0 0)] H10 fun v17 H11 =>
 opt (storeN 6 v17 v16 H11) fun H12 =>
 opt (loadN 6 v17 H12) fun v18 =>
 opt (loadN 9 t6 H12) fun v19 =>
 mk (buildS 1 9 #[(.int .u32 0), (.int .u32 0), (.int .u64 0), (.int .u64 0), (.int .u64 0), (.int .u64 0), (.int .u64 0), (.int .u64 0), (.int .u64 0)] [(0, v19)]) H12 fun v20 H13 =>
 opt (binInt .add t3 (.int .u8 1)) fun v21 =>
 mk (buildS 2 1 #[(.int .u8 0)] [(0, t3), (1, v21)]) H13 fun v22 H14 =>
 E.call (E.fid i.pinfoldlaw11_Records) [v18, v20, v22] H14 fun v23 H15 =>
 opt (lenSlc v23) fun v24 =>
 LoopL (fun l H X0 => F.pinfoldlaw11_MeanAll_l2 E Q (nth l 0) (nth l 1) (nth l 2) (nth l 3) (nth l 4) (nth l 5) (nth l 6) H X0) [t6, t9, t10, v17, v23, v24, (.int .i64 0)] H15)
/-- pinfold/pinfoldlaw11.MeanAll -/
def F.pinfoldlaw11_MeanAll (E : Sy) (x0 x1 x2 x3 : Value) (H : AH) (Q : Value → AH → Prop) : Prop :=
 mk (boxO x1) H fun v1 H1 =>
 mk (boxO x2) H1 fun v2 H2 =>
 E.call (E.fid i.pinfoldlaw11_Awake) [] H2 fun v3 H3 =>
 opt (un .not v3) fun v4 =>
 ifB v4 (
 Q (.bool false) H3) (
 opt (lenSlc x0) fun v5 =>
 opt (binInt .gtr v5 (.int .i64 6)) fun v6 =>
 ifB v6 (
 Q (.bool true) H3) (
 opt (lenSlc x0) fun v7 =>
 LoopL (fun l H X0 => F.pinfoldlaw11_MeanAll_l1 E Q (nth l 0) (nth l 1) (nth l 2) (nth l 3) (nth l 4) (nth l 5) (nth l 6) (nth l 7) H X0) [x3, v1, v2, (.slice none 0 0), (.slice none 0 0), x0, v7, (.int .i64 0)] H3))

def F.pinfoldlaw11_MeanSpeaks_j1 (E : Sy) (Q : Value → AH → Prop) (X0 X1 : List Value → AH → Prop) (t2 t3 t10 t12 t19 t33 t34 t35 t42 t43 t44 : Value) (H : AH) : Prop :=
 opt (addOff t12 1) fun v1 =>
 opt (load1 v1 H) fun v2 =>
 opt (binInt .eql v2 (.int .u32 3221225534)) fun v3 =>
 gd v3 true (fun k => opt (loadN 6 t10 H) fun v => k v H) H fun v4 H1 =>
 gd v3 true (fun k => opt (loadN 9 t12 H1) fun v => k v H1) H1 fun v5 H2 =>
 gd v3 true (fun k => E.call (E.fid i.mean_Says) [v4, v5] H2 fun v h => k v h) H2 fun v6 H3 =>
 gd v3 true (fun k => k t19 H3) H3 fun v7 H4 =>
 gd v3 true (fun k => opt (binInt .neq v6 v7) fun v => k v H4) H4 fun v8 H5 =>
 opt (pick v3 v8 (.bool false)) fun v9 =>
 ifB v9 (
 Q (.bool false) H5) (
 opt (binInt .add t44 (.int .i64 1)) fun v10 =>
 X1 [t2, t3, t10, t33, t34, t35, t42, t43, v10] H5)
def F.pinfoldlaw11_MeanSpeaks_l3 (E : Sy) (Q : Value → AH → Prop) (X0 X1 : List Value → AH → Prop) (t2 t3 t10 t12 t13 t14 t15 t16 t33 t34 t35 t42 t43 t44 t55 t56 t57 : Value) (H : AH) (X2 : List Value → AH → Prop) : Prop :=
 opt (binInt .lss t57 t56) fun v1 =>
 ifB v1 (
 opt (ixSlc 3 t55 t57) fun v2 =>
 opt (loadN 3 v2 H) fun v3 =>
 allocW [(.int .u32 0), (.int .u32 0), (.slice none 0 0)] H fun v4 H1 =>
 opt (storeN 3 v4 v3 H1) fun H2 =>
 opt (loadN 3 v4 H2) fun v5 =>
 opt (loadN 9 t12 H2) fun v6 =>
 E.call (E.fid i.mean_Matches) [v5, v6] H2 fun v7 H3 =>
 opt (un .not v7) fun v8 =>
 ifB v8 (
 opt (binInt .add t57 (.int .i64 1)) fun v9 =>
 X2 [t2, t3, t10, t12, t13, t14, t15, t16, t33, t34, t35, t42, t43, t44, t55, t56, v9] H3) (
 opt (lenSlc t13) fun v10 =>
 opt (binInt .geq t15 v10) fun v11 =>
 gd v11 false (fun k => k t13 H3) H3 fun v12 H4 =>
 gd v11 false (fun k => k t15 H4) H4 fun v13 H5 =>
 gd v11 false (fun k => opt (ixSlc 1 v12 v13) fun v => k v H5) H5 fun v14 H6 =>
 gd v11 false (fun k => opt (load1 v14 H6) fun v => k v H6) H6 fun v15 H7 =>
 gd v11 false (fun k => k t57 H7) H7 fun v16 H8 =>
 gd v11 false (fun k => opt (binInt .neq v15 v16) fun v => k v H8) H8 fun v17 H9 =>
 opt (pick v11 (.bool true) v17) fun v18 =>
 ifB v18 (
 Q (.bool false) H9) (
 opt (binInt .add t15 (.int .i64 1)) fun v19 =>
 opt (binInt .lss t16 (.int .i64 0)) fun v20 =>
 gd v20 false (fun k => opt (addOff v4 1) fun v => k v H9) H9 fun v21 H10 =>
 gd v20 false (fun k => opt (load1 v21 H10) fun v => k v H10) H10 fun v22 H11 =>
 gd v20 false (fun k => opt (addOff t10 2) fun v => k v H11) H11 fun v23 H12 =>
 gd v20 false (fun k => opt (load1 v23 H12) fun v => k v H12) H12 fun v24 H13 =>
 gd v20 false (fun k => k t16 H13) H13 fun v25 H14 =>
 gd v20 false (fun k => opt (ixSlc 3 v24 v25) fun v => k v H14) H14 fun v26 H15 =>
 gd v20 false (fun k => opt (addOff v26 1) fun v => k v H15) H15 fun v27 H16 =>
 gd v20 false (fun k => opt (load1 v27 H16) fun v => k v H16) H16 fun v28 H17 =>
 gd v20 false (fun k => E.call (E.fid i.pinfoldref03_Strength) [v22] H17 fun v h => k v h) H17 fun v29 H18 =>
 gdC v20 false (load1 v27 H18 = load1 v27 H16) ∧
 gdC v20 false (load1 v23 H18 = load1 v23 H12) ∧
 gd v20 false (fun k => E.call (E.fid i.pinfoldref03_Strength) [v28] H18 fun v h => k v h) H18 fun v30 H19 =>
 gd v20 false (fun k => opt (binInt .gtr v29 v30) fun v => k v H19) H19 fun v31 H20 =>
 opt (pick v20 (.bool true) v31) fun v32 =>
 ifB v32 (
 opt (binInt .add t57 (.int .i64 1)) fun v33 =>
 X2 [t2, t3, t10, t12, t13, t14, v19, t57, t33, t34, t35, t42, t43, t44, t55, t56, v33] H20) (
 opt (binInt .add t57 (.int .i64 1)) fun v34 =>
 X2 [t2, t3, t10, t12, t13, t14, v19, t16, t33, t34, t35, t42, t43, t44, t55, t56, v34] H20)))) (
 opt (lenSlc t13) fun v35 =>
 opt (binInt .neq t15 v35) fun v36 =>
 gd v36 false (fun k => k t14 H) H fun v37 H21 =>
 gd v36 false (fun k => k t16 H21) H21 fun v38 H22 =>
 gd v36 false (fun k => opt (binInt .neq v37 v38) fun v => k v H22) H22 fun v39 H23 =>
 opt (pick v36 (.bool true) v39) fun v40 =>
 ifB v40 (
 Q (.bool false) H23) (
 opt (addOff t10 1) fun v41 =>
 opt (load1 v41 H23) fun v42 =>
 opt (binInt .geq t16 (.int .i64 0)) fun v43 =>
 ifB v43 (
 opt (addOff t10 2) fun v44 =>
 opt (load1 v44 H23) fun v45 =>
 opt (ixSlc 3 v45 t16) fun v46 =>
 opt (addOff v46 1) fun v47 =>
 opt (load1 v47 H23) fun v48 =>
 F.pinfoldlaw11_MeanSpeaks_j1 E Q X0 X1 t2 t3 t10 t12 v48 t33 t34 t35 t42 t43 t44 H23) (
 F.pinfoldlaw11_MeanSpeaks_j1 E Q X0 X1 t2 t3 t10 t12 v42 t33 t34 t35 t42 t43 t44 H23)))
def F.pinfoldlaw11_MeanSpeaks_l2 (E : Sy) (Q : Value → AH → Prop) (X0 : List Value → AH → Prop) (t2 t3 t10 t33 t34 t35 t42 t43 t44 : Value) (H : AH) (X1 : List Value → AH → Prop) : Prop :=
 opt (binInt .lss t44 t43) fun v1 =>
 ifB v1 (
 opt (ixSlc 9 t42 t44) fun v2 =>
 opt (loadN 9 v2 H) fun v3 =>
 allocW [(.int .u32 0), (.int .u32 0), (.int .u64 0), (.int .u64 0), (.int .u64 0), (.int .u64 0), (.int .u64 0), (.int .u64 0), (.int .u64 0)] H fun v4 H1 =>
 opt (storeN 9 v4 v3 H1) fun H2 =>
 opt (loadN 6 t10 H2) fun v5 =>
 opt (loadN 9 v4 H2) fun v6 =>
 E.call (E.fid i.mean_Speaks) [v5, v6] H2 fun v7 H3 =>
 opt (ext v7 0) fun v8 =>
 opt (ext v7 1) fun v9 =>
 opt (addOff t10 2) fun v10 =>
 opt (load1 v10 H3) fun v11 =>
 opt (lenSlc v11) fun v12 =>
 LoopL (fun l H X2 => F.pinfoldlaw11_MeanSpeaks_l3 E Q X0 X1 (nth l 0) (nth l 1) (nth l 2) (nth l 3) (nth l 4) (nth l 5) (nth l 6) (nth l 7) (nth l 8) (nth l 9) (nth l 10) (nth l 11) (nth l 12) (nth l 13) (nth l 14) (nth l 15) (nth l 16) H X2) [t2, t3, t10, v4, v8, v9, (.int .i64 0), (.int .i64 (-1)), t33, t34, t35, t42, t43, t44, v11, v12, (.int .i64 0)] H3) (
 opt (binInt .add t35 (.int .i64 1)) fun v13 =>
 X0 [t2, t3, t33, t34, v13] H)
def F.pinfoldlaw11_MeanSpeaks_l1 (E : Sy) (Q : Value → AH → Prop) (t2 t3 t33 t34 t35 : Value) (H : AH) (X0 : List Value → AH → Prop) : Prop :=
 opt (binInt .lss t35 t34) fun v1 =>
 ifB v1 (
 opt (ixSlc 6 t33 t35) fun v2 =>
 opt (loadN 6 v2 H) fun v3 =>
 allocW [(.string ⟨#[]⟩), (.int .u32 0), (.slice none 0 0), (.int .u16 0), (.slice none 0 0), (.slice none 0 0)] H fun v4 H1 =>
 opt (storeN 6 v4 v3 H1) fun H2 =>
 opt (loadN 6 v4 H2) fun v5 =>
 E.call (E.fid i.pinfoldlaw11_Records) [v5, t2, t3] H2 fun v6 H3 =>
 opt (lenSlc v6) fun v7 =>
 LoopL (fun l H X1 => F.pinfoldlaw11_MeanSpeaks_l2 E Q X0 (nth l 0) (nth l 1) (nth l 2) (nth l 3) (nth l 4) (nth l 5) (nth l 6) (nth l 7) (nth l 8) H X1) [t2, t3, v4, t33, t34, t35, v6, v7, (.int .i64 0)] H3) (
 Q (.bool true) H)
/-- pinfold/pinfoldlaw11.MeanSpeaks -/
def F.pinfoldlaw11_MeanSpeaks (E : Sy) (x0 x1 x2 x3 : Value) (H : AH) (Q : Value → AH → Prop) : Prop :=
 mk (boxO x0) H fun v1 H1 =>
 mk (boxO x1) H1 fun v2 H2 =>
 E.call (E.fid i.pinfoldlaw11_Awake) [] H2 fun v3 H3 =>
 opt (un .not v3) fun v4 =>
 ifB v4 (
 Q (.bool false) H3) (
 opt (loadN 6 v1 H3) fun v5 =>
 E.call (E.fid i.pinfoldlaw09_Few) [v5] H3 fun v6 H4 =>
 opt (un .not v6) fun v7 =>
 gd v7 false (fun k => k x2 H4) H4 fun v8 H5 =>
 gd v7 false (fun k => opt (lenSlc v8) fun v => k v H5) H5 fun v9 H6 =>
 gd v7 false (fun k => opt (binInt .gtr v9 (.int .i64 20)) fun v => k v H6) H6 fun v10 H7 =>
 opt (pick v7 (.bool true) v10) fun v11 =>
 ifB v11 (
 Q (.bool true) H7) (
 opt (loadN 6 v1 H7) fun v12 =>
 opt (loadN 8 v2 H7) fun v13 =>
 E.call (E.fid i.pinfoldlaw09_Small_Policy) [v13] H7 fun v14 H8 =>
 loadN 6 v1 H8 = loadN 6 v1 H7 ∧
 mk (buildS 2 6 #[(.string ⟨#[]⟩), (.int .u32 0), (.slice none 0 0), (.int .u16 0), (.slice none 0 0), (.slice none 0 0)] [(0, v12), (1, v14)]) H8 fun v15 H9 =>
 opt (lenSlc v15) fun v16 =>
 LoopL (fun l H X0 => F.pinfoldlaw11_MeanSpeaks_l1 E Q (nth l 0) (nth l 1) (nth l 2) (nth l 3) (nth l 4) H X0) [x2, x3, v15, v16, (.int .i64 0)] H9))

/-- pinfold/pinfoldlaw04.Awake -/
def F.pinfoldlaw04_Awake (E : Sy) (H : AH) (Q : Value → AH → Prop) : Prop :=
 E.call (E.fid i.record_Fail) [(.int .i64 13)] H fun v1 H1 =>
 E.call (E.fid i.record_Stronger) [(.int .u32 2147221504), v1] H1 fun v2 H2 =>
 opt (binInt .eql v2 (.int .u32 327693)) fun v3 =>
 Q v3 H2

def F.pinfoldlaw04_RecordOrder_1_l1 (E : Sy) (Q : Value → AH → Prop) (t3 t10 t11 t12 : Value) (H : AH) (X0 : List Value → AH → Prop) : Prop :=
 opt (binInt .lss t12 t11) fun v1 =>
 ifB v1 (
 opt (ixSlc 1 t10 t12) fun v2 =>
 opt (load1 v2 H) fun v3 =>
 E.call (E.fid i.record_Stronger) [t3, v3] H fun v4 H1 =>
 opt (binInt .add t12 (.int .i64 1)) fun v5 =>
 X0 [v4, t10, t11, v5] H1) (
 Q t3 H)
/-- pinfold/pinfoldlaw04.RecordOrder$1 -/
def F.pinfoldlaw04_RecordOrder_1 (E : Sy) (x0 : Value) (H : AH) (Q : Value → AH → Prop) : Prop :=
 opt (ixSlc 1 x0 (.int .i64 0)) fun v1 =>
 opt (load1 v1 H) fun v2 =>
 opt (slSlc 1 x0 (some (.int .i64 1)) none none H) fun v3 =>
 opt (lenSlc v3) fun v4 =>
 LoopL (fun l H X0 => F.pinfoldlaw04_RecordOrder_1_l1 E Q (nth l 0) (nth l 1) (nth l 2) (nth l 3) H X0) [v2, v3, v4, (.int .i64 0)] H

/-- pinfold/record.Stronger -/
def F.record_Stronger (E : Sy) (x0 x1 : Value) (H : AH) (Q : Value → AH → Prop) : Prop :=
 E.call (E.fid i.record_Action_strength) [x1] H fun v1 H1 =>
 E.call (E.fid i.record_Action_strength) [x0] H1 fun v2 H2 =>
 opt (binInt .gtr v1 v2) fun v3 =>
 ifB v3 (
 Q x1 H2) (
 Q x0 H2)

def F.record_Action_Kind_j1 (E : Sy) (Q : Value → AH → Prop) (t3 t7 : Value) (H : AH) : Prop :=
 ifB t7 (
 Q t3 H) (
 Q (.int .u32 2147483648) H)
/-- (pinfold/record.Action).Kind -/
def F.record_Action_Kind (E : Sy) (x0 : Value) (H : AH) (Q : Value → AH → Prop) : Prop :=
 opt (binInt .andNot x0 (.int .u32 65535)) fun v1 =>
 opt (binInt .eql v1 (.int .u32 327680)) fun v2 =>
 ifB v2 (
 F.record_Action_Kind_j1 E Q v1 v2 H) (
 opt (binInt .eql v1 (.int .u32 2147221504)) fun v3 =>
 ifB v3 (
 F.record_Action_Kind_j1 E Q v1 v3 H) (
 opt (binInt .eql v1 (.int .u32 2147418112)) fun v4 =>
 F.record_Action_Kind_j1 E Q v1 v4 H))

/-- pinfold/pinfoldlaw03.Awake -/
def F.pinfoldlaw03_Awake (E : Sy) (H : AH) (Q : Value → AH → Prop) : Prop :=
 E.call (E.fid i.insn_Load) [(.int .u32 4)] H fun v1 H1 =>
 E.call (E.fid i.insn_Insn_Bytes) [v1] H1 fun v2 H2 =>
 allocW (zs 8 (.int .u8 0)) H2 fun v3 H3 =>
 opt (storeN 8 v3 v2 H3) fun H4 =>
 opt (slArr 8 1 v3 none none none) fun v4 =>
 opt (strOf v4 H4) fun v5 =>
 opt (binStr .eql v5 (.string ⟨#[32, 0, 0, 0, 4, 0, 0, 0]⟩)) fun v6 =>
 gd v6 true (fun k => E.call (E.fid i.insn_Known) [(.int .u16 32)] H4 fun v h => k v h) H4 fun v7 H5 =>
 opt (pick v6 v7 (.bool false)) fun v8 =>
 Q v8 H5

def F.insn_Known_j3 (E : Sy) (Q : Value → AH → Prop) (t0 t44 : Value) (H : AH) : Prop :=
 ifB t44 (
 E.call (E.fid i.insn_Class) [t0] H fun v1 H1 =>
 opt (binInt .eql v1 (.int .u16 5)) fun v2 =>
 Q v2 H1) (
 Q (.bool false) H)
def F.insn_Known_j2 (E : Sy) (Q : Value → AH → Prop) (t0 t3 : Value) (H : AH) : Prop :=
 opt (binInt .or t3 (.int .u16 7)) fun v1 =>
 opt (binInt .andNot t0 v1) fun v2 =>
 opt (binInt .eql v2 (.int .u16 16)) fun v3 =>
 ifB v3 (
 F.insn_Known_j3 E Q t0 v3 H) (
 opt (binInt .eql v2 (.int .u16 32)) fun v4 =>
 ifB v4 (
 F.insn_Known_j3 E Q t0 v4 H) (
 opt (binInt .eql v2 (.int .u16 48)) fun v5 =>
 ifB v5 (
 F.insn_Known_j3 E Q t0 v5 H) (
 opt (binInt .eql v2 (.int .u16 64)) fun v6 =>
 F.insn_Known_j3 E Q t0 v6 H)))
def F.insn_Known_j4 (E : Sy) (Q : Value → AH → Prop) (t0 t3 t27 : Value) (H : AH) : Prop :=
 ifB t27 (
 E.call (E.fid i.insn_Class) [t0] H fun v1 H1 =>
 opt (binInt .eql v1 (.int .u16 4)) fun v2 =>
 ifB v2 (
 Q (.bool true) H1) (
 F.insn_Known_j2 E Q t0 t3 H1)) (
 F.insn_Known_j2 E Q t0 t3 H)
def F.insn_Known_j1 (E : Sy) (Q : Value → AH → Prop) (t0 t5 : Value) (H : AH) : Prop :=
 ifB t5 (
 Q (.bool true) H) (
 opt (binInt .and t0 (.int .u16 8)) fun v1 =>
 opt (binInt .or v1 (.int .u16 7)) fun v2 =>
 opt (binInt .andNot t0 v2) fun v3 =>
 opt (binInt .eql v3 (.int .u16 0)) fun v4 =>
 ifB v4 (
 F.insn_Known_j4 E Q t0 v1 v4 H) (
 opt (binInt .eql v3 (.int .u16 16)) fun v5 =>
 ifB v5 (
 F.insn_Known_j4 E Q t0 v1 v5 H) (
 opt (binInt .eql v3 (.int .u16 32)) fun v6 =>
 ifB v6 (
 F.insn_Known_j4 E Q t0 v1 v6 H) (
 opt (binInt .eql v3 (.int .u16 48)) fun v7 =>
 ifB v7 (
 F.insn_Known_j4 E Q t0 v1 v7 H) (
 opt (binInt .eql v3 (.int .u16 64)) fun v8 =>
 ifB v8 (
 F.insn_Known_j4 E Q t0 v1 v8 H) (
 opt (binInt .eql v3 (.int .u16 80)) fun v9 =>
 ifB v9 (
 F.insn_Known_j4 E Q t0 v1 v9 H) (
 opt (binInt .eql v3 (.int .u16 96)) fun v10 =>
 ifB v10 (
 F.insn_Known_j4 E Q t0 v1 v10 H) (
 opt (binInt .eql v3 (.int .u16 112)) fun v11 =>
 ifB v11 (
 F.insn_Known_j4 E Q t0 v1 v11 H) (
 opt (binInt .eql v3 (.int .u16 160)) fun v12 =>
 F.insn_Known_j4 E Q t0 v1 v12 H)))))))))
/-- pinfold/insn.Known -/
def F.insn_Known (E : Sy) (x0 : Value) (H : AH) (Q : Value → AH → Prop) : Prop :=
 opt (binInt .eql x0 (.int .u16 32)) fun v1 =>
 ifB v1 (
 F.insn_Known_j1 E Q x0 v1 H) (
 opt (binInt .eql x0 (.int .u16 0)) fun v2 =>
 ifB v2 (
 F.insn_Known_j1 E Q x0 v2 H) (
 opt (binInt .eql x0 (.int .u16 96)) fun v3 =>
 ifB v3 (
 F.insn_Known_j1 E Q x0 v3 H) (
 opt (binInt .eql x0 (.int .u16 128)) fun v4 =>
 ifB v4 (
 F.insn_Known_j1 E Q x0 v4 H) (
 opt (binInt .eql x0 (.int .u16 1)) fun v5 =>
 ifB v5 (
 F.insn_Known_j1 E Q x0 v5 H) (
 opt (binInt .eql x0 (.int .u16 97)) fun v6 =>
 ifB v6 (
 F.insn_Known_j1 E Q x0 v6 H) (
 opt (binInt .eql x0 (.int .u16 129)) fun v7 =>
 ifB v7 (
 F.insn_Known_j1 E Q x0 v7 H) (
 opt (binInt .eql x0 (.int .u16 2)) fun v8 =>
 ifB v8 (
 F.insn_Known_j1 E Q x0 v8 H) (
 opt (binInt .eql x0 (.int .u16 3)) fun v9 =>
 ifB v9 (
 F.insn_Known_j1 E Q x0 v9 H) (
 opt (binInt .eql x0 (.int .u16 6)) fun v10 =>
 ifB v10 (
 F.insn_Known_j1 E Q x0 v10 H) (
 opt (binInt .eql x0 (.int .u16 22)) fun v11 =>
 ifB v11 (
 F.insn_Known_j1 E Q x0 v11 H) (
 opt (binInt .eql x0 (.int .u16 7)) fun v12 =>
 ifB v12 (
 F.insn_Known_j1 E Q x0 v12 H) (
 opt (binInt .eql x0 (.int .u16 135)) fun v13 =>
 ifB v13 (
 F.insn_Known_j1 E Q x0 v13 H) (
 opt (binInt .eql x0 (.int .u16 5)) fun v14 =>
 ifB v14 (
 F.insn_Known_j1 E Q x0 v14 H) (
 opt (binInt .eql x0 (.int .u16 132)) fun v15 =>
 F.insn_Known_j1 E Q x0 v15 H))))))))))))))

def F.pinfoldref03_Known_l3 (E : Sy) (Q : Value → AH → Prop) (t0 t7 : Value) (H : AH) (X0 : List Value → AH → Prop) : Prop :=
 opt (binInt .leq t7 (.int .i64 64)) fun v1 =>
 ifB v1 (
 opt (binInt .add t7 (.int .i64 5)) fun v2 =>
 opt (binInt .eql t0 v2) fun v3 =>
 gd v3 false (fun k => k t0 H) H fun v4 H1 =>
 gd v3 false (fun k => k t7 H1) H1 fun v5 H2 =>
 gd v3 false (fun k => opt (binInt .add v5 (.int .i64 13)) fun v => k v H2) H2 fun v6 H3 =>
 gd v3 false (fun k => opt (binInt .eql v4 v6) fun v => k v H3) H3 fun v7 H4 =>
 opt (pick v3 (.bool true) v7) fun v8 =>
 ifB v8 (
 Q (.bool true) H4) (
 opt (binInt .add t7 (.int .i64 16)) fun v9 =>
 X0 [t0, v9] H4)) (
 Q (.bool false) H)
def F.pinfoldref03_Known_l2 (E : Sy) (Q : Value → AH → Prop) (t0 t5 t6 : Value) (H : AH) (X0 : List Value → AH → Prop) : Prop :=
 opt (lenSlc t5) fun v1 =>
 opt (binInt .lss t6 v1) fun v2 =>
 ifB v2 (
 opt (ixSlc 1 t5 t6) fun v3 =>
 opt (load1 v3 H) fun v4 =>
 opt (binInt .add v4 (.int .i64 4)) fun v5 =>
 opt (binInt .eql t0 v5) fun v6 =>
 gd v6 false (fun k => k t0 H) H fun v7 H1 =>
 gd v6 false (fun k => k t5 H1) H1 fun v8 H2 =>
 gd v6 false (fun k => k t6 H2) H2 fun v9 H3 =>
 gd v6 false (fun k => opt (ixSlc 1 v8 v9) fun v => k v H3) H3 fun v10 H4 =>
 gd v6 false (fun k => opt (load1 v10 H4) fun v => k v H4) H4 fun v11 H5 =>
 gd v6 false (fun k => opt (binInt .add v11 (.int .i64 12)) fun v => k v H5) H5 fun v12 H6 =>
 gd v6 false (fun k => opt (binInt .eql v7 v12) fun v => k v H6) H6 fun v13 H7 =>
 opt (pick v6 (.bool true) v13) fun v14 =>
 ifB v14 (
 Q (.bool true) H7) (
 opt (binInt .add t6 (.int .i64 1)) fun v15 =>
 X0 [t0, t5, v15] H7)) (
 LoopL (fun l H X0 => F.pinfoldref03_Known_l3 E Q (nth l 0) (nth l 1) H X0) [t0, (.int .i64 16)] H)
def F.pinfoldref03_Known_l1 (E : Sy) (Q : Value → AH → Prop) (t0 t3 t4 : Value) (H : AH) (X0 : List Value → AH → Prop) : Prop :=
 opt (lenSlc t3) fun v1 =>
 opt (binInt .lss t4 v1) fun v2 =>
 ifB v2 (
 opt (ixSlc 1 t3 t4) fun v3 =>
 opt (load1 v3 H) fun v4 =>
 opt (binInt .eql v4 t0) fun v5 =>
 ifB v5 (
 Q (.bool true) H) (
 opt (binInt .add t4 (.int .i64 1)) fun v6 =>
 X0 [t0, t3, v6] H)) (
 mk (buildS 9 1 #[(.int .i64 0)] [(0, (.int .i64 0)), (1, (.int .i64 16)), (2, (.int .i64 32)), (3, (.int .i64 48)), (4, (.int .i64 64)), (5, (.int .i64 80)), (6, (.int .i64 96)), (7, (.int .i64 112)), (8, (.int .i64 160))]) H fun v7 H1 =>
 LoopL (fun l H X0 => F.pinfoldref03_Known_l2 E Q (nth l 0) (nth l 1) (nth l 2) H X0) [t0, v7, (.int .i64 0)] H1)
/-- pinfold/pinfoldref03.Known -/
def F.pinfoldref03_Known (E : Sy) (x0 : Value) (H : AH) (Q : Value → AH → Prop) : Prop :=
 mk (buildS 15 1 #[(.int .i64 0)] [(0, (.int .i64 32)), (1, (.int .i64 0)), (2, (.int .i64 96)), (3, (.int .i64 128)), (4, (.int .i64 1)), (5, (.int .i64 97)), (6, (.int .i64 129)), (7, (.int .i64 2)), (8, (.int .i64 3)), (9, (.int .i64 6)), (10, (.int .i64 22)), (11, (.int .i64 7)), (12, (.int .i64 135)), (13, (.int .i64 5)), (14, (.int .i64 132))]) H fun v1 H1 =>
 LoopL (fun l H X0 => F.pinfoldref03_Known_l1 E Q (nth l 0) (nth l 1) (nth l 2) H X0) [x0, v1, (.int .i64 0)] H1

/-- pinfold/insn.Class -/
def F.insn_Class (E : Sy) (x0 : Value) (H : AH) (Q : Value → AH → Prop) : Prop :=
 opt (binInt .and x0 (.int .u16 7)) fun v1 =>
 Q v1 H

/-- pinfold/record.Fail -/
def F.record_Fail (E : Sy) (x0 : Value) (H : AH) (Q : Value → AH → Prop) : Prop :=
 opt (fold2 max2 [x0, (.int .i64 0)]) fun v1 =>
 opt (fold2 min2 [v1, (.int .i64 4095)]) fun v2 =>
 opt (convInt .u32 v2) fun v3 =>
 opt (binInt .or (.int .u32 327680) v3) fun v4 =>
 Q v4 H

/-- pinfold/pinfoldref03.Strength -/
def F.pinfoldref03_Strength (E : Sy) (x0 : Value) (H : AH) (Q : Value → AH → Prop) : Prop :=
 opt (binInt .quo x0 (.int .u32 65536)) fun v1 =>
 opt (binInt .eql v1 (.int .u32 5)) fun v2 =>
 ifB v2 (
 Q (.int .i64 2) H) (
 opt (binInt .eql v1 (.int .u32 32764)) fun v3 =>
 ifB v3 (
 Q (.int .i64 1) H) (
 opt (binInt .eql v1 (.int .u32 32767)) fun v4 =>
 ifB v4 (
 Q (.int .i64 0) H) (
 Q (.int .i64 3) H)))

/-- (pinfold/record.Action).Number -/
def F.record_Action_Number (E : Sy) (x0 : Value) (H : AH) (Q : Value → AH → Prop) : Prop :=
 E.call (E.fid i.record_Action_Kind) [x0] H fun v1 H1 =>
 opt (binInt .neq v1 (.int .u32 327680)) fun v2 =>
 ifB v2 (
 Q (.int .i64 0) H1) (
 opt (binInt .and x0 (.int .u32 65535)) fun v3 =>
 opt (convInt .i64 v3) fun v4 =>
 Q v4 H1)

/-- pinfold/pinfoldref03.Stronger -/
def F.pinfoldref03_Stronger (E : Sy) (x0 x1 : Value) (H : AH) (Q : Value → AH → Prop) : Prop :=
 E.call (E.fid i.pinfoldref03_Strength) [x1] H fun v1 H1 =>
 E.call (E.fid i.pinfoldref03_Strength) [x0] H1 fun v2 H2 =>
 opt (binInt .gtr v1 v2) fun v3 =>
 ifB v3 (
 Q x1 H2) (
 Q x0 H2)

/-- pinfold/insn.Load -/
def F.insn_Load (E : Sy) (x0 : Value) (H : AH) (Q : Value → AH → Prop) : Prop :=
 allocW [(.int .u16 0), (.int .u8 0), (.int .u8 0), (.int .u32 0)] H fun v1 H1 =>
 opt (buildV [(0, 1), (1, 1), (2, 1), (3, 1)] #[(.int .u16 0), (.int .u8 0), (.int .u8 0), (.int .u32 0)] [(0, (.int .u16 32)), (3, x0)]) fun v2 =>
 opt (storeN 4 v1 v2 H1) fun H2 =>
 opt (loadN 4 v1 H2) fun v3 =>
 Q v3 H2

/-- pinfold/insn.Return -/
def F.insn_Return (E : Sy) (x0 : Value) (H : AH) (Q : Value → AH → Prop) : Prop :=
 allocW [(.int .u16 0), (.int .u8 0), (.int .u8 0), (.int .u32 0)] H fun v1 H1 =>
 opt (buildV [(0, 1), (1, 1), (2, 1), (3, 1)] #[(.int .u16 0), (.int .u8 0), (.int .u8 0), (.int .u32 0)] [(0, (.int .u16 6)), (3, x0)]) fun v2 =>
 opt (storeN 4 v1 v2 H1) fun H2 =>
 opt (loadN 4 v1 H2) fun v3 =>
 Q v3 H2

/-- pinfold/insn.Skip -/
def F.insn_Skip (E : Sy) (x0 : Value) (H : AH) (Q : Value → AH → Prop) : Prop :=
 allocW [(.int .u16 0), (.int .u8 0), (.int .u8 0), (.int .u32 0)] H fun v1 H1 =>
 opt (buildV [(0, 1), (1, 1), (2, 1), (3, 1)] #[(.int .u16 0), (.int .u8 0), (.int .u8 0), (.int .u32 0)] [(0, (.int .u16 5)), (3, x0)]) fun v2 =>
 opt (storeN 4 v1 v2 H1) fun H2 =>
 opt (loadN 4 v1 H2) fun v3 =>
 Q v3 H2

/-- pinfold/insn.Mask -/
def F.insn_Mask (E : Sy) (x0 : Value) (H : AH) (Q : Value → AH → Prop) : Prop :=
 allocW [(.int .u16 0), (.int .u8 0), (.int .u8 0), (.int .u32 0)] H fun v1 H1 =>
 opt (buildV [(0, 1), (1, 1), (2, 1), (3, 1)] #[(.int .u16 0), (.int .u8 0), (.int .u8 0), (.int .u32 0)] [(0, (.int .u16 84)), (3, x0)]) fun v2 =>
 opt (storeN 4 v1 v2 H1) fun H2 =>
 opt (loadN 4 v1 H2) fun v3 =>
 Q v3 H2

/-- pinfold/insn.If -/
def F.insn_If (E : Sy) (x0 x1 x2 x3 : Value) (H : AH) (Q : Value → AH → Prop) : Prop :=
 allocW [(.int .u16 0), (.int .u8 0), (.int .u8 0), (.int .u32 0)] H fun v1 H1 =>
 opt (binInt .or (.int .u16 5) x0) fun v2 =>
 opt (binInt .or v2 (.int .u16 0)) fun v3 =>
 opt (buildV [(0, 1), (1, 1), (2, 1), (3, 1)] #[(.int .u16 0), (.int .u8 0), (.int .u8 0), (.int .u32 0)] [(0, v3), (1, x2), (2, x3), (3, x1)]) fun v4 =>
 opt (storeN 4 v1 v4 H1) fun H2 =>
 opt (loadN 4 v1 H2) fun v5 =>
 Q v5 H2

def F.insn_Insn_Bytes_l1 (E : Sy) (Q : Value → AH → Prop) (t1 t2 t3 t20 : Value) (H : AH) (X0 : List Value → AH → Prop) : Prop :=
 opt (binInt .lss t20 (.int .i64 4)) fun v1 =>
 ifB v1 (
 opt (binInt .add (.int .i64 4) t20) fun v2 =>
 opt (addOff t1 3) fun v3 =>
 opt (load1 v3 H) fun v4 =>
 opt (binInt .mul (.int .i64 8) t20) fun v5 =>
 opt (binInt .shr v4 v5) fun v6 =>
 opt (convInt .u8 v6) fun v7 =>
 opt (ixArr 8 1 t3 v2) fun v8 =>
 opt (store1 v8 v7 H) fun H1 =>
 opt (binInt .add t20 (.int .i64 1)) fun v9 =>
 X0 [t1, t2, t3, v9] H1) (
 opt (loadN 8 t3 H) fun v10 =>
 opt (storeN 8 t2 v10 H) fun H2 =>
 opt (loadN 8 t2 H2) fun v11 =>
 Q v11 H2)
/-- (pinfold/insn.Insn).Bytes -/
def F.insn_Insn_Bytes (E : Sy) (x0 : Value) (H : AH) (Q : Value → AH → Prop) : Prop :=
 mk (boxO x0) H fun v1 H1 =>
 allocW (zs 8 (.int .u8 0)) H1 fun v2 H2 =>
 allocW (zs 8 (.int .u8 0)) H2 fun v3 H3 =>
 opt (addOff v1 0) fun v4 =>
 opt (load1 v4 H3) fun v5 =>
 opt (convInt .u8 v5) fun v6 =>
 opt (addOff v1 0) fun v7 =>
 opt (load1 v7 H3) fun v8 =>
 opt (binInt .shr v8 (.int .u64 8)) fun v9 =>
 opt (convInt .u8 v9) fun v10 =>
 opt (addOff v1 1) fun v11 =>
 opt (load1 v11 H3) fun v12 =>
 opt (addOff v1 2) fun v13 =>
 opt (load1 v13 H3) fun v14 =>
 opt (ixArr 8 1 v3 (.int .i64 0)) fun v15 =>
 opt (store1 v15 v6 H3) fun H4 =>
 load1 v13 H4 = load1 v13 H3 ∧
 load1 v11 H4 = load1 v11 H3 ∧
 load1 v7 H4 = load1 v7 H3 ∧
 opt (ixArr 8 1 v3 (.int .i64 1)) fun v16 =>
 opt (store1 v16 v10 H4) fun H5 =>
 load1 v13 H5 = load1 v13 H3 ∧
 load1 v11 H5 = load1 v11 H3 ∧
 opt (ixArr 8 1 v3 (.int .i64 2)) fun v17 =>
 opt (store1 v17 v12 H5) fun H6 =>
 load1 v13 H6 = load1 v13 H3 ∧
 opt (ixArr 8 1 v3 (.int .i64 3)) fun v18 =>
 opt (store1 v18 v14 H6) fun H7 =>
 LoopL (fun l H X0 => F.insn_Insn_Bytes_l1 E Q (nth l 0) (nth l 1) (nth l 2) (nth l 3) H X0) [v1, v2, v3, (.int .i64 0)] H7

/-- pinfold/pinfoldlaw03.Ref -/
def F.pinfoldlaw03_Ref (E : Sy) (x0 : Value) (H : AH) (Q : Value → AH → Prop) : Prop :=
 mk (boxO x0) H fun v1 H1 =>
 allocW [(.int .i64 0), (.int .i64 0), (.int .i64 0), (.int .u32 0)] H1 fun v2 H2 =>
 opt (addOff v1 0) fun v3 =>
 opt (load1 v3 H2) fun v4 =>
 opt (convInt .i64 v4) fun v5 =>
 opt (addOff v1 1) fun v6 =>
 opt (load1 v6 H2) fun v7 =>
 opt (convInt .i64 v7) fun v8 =>
 opt (addOff v1 2) fun v9 =>
 opt (load1 v9 H2) fun v10 =>
 opt (convInt .i64 v10) fun v11 =>
 opt (addOff v1 3) fun v12 =>
 opt (load1 v12 H2) fun v13 =>
 opt (buildV [(0, 1), (1, 1), (2, 1), (3, 1)] #[(.int .i64 0), (.int .i64 0), (.int .i64 0), (.int .u32 0)] [(0, v5), (1, v8), (2, v11), (3, v13)]) fun v14 =>
 opt (storeN 4 v2 v14 H2) fun H3 =>
 opt (loadN 4 v2 H3) fun v15 =>
 Q v15 H3

/-- pinfold/pinfoldref03.Bytes -/
def F.pinfoldref03_Bytes (E : Sy) (x0 : Value) (H : AH) (Q : Value → AH → Prop) : Prop :=
 mk (boxO x0) H fun v1 H1 =>
 opt (addOff v1 0) fun v2 =>
 opt (load1 v2 H1) fun v3 =>
 opt (binInt .rem v3 (.int .i64 256)) fun v4 =>
 opt (convInt .u8 v4) fun v5 =>
 opt (addOff v1 0) fun v6 =>
 opt (load1 v6 H1) fun v7 =>
 opt (binInt .quo v7 (.int .i64 256)) fun v8 =>
 opt (convInt .u8 v8) fun v9 =>
 opt (addOff v1 1) fun v10 =>
 opt (load1 v10 H1) fun v11 =>
 opt (convInt .u8 v11) fun v12 =>
 opt (addOff v1 2) fun v13 =>
 opt (load1 v13 H1) fun v14 =>
 opt (convInt .u8 v14) fun v15 =>
 opt (addOff v1 3) fun v16 =>
 opt (load1 v16 H1) fun v17 =>
 opt (binInt .rem v17 (.int .u32 256)) fun v18 =>
 opt (convInt .u8 v18) fun v19 =>
 opt (addOff v1 3) fun v20 =>
 opt (load1 v20 H1) fun v21 =>
 opt (binInt .quo v21 (.int .u32 256)) fun v22 =>
 opt (binInt .rem v22 (.int .u32 256)) fun v23 =>
 opt (convInt .u8 v23) fun v24 =>
 opt (addOff v1 3) fun v25 =>
 opt (load1 v25 H1) fun v26 =>
 opt (binInt .quo v26 (.int .u32 65536)) fun v27 =>
 opt (binInt .rem v27 (.int .u32 256)) fun v28 =>
 opt (convInt .u8 v28) fun v29 =>
 opt (addOff v1 3) fun v30 =>
 opt (load1 v30 H1) fun v31 =>
 opt (binInt .quo v31 (.int .u32 16777216)) fun v32 =>
 opt (convInt .u8 v32) fun v33 =>
 mk (buildS 8 1 #[(.int .u8 0)] [(0, v5), (1, v9), (2, v12), (3, v15), (4, v19), (5, v24), (6, v29), (7, v33)]) H1 fun v34 H2 =>
 Q v34 H2

def F.insn_Of_l1 (E : Sy) (Q : Value → AH → Prop) (t1 t2 t3 t6 t7 t8 : Value) (H : AH) (X0 : List Value → AH → Prop) : Prop :=
 opt (binInt .lss t8 t7) fun v1 =>
 ifB v1 (
 opt (ixSlc 1 t6 t8) fun v2 =>
 opt (load1 v2 H) fun v3 =>
 opt (convInt .u32 v3) fun v4 =>
 opt (binInt .mul (.int .i64 8) t8) fun v5 =>
 opt (binInt .shl v4 v5) fun v6 =>
 opt (binInt .or t3 v6) fun v7 =>
 opt (binInt .add t8 (.int .i64 1)) fun v8 =>
 X0 [t1, t2, v7, t6, t7, v8] H) (
 opt (ixArr 8 1 t1 (.int .i64 0)) fun v9 =>
 opt (load1 v9 H) fun v10 =>
 opt (convInt .u16 v10) fun v11 =>
 opt (ixArr 8 1 t1 (.int .i64 1)) fun v12 =>
 opt (load1 v12 H) fun v13 =>
 opt (convInt .u16 v13) fun v14 =>
 opt (binInt .shl v14 (.int .u64 8)) fun v15 =>
 opt (binInt .or v11 v15) fun v16 =>
 opt (ixArr 8 1 t1 (.int .i64 2)) fun v17 =>
 opt (load1 v17 H) fun v18 =>
 opt (ixArr 8 1 t1 (.int .i64 3)) fun v19 =>
 opt (load1 v19 H) fun v20 =>
 opt (buildV [(0, 1), (1, 1), (2, 1), (3, 1)] #[(.int .u16 0), (.int .u8 0), (.int .u8 0), (.int .u32 0)] [(0, v16), (1, v18), (2, v20), (3, t3)]) fun v21 =>
 opt (storeN 4 t2 v21 H) fun H1 =>
 opt (loadN 4 t2 H1) fun v22 =>
 Q v22 H1)
/-- pinfold/insn.Of -/
def F.insn_Of (E : Sy) (x0 : Value) (H : AH) (Q : Value → AH → Prop) : Prop :=
 mk (boxO x0) H fun v1 H1 =>
 allocW [(.int .u16 0), (.int .u8 0), (.int .u8 0), (.int .u32 0)] H1 fun v2 H2 =>
 opt (slArr 8 1 v1 (some (.int .i64 4)) none none) fun v3 =>
 opt (lenSlc v3) fun v4 =>
 LoopL (fun l H X0 => F.insn_Of_l1 E Q (nth l 0) (nth l 1) (nth l 2) (nth l 3) (nth l 4) (nth l 5) H X0) [v1, v2, (.int .u32 0), v3, v4, (.int .i64 0)] H2

def F.insn_Encode_l1 (E : Sy) (Q : Value → AH → Prop) (t3 t11 t12 t13 : Value) (H : AH) (X0 : List Value → AH → Prop) : Prop :=
 opt (binInt .lss t13 t12) fun v1 =>
 ifB v1 (
 opt (ixSlc 4 t11 t13) fun v2 =>
 opt (loadN 4 v2 H) fun v3 =>
 allocW [(.int .u16 0), (.int .u8 0), (.int .u8 0), (.int .u32 0)] H fun v4 H1 =>
 opt (storeN 4 v4 v3 H1) fun H2 =>
 opt (loadN 4 v4 H2) fun v5 =>
 E.call (E.fid i.insn_Insn_Bytes) [v5] H2 fun v6 H3 =>
 allocW (zs 8 (.int .u8 0)) H3 fun v7 H4 =>
 opt (storeN 8 v7 v6 H4) fun H5 =>
 opt (slArr 8 1 v7 none none none) fun v8 =>
 opt2 (app 1 1 t3 v8 H5) fun v9 H6 =>
 opt (binInt .add t13 (.int .i64 1)) fun v10 =>
 X0 [v9, t11, t12, v10] H6) (
 Q t3 H)
/-- pinfold/insn.Encode -/
def F.insn_Encode (E : Sy) (x0 : Value) (H : AH) (Q : Value → AH → Prop) : Prop :=
 opt (lenSlc x0) fun v1 =>
 opt (binInt .mul v1 (.int .i64 8)) fun v2 =>
 mk (makeS 1 1 #[(.int .u8 0)] (.int .i64 0) v2) H fun v3 H1 =>
 opt (lenSlc x0) fun v4 =>
 LoopL (fun l H X0 => F.insn_Encode_l1 E Q (nth l 0) (nth l 1) (nth l 2) (nth l 3) H X0) [v3, x0, v4, (.int .i64 0)] H1

def F.insn_Decode_l1 (E : Sy) (Q : Value → AH → Prop) (t0 t4 : Value) (H : AH) (X0 : List Value → AH → Prop) : Prop :=
 opt (lenSlc t0) fun v1 =>
 opt (binInt .gtr v1 (.int .i64 0)) fun v2 =>
 ifB v2 (
 opt (slSlc 1 t0 none (some (.int .i64 8)) none H) fun v3 =>
 opt (arrPtr 8 v3) fun v4 =>
 opt (loadN 8 v4 H) fun v5 =>
 E.call (E.fid i.insn_Of) [v5] H fun v6 H1 =>
 mk (buildS 1 4 #[(.int .u16 0), (.int .u8 0), (.int .u8 0), (.int .u32 0)] [(0, v6)]) H1 fun v7 H2 =>
 opt2 (app 4 8 t4 v7 H2) fun v8 H3 =>
 opt (slSlc 1 t0 (some (.int .i64 8)) none none H3) fun v9 =>
 X0 [v9, v8] H3) (
 Q (.tuple #[t4, (.int .i64 0)]) H)
/-- pinfold/insn.Decode -/
def F.insn_Decode (E : Sy) (x0 : Value) (H : AH) (Q : Value → AH → Prop) : Prop :=
 opt (lenSlc x0) fun v1 =>
 opt (binInt .rem v1 (.int .i64 8)) fun v2 =>
 opt (binInt .neq v2 (.int .i64 0)) fun v3 =>
 ifB v3 (
 Q (.tuple #[(.slice none 0 0), (.int .i64 203)]) H) (
 opt (lenSlc x0) fun v4 =>
 opt (binInt .quo v4 (.int .i64 8)) fun v5 =>
 opt (binInt .gtr v5 (.int .i64 4096)) fun v6 =>
 ifB v6 (
 Q (.tuple #[(.slice none 0 0), (.int .i64 205)]) H) (
 LoopL (fun l H X0 => F.insn_Decode_l1 E Q (nth l 0) (nth l 1) H X0) [x0, (.slice none 0 0)] H))

def F.pinfoldlaw03_same_l1 (E : Sy) (Q : Value → AH → Prop) (t0 t1 t12 t13 : Value) (H : AH) (X0 : List Value → AH → Prop) : Prop :=
 opt (binInt .lss t13 t12) fun v1 =>
 ifB v1 (
 opt (ixSlc 4 t0 t13) fun v2 =>
 opt (loadN 4 v2 H) fun v3 =>
 opt (ixSlc 4 t1 t13) fun v4 =>
 opt (loadN 4 v4 H) fun v5 =>
 opt (binAgg [0, 0, 0, 0] .neq v3 v5) fun v6 =>
 ifB v6 (
 Q (.bool false) H) (
 opt (binInt .add t13 (.int .i64 1)) fun v7 =>
 X0 [t0, t1, t12, v7] H)) (
 Q (.bool true) H)
/-- pinfold/pinfoldlaw03.same -/
def F.pinfoldlaw03_same (E : Sy) (x0 x1 : Value) (H : AH) (Q : Value → AH → Prop) : Prop :=
 opt (lenSlc x0) fun v1 =>
 opt (lenSlc x1) fun v2 =>
 opt (binInt .neq v1 v2) fun v3 =>
 ifB v3 (
 Q (.bool false) H) (
 opt (lenSlc x0) fun v4 =>
 LoopL (fun l H X0 => F.pinfoldlaw03_same_l1 E Q (nth l 0) (nth l 1) (nth l 2) (nth l 3) H X0) [x0, x1, v4, (.int .i64 0)] H)

def F.record_Record_Bytes_l1 (E : Sy) (Q : Value → AH → Prop) (t2 t3 t21 t22 : Value) (H : AH) (X0 : List Value → AH → Prop) : Prop :=
 opt (binInt .lss t22 (.int .i64 6)) fun v1 =>
 ifB v1 (
 opt (ixAgg1 6 1 t21 t22) fun v2 =>
 opt (binInt .mul (.int .i64 8) t22) fun v3 =>
 opt (binInt .add (.int .i64 16) v3) fun v4 =>
 opt (slArr 64 1 t3 (some v4) none none) fun v5 =>
 E.call (E.fid i.record_put) [v5, v2, (.int .i64 8)] H fun v6 H1 =>
 opt (binInt .add t22 (.int .i64 1)) fun v7 =>
 X0 [t2, t3, t21, v7] H1) (
 opt (loadN 64 t3 H) fun v8 =>
 opt (storeN 64 t2 v8 H) fun H2 =>
 opt (loadN 64 t2 H2) fun v9 =>
 Q v9 H2)
/-- (pinfold/record.Record).Bytes -/
def F.record_Record_Bytes (E : Sy) (x0 : Value) (H : AH) (Q : Value → AH → Prop) : Prop :=
 mk (boxO x0) H fun v1 H1 =>
 allocW (zs 64 (.int .u8 0)) H1 fun v2 H2 =>
 allocW (zs 64 (.int .u8 0)) H2 fun v3 H3 =>
 opt (slArr 64 1 v3 (some (.int .i64 0)) none none) fun v4 =>
 opt (addOff v1 0) fun v5 =>
 opt (load1 v5 H3) fun v6 =>
 opt (convInt .u64 v6) fun v7 =>
 E.call (E.fid i.record_put) [v4, v7, (.int .i64 4)] H3 fun v8 H4 =>
 opt (slArr 64 1 v3 (some (.int .i64 4)) none none) fun v9 =>
 opt (addOff v1 1) fun v10 =>
 opt (load1 v10 H4) fun v11 =>
 opt (convInt .u64 v11) fun v12 =>
 E.call (E.fid i.record_put) [v9, v12, (.int .i64 4)] H4 fun v13 H5 =>
 opt (slArr 64 1 v3 (some (.int .i64 8)) none none) fun v14 =>
 opt (addOff v1 2) fun v15 =>
 opt (load1 v15 H5) fun v16 =>
 E.call (E.fid i.record_put) [v14, v16, (.int .i64 8)] H5 fun v17 H6 =>
 opt (addOff v1 3) fun v18 =>
 opt (loadN 6 v18 H6) fun v19 =>
 LoopL (fun l H X0 => F.record_Record_Bytes_l1 E Q (nth l 0) (nth l 1) (nth l 2) (nth l 3) H X0) [v2, v3, v19, (.int .i64 0)] H6

/-- pinfold/pinfoldlaw04.Ref -/
def F.pinfoldlaw04_Ref (E : Sy) (x0 : Value) (H : AH) (Q : Value → AH → Prop) : Prop :=
 mk (boxO x0) H fun v1 H1 =>
 allocW (zs 16 (.int .u32 0)) H1 fun v2 H2 =>
 opt (addOff v1 0) fun v3 =>
 opt (load1 v3 H2) fun v4 =>
 opt (addOff v1 1) fun v5 =>
 opt (load1 v5 H2) fun v6 =>
 opt (addOff v1 2) fun v7 =>
 opt (load1 v7 H2) fun v8 =>
 opt (addOff v1 3) fun v9 =>
 opt (loadN 6 v9 H2) fun v10 =>
 E.call (E.fid i.pinfoldref03_Of) [v4, v6, v8, v10] H2 fun v11 H3 =>
 opt (storeN 16 v2 v11 H3) fun H4 =>
 opt (loadN 16 v2 H4) fun v12 =>
 Q v12 H4

def F.record_Of_l1 (E : Sy) (Q : Value → AH → Prop) (t1 t2 t3 t14 : Value) (H : AH) (X0 : List Value → AH → Prop) : Prop :=
 opt (binInt .lss t14 (.int .i64 6)) fun v1 =>
 ifB v1 (
 opt (binInt .mul (.int .i64 8) t14) fun v2 =>
 opt (binInt .add (.int .i64 16) v2) fun v3 =>
 opt (slArr 64 1 t1 (some v3) none none) fun v4 =>
 E.call (E.fid i.record_take) [v4, (.int .i64 8)] H fun v5 H1 =>
 opt (addOff t3 3) fun v6 =>
 opt (ixArr 6 1 v6 t14) fun v7 =>
 opt (store1 v7 v5 H1) fun H2 =>
 opt (binInt .add t14 (.int .i64 1)) fun v8 =>
 X0 [t1, t2, t3, v8] H2) (
 opt (loadN 9 t3 H) fun v9 =>
 opt (storeN 9 t2 v9 H) fun H3 =>
 opt (loadN 9 t2 H3) fun v10 =>
 Q v10 H3)
/-- pinfold/record.Of -/
def F.record_Of (E : Sy) (x0 : Value) (H : AH) (Q : Value → AH → Prop) : Prop :=
 mk (boxO x0) H fun v1 H1 =>
 allocW [(.int .u32 0), (.int .u32 0), (.int .u64 0), (.int .u64 0), (.int .u64 0), (.int .u64 0), (.int .u64 0), (.int .u64 0), (.int .u64 0)] H1 fun v2 H2 =>
 opt (slArr 64 1 v1 (some (.int .i64 0)) none none) fun v3 =>
 opt (slArr 64 1 v1 (some (.int .i64 4)) none none) fun v4 =>
 opt (slArr 64 1 v1 (some (.int .i64 8)) none none) fun v5 =>
 allocW [(.int .u32 0), (.int .u32 0), (.int .u64 0), (.int .u64 0), (.int .u64 0), (.int .u64 0), (.int .u64 0), (.int .u64 0), (.int .u64 0)] H2 fun v6 H3 =>
 E.call (E.fid i.record_take) [v3, (.int .i64 4)] H3 fun v7 H4 =>
 H4.get H2.next = H3.get H2.next ∧
 opt (convInt .u32 v7) fun v8 =>
 E.call (E.fid i.record_take) [v4, (.int .i64 4)] H4 fun v9 H5 =>
 H5.get H2.next = H3.get H2.next ∧
 opt (convInt .u32 v9) fun v10 =>
 E.call (E.fid i.record_take) [v5, (.int .i64 8)] H5 fun v11 H6 =>
 H6.get H2.next = H3.get H2.next ∧
 opt (buildV [(0, 1), (1, 1), (2, 1), (3, 6)] #[(.int .u32 0), (.int .u32 0), (.int .u64 0), (.int .u64 0), (.int .u64 0), (.int .u64 0), (.int .u64 0), (.int .u64 0), (.int .u64 0)] [(0, v8), (1, v10), (2, v11)]) fun v12 =>
 opt (storeN 9 v6 v12 H6) fun H7 =>
 LoopL (fun l H X0 => F.record_Of_l1 E Q (nth l 0) (nth l 1) (nth l 2) (nth l 3) H X0) [v1, v2, v6, (.int .i64 0)] H7

/-- (pinfold/record.Record).Word -/
def F.record_Record_Word (E : Sy) (x0 x1 : Value) (H : AH) (Q : Value → AH → Prop) : Prop :=
 mk (boxO x0) H fun v1 H1 =>
 opt (binInt .rem x1 (.int .u32 4)) fun v2 =>
 opt (binInt .neq v2 (.int .u32 0)) fun v3 =>
 gd v3 false (fun k => k x1 H1) H1 fun v4 H2 =>
 gd v3 false (fun k => opt (binInt .gtr v4 (.int .u32 60)) fun v => k v H2) H2 fun v5 H3 =>
 opt (pick v3 (.bool true) v5) fun v6 =>
 ifB v6 (
 Q (.tuple #[(.int .u32 0), (.bool false)]) H3) (
 opt (loadN 9 v1 H3) fun v7 =>
 E.call (E.fid i.record_Record_Bytes) [v7] H3 fun v8 H4 =>
 allocW (zs 64 (.int .u8 0)) H4 fun v9 H5 =>
 opt (storeN 64 v9 v8 H5) fun H6 =>
 opt (slArr 64 1 v9 (some x1) none none) fun v10 =>
 E.call (E.fid i.record_take) [v10, (.int .i64 4)] H6 fun v11 H7 =>
 opt (convInt .u32 v11) fun v12 =>
 Q (.tuple #[v12, (.bool true)]) H7)

/-- pinfold/record.Half -/
def F.record_Half (E : Sy) (x0 x1 : Value) (H : AH) (Q : Value → AH → Prop) : Prop :=
 opt (fold2 max2 [x0, (.int .i64 0)]) fun v1 =>
 opt (fold2 min2 [v1, (.int .i64 5)]) fun v2 =>
 opt (binInt .mul (.int .i64 8) v2) fun v3 =>
 opt (binInt .add (.int .i64 16) v3) fun v4 =>
 opt (convInt .u32 v4) fun v5 =>
 ifB x1 (
 opt (binInt .add v5 (.int .u32 4)) fun v6 =>
 Q v6 H) (
 Q v5 H)

/-- pinfold/pinfoldlaw11.Awake -/
def F.pinfoldlaw11_Awake (E : Sy) (H : AH) (Q : Value → AH → Prop) : Prop :=
 opt (buildV [(0, 1), (1, 1), (2, 1), (3, 1)] #[(.int .i64 0), (.int .u8 0), (.int .u64 0), (.int .u64 0)] [(0, (.int .i64 1)), (1, (.int .u8 7)), (2, (.int .u64 2)), (3, (.int .u64 2))]) fun v1 =>
 allocW [(.int .i64 0), (.int .u8 0), (.int .u64 0), (.int .u64 0)] H fun v2 H1 =>
 opt (storeN 4 v2 v1 H1) fun H2 =>
 opt (buildV [(0, 1), (1, 1), (2, 1)] #[(.int .u32 0), (.int .u32 0), (.slice none 0 0)] [(0, (.int .u32 2)), (1, (.int .u32 2147418112))]) fun v3 =>
 opt (loadN 4 v2 H2) fun v4 =>
 mk (buildS 1 4 #[(.int .i64 0), (.int .u8 0), (.int .u64 0), (.int .u64 0)] [(0, v4)]) H2 fun v5 H3 =>
 allocW [(.string ⟨#[]⟩), (.int .u32 0), (.slice none 0 0), (.int .u16 0), (.slice none 0 0), (.slice none 0 0)] H3 fun v6 H4 =>
 E.call (E.fid i.record_Fail) [(.int .i64 13)] H4 fun v7 H5 =>
 H5.get H3.next = H4.get H3.next ∧
 H5.get H2.next = H3.get H2.next ∧
 loadN 4 v2 H5 = loadN 4 v2 H2 ∧
 opt (buildV [(0, 1), (1, 1), (2, 1)] #[(.int .u32 0), (.int .u32 0), (.slice none 0 0)] [(0, (.int .u32 2)), (1, v7), (2, v5)]) fun v8 =>
 mk (buildS 2 3 #[(.int .u32 0), (.int .u32 0), (.slice none 0 0)] [(0, v3), (1, v8)]) H5 fun v9 H6 =>
 opt (buildV [(0, 1), (1, 1), (2, 1), (3, 1), (4, 1), (5, 1)] #[(.string ⟨#[]⟩), (.int .u32 0), (.slice none 0 0), (.int .u16 0), (.slice none 0 0), (.slice none 0 0)] [(1, (.int .u32 2147483648)), (2, v9)]) fun v10 =>
 opt (storeN 6 v6 v10 H6) fun H7 =>
 opt (loadN 6 v6 H7) fun v11 =>
 opt (buildA 1 #[(.int .u64 0), (.int .u64 0), (.int .u64 0), (.int .u64 0), (.int .u64 0), (.int .u64 0)] [(0, (.int .u64 0)), (1, (.int .u64 3))]) fun v12 =>
 opt (buildV [(0, 1), (1, 1), (2, 1), (3, 6)] #[(.int .u32 0), (.int .u32 0), (.int .u64 0), (.int .u64 0), (.int .u64 0), (.int .u64 0), (.int .u64 0), (.int .u64 0), (.int .u64 0)] [(0, (.int .u32 2)), (1, (.int .u32 3221225534)), (3, v12)]) fun v13 =>
 E.call (E.fid i.mean_Says) [v11, v13] H7 fun v14 H8 =>
 opt (binInt .eql v14 (.int .u32 327693)) fun v15 =>
 Q v15 H8

def F.pinfoldlaw09_Few_l2 (E : Sy) (Q : Value → AH → Prop) (t1 t20 t21 t22 : Value) (H : AH) (X0 : List Value → AH → Prop) : Prop :=
 opt (binInt .lss t22 t21) fun v1 =>
 ifB v1 (
 opt (ixSlc 2 t20 t22) fun v2 =>
 opt (loadN 2 v2 H) fun v3 =>
 allocW [(.string ⟨#[]⟩), (.int .u16 0)] H fun v4 H1 =>
 opt (storeN 2 v4 v3 H1) fun H2 =>
 opt (addOff v4 0) fun v5 =>
 opt (load1 v5 H2) fun v6 =>
 opt (lenStr v6) fun v7 =>
 opt (binInt .gtr v7 (.int .i64 200)) fun v8 =>
 ifB v8 (
 Q (.bool false) H2) (
 opt (binInt .add t22 (.int .i64 1)) fun v9 =>
 X0 [t1, t20, t21, v9] H2)) (
 opt (addOff t1 2) fun v10 =>
 opt (load1 v10 H) fun v11 =>
 opt (lenSlc v11) fun v12 =>
 opt (binInt .leq v12 (.int .i64 80)) fun v13 =>
 gd v13 true (fun k => opt (addOff t1 4) fun v => k v H) H fun v14 H3 =>
 gd v13 true (fun k => opt (load1 v14 H3) fun v => k v H3) H3 fun v15 H4 =>
 gd v13 true (fun k => opt (lenSlc v15) fun v => k v H4) H4 fun v16 H5 =>
 gd v13 true (fun k => opt (binInt .leq v16 (.int .i64 50)) fun v => k v H5) H5 fun v17 H6 =>
 opt (pick v13 v17 (.bool false)) fun v18 =>
 gd v18 true (fun k => opt (addOff t1 5) fun v => k v H6) H6 fun v19 H7 =>
 gd v18 true (fun k => opt (load1 v19 H7) fun v => k v H7) H7 fun v20 H8 =>
 gd v18 true (fun k => opt (lenSlc v20) fun v => k v H8) H8 fun v21 H9 =>
 gd v18 true (fun k => opt (binInt .leq v21 (.int .i64 50)) fun v => k v H9) H9 fun v22 H10 =>
 opt (pick v18 v22 (.bool false)) fun v23 =>
 gd v23 true (fun k => opt (addOff t1 0) fun v => k v H10) H10 fun v24 H11 =>
 gd v23 true (fun k => opt (load1 v24 H11) fun v => k v H11) H11 fun v25 H12 =>
 gd v23 true (fun k => opt (lenStr v25) fun v => k v H12) H12 fun v26 H13 =>
 gd v23 true (fun k => opt (binInt .leq v26 (.int .i64 100)) fun v => k v H13) H13 fun v27 H14 =>
 opt (pick v23 v27 (.bool false)) fun v28 =>
 Q v28 H14)
def F.pinfoldlaw09_Few_l1 (E : Sy) (Q : Value → AH → Prop) (t1 t8 t9 t10 : Value) (H : AH) (X0 : List Value → AH → Prop) : Prop :=
 opt (binInt .lss t10 t9) fun v1 =>
 ifB v1 (
 opt (ixSlc 3 t8 t10) fun v2 =>
 opt (loadN 3 v2 H) fun v3 =>
 allocW [(.int .u32 0), (.int .u32 0), (.slice none 0 0)] H fun v4 H1 =>
 opt (storeN 3 v4 v3 H1) fun H2 =>
 opt (addOff v4 2) fun v5 =>
 opt (load1 v5 H2) fun v6 =>
 opt (lenSlc v6) fun v7 =>
 opt (binInt .gtr v7 (.int .i64 20)) fun v8 =>
 ifB v8 (
 Q (.bool false) H2) (
 opt (binInt .add t10 (.int .i64 1)) fun v9 =>
 X0 [t1, t8, t9, v9] H2)) (
 opt (addOff t1 4) fun v10 =>
 opt (load1 v10 H) fun v11 =>
 opt (lenSlc v11) fun v12 =>
 LoopL (fun l H X0 => F.pinfoldlaw09_Few_l2 E Q (nth l 0) (nth l 1) (nth l 2) (nth l 3) H X0) [t1, v11, v12, (.int .i64 0)] H)
/-- pinfold/pinfoldlaw09.Few -/
def F.pinfoldlaw09_Few (E : Sy) (x0 : Value) (H : AH) (Q : Value → AH → Prop) : Prop :=
 mk (boxO x0) H fun v1 H1 =>
 opt (addOff v1 2) fun v2 =>
 opt (load1 v2 H1) fun v3 =>
 opt (lenSlc v3) fun v4 =>
 LoopL (fun l H X0 => F.pinfoldlaw09_Few_l1 E Q (nth l 0) (nth l 1) (nth l 2) (nth l 3) H X0) [v1, v3, v4, (.int .i64 0)] H1

def F.pinfoldlaw09_Small_Policy_l2 (E : Sy) (Q : Value → AH → Prop) (t2 t4 t11 t16 t131 t132 t133 : Value) (H : AH) (X0 : List Value → AH → Prop) : Prop :=
 opt (binInt .lss t133 t132) fun v1 =>
 ifB v1 (
 opt (ixSlc 1 t131 t133) fun v2 =>
 opt (load1 v2 H) fun v3 =>
 opt (binInt .rem v3 (.int .u8 4)) fun v4 =>
 opt (binInt .add (.int .u8 80) v4) fun v5 =>
 opt (convInt .u16 v5) fun v6 =>
 callV E.call t11 [t133, (.int .u16 49152)] H fun v7 H1 =>
 opt (look 0 (.bool false) false t16 v6 H1) fun v8 =>
 opt (un .not v8) fun v9 =>
 gd v9 true (fun k => k v7 H1) H1 fun v10 H2 =>
 gd v9 true (fun k => opt (binInt .neq v10 (.int .u16 0)) fun v => k v H2) H2 fun v11 H3 =>
 opt (pick v9 v11 (.bool false)) fun v12 =>
 ifB v12 (
 opt (setMap 0 t16 v6 (.bool true) H3) fun H4 =>
 opt (addOff t4 5) fun v13 =>
 opt (load1 v13 H4) fun v14 =>
 opt (buildV [(0, 1), (1, 1)] #[(.int .u16 0), (.int .u16 0)] [(0, v6), (1, v7)]) fun v15 =>
 mk (buildS 1 2 #[(.int .u16 0), (.int .u16 0)] [(0, v15)]) H4 fun v16 H5 =>
 opt2 (app 2 4 v14 v16 H5) fun v17 H6 =>
 opt (addOff t4 5) fun v18 =>
 opt (store1 v18 v17 H6) fun H7 =>
 opt (binInt .add t133 (.int .i64 1)) fun v19 =>
 X0 [t2, t4, t11, t16, t131, t132, v19] H7) (
 opt (binInt .add t133 (.int .i64 1)) fun v20 =>
 X0 [t2, t4, t11, t16, t131, t132, v20] H3)) (
 opt (loadN 6 t4 H) fun v21 =>
 opt (storeN 6 t2 v21 H) fun H8 =>
 opt (loadN 6 t2 H8) fun v22 =>
 Q v22 H8)
def F.pinfoldlaw09_Small_Policy_l1 (E : Sy) (Q : Value → AH → Prop) (t1 t2 t4 t10 t11 t92 t93 t94 : Value) (H : AH) (X0 : List Value → AH → Prop) : Prop :=
 opt (binInt .lss t94 t93) fun v1 =>
 ifB v1 (
 opt (ixSlc 1 t92 t94) fun v2 =>
 opt (load1 v2 H) fun v3 =>
 E.call (E.fid i.pinfoldlaw09_Dirs) [] H fun v4 H1 =>
 opt (convInt .i64 v3) fun v5 =>
 E.call (E.fid i.pinfoldlaw09_Dirs) [] H1 fun v6 H2 =>
 opt (lenSlc v6) fun v7 =>
 opt (binInt .rem v5 v7) fun v8 =>
 opt (ixSlc 1 v4 v8) fun v9 =>
 opt (load1 v9 H2) fun v10 =>
 callV E.call t11 [t94, (.int .u16 2047)] H2 fun v11 H3 =>
 opt (look 1 (.bool false) false t10 v10 H3) fun v12 =>
 opt (un .not v12) fun v13 =>
 gd v13 true (fun k => k v11 H3) H3 fun v14 H4 =>
 gd v13 true (fun k => opt (binInt .neq v14 (.int .u16 0)) fun v => k v H4) H4 fun v15 H5 =>
 opt (pick v13 v15 (.bool false)) fun v16 =>
 ifB v16 (
 opt (setMap 1 t10 v10 (.bool true) H5) fun H6 =>
 opt (addOff t4 4) fun v17 =>
 opt (load1 v17 H6) fun v18 =>
 opt (buildV [(0, 1), (1, 1)] #[(.string ⟨#[]⟩), (.int .u16 0)] [(0, v10), (1, v11)]) fun v19 =>
 mk (buildS 1 2 #[(.string ⟨#[]⟩), (.int .u16 0)] [(0, v19)]) H6 fun v20 H7 =>
 opt2 (app 2 24 v18 v20 H7) fun v21 H8 =>
 opt (addOff t4 4) fun v22 =>
 opt (store1 v22 v21 H8) fun H9 =>
 opt (binInt .add t94 (.int .i64 1)) fun v23 =>
 X0 [t1, t2, t4, t10, t11, t92, t93, v23] H9) (
 opt (binInt .add t94 (.int .i64 1)) fun v24 =>
 X0 [t1, t2, t4, t10, t11, t92, t93, v24] H5)) (
 mapW H fun v25 H10 =>
 opt (addOff t1 7) fun v26 =>
 opt (load1 v26 H10) fun v27 =>
 opt (lenSlc v27) fun v28 =>
 LoopL (fun l H X0 => F.pinfoldlaw09_Small_Policy_l2 E Q (nth l 0) (nth l 1) (nth l 2) (nth l 3) (nth l 4) (nth l 5) (nth l 6) H X0) [t2, t4, t11, v25, v27, v28, (.int .i64 0)] H10)
def F.pinfoldlaw09_Small_Policy_j1 (E : Sy) (Q : Value → AH → Prop) (t1 t2 t4 : Value) (H : AH) : Prop :=
 mapW H fun v1 H1 =>
 opt (some (.func (.func (E.fid i.pinfoldlaw09_Small_Policy_1)) #[] #[t1, t4])) fun v2 =>
 opt (addOff t1 5) fun v3 =>
 opt (load1 v3 H1) fun v4 =>
 opt (lenSlc v4) fun v5 =>
 LoopL (fun l H X0 => F.pinfoldlaw09_Small_Policy_l1 E Q (nth l 0) (nth l 1) (nth l 2) (nth l 3) (nth l 4) (nth l 5) (nth l 6) (nth l 7) H X0) [t1, t2, t4, v1, v2, v4, v5, (.int .i64 0)] H1
def F.pinfoldlaw09_Small_Policy_l4 (E : Sy) (Q : Value → AH → Prop) (X0 : List Value → AH → Prop) (t1 t2 t3 t4 t7 t38 t39 t40 t65 t66 t67 : Value) (H : AH) (X1 : List Value → AH → Prop) : Prop :=
 opt (binInt .lss t67 t66) fun v1 =>
 ifB v1 (
 opt (ixSlc 4 t65 t67) fun v2 =>
 opt (loadN 4 v2 H) fun v3 =>
 allocW [(.int .u8 0), (.int .u8 0), (.int .u8 0), (.int .u8 0)] H fun v4 H1 =>
 opt (storeN 4 v4 v3 H1) fun H2 =>
 opt (binInt .lss t67 (.int .i64 4)) fun v5 =>
 ifB v5 (
 opt (addOff t7 2) fun v6 =>
 opt (load1 v6 H2) fun v7 =>
 opt (loadN 4 v4 H2) fun v8 =>
 E.call (E.fid i.pinfoldlaw09_Cond_Cond) [v8] H2 fun v9 H3 =>
 load1 v6 H3 = load1 v6 H2 ∧
 mk (buildS 1 4 #[(.int .i64 0), (.int .u8 0), (.int .u64 0), (.int .u64 0)] [(0, v9)]) H3 fun v10 H4 =>
 opt2 (app 4 32 v7 v10 H4) fun v11 H5 =>
 opt (addOff t7 2) fun v12 =>
 opt (store1 v12 v11 H5) fun H6 =>
 opt (binInt .add t67 (.int .i64 1)) fun v13 =>
 X1 [t1, t2, t3, t4, t7, t38, t39, t40, t65, t66, v13] H6) (
 opt (binInt .add t67 (.int .i64 1)) fun v14 =>
 X1 [t1, t2, t3, t4, t7, t38, t39, t40, t65, t66, v14] H2)) (
 opt (addOff t4 2) fun v15 =>
 opt (load1 v15 H) fun v16 =>
 opt (loadN 3 t7 H) fun v17 =>
 mk (buildS 1 3 #[(.int .u32 0), (.int .u32 0), (.slice none 0 0)] [(0, v17)]) H fun v18 H7 =>
 opt2 (app 3 32 v16 v18 H7) fun v19 H8 =>
 opt (addOff t4 2) fun v20 =>
 opt (store1 v20 v19 H8) fun H9 =>
 opt (binInt .add t40 (.int .i64 1)) fun v21 =>
 X0 [t1, t2, t3, t4, t38, t39, v21] H9)
def F.pinfoldlaw09_Small_Policy_l3 (E : Sy) (Q : Value → AH → Prop) (t1 t2 t3 t4 t38 t39 t40 : Value) (H : AH) (X0 : List Value → AH → Prop) : Prop :=
 opt (binInt .lss t40 t39) fun v1 =>
 ifB v1 (
 opt (ixSlc 4 t38 t40) fun v2 =>
 opt (loadN 4 v2 H) fun v3 =>
 allocW [(.int .u8 0), (.int .u8 0), (.int .u8 0), (.slice none 0 0)] H fun v4 H1 =>
 opt (storeN 4 v4 v3 H1) fun H2 =>
 opt (binInt .geq t40 (.int .i64 12)) fun v5 =>
 ifB v5 (
 F.pinfoldlaw09_Small_Policy_j1 E Q t1 t2 t4 H2) (
 opt (addOff v4 0) fun v6 =>
 opt (load1 v6 H2) fun v7 =>
 opt (convInt .i64 v7) fun v8 =>
 opt (lenSlc t3) fun v9 =>
 opt (binInt .rem v8 v9) fun v10 =>
 opt (ixSlc 3 t3 v10) fun v11 =>
 opt (addOff v11 0) fun v12 =>
 opt (load1 v12 H2) fun v13 =>
 opt (convInt .u32 v13) fun v14 =>
 opt (addOff v4 1) fun v15 =>
 opt (load1 v15 H2) fun v16 =>
 opt (addOff v4 2) fun v17 =>
 opt (load1 v17 H2) fun v18 =>
 allocW [(.int .u32 0), (.int .u32 0), (.slice none 0 0)] H2 fun v19 H3 =>
 E.call (E.fid i.pinfoldlaw09_Action) [v16, v18] H3 fun v20 H4 =>
 H4.get H2.next = H3.get H2.next ∧
 load1 v12 H4 = load1 v12 H2 ∧
 load1 v6 H4 = load1 v6 H2 ∧
 opt (buildV [(0, 1), (1, 1), (2, 1)] #[(.int .u32 0), (.int .u32 0), (.slice none 0 0)] [(0, v14), (1, v20)]) fun v21 =>
 opt (storeN 3 v19 v21 H4) fun H5 =>
 opt (addOff v4 3) fun v22 =>
 opt (load1 v22 H5) fun v23 =>
 opt (lenSlc v23) fun v24 =>
 LoopL (fun l H X1 => F.pinfoldlaw09_Small_Policy_l4 E Q X0 (nth l 0) (nth l 1) (nth l 2) (nth l 3) (nth l 4) (nth l 5) (nth l 6) (nth l 7) (nth l 8) (nth l 9) (nth l 10) H X1) [t1, t2, t3, t4, v19, t38, t39, t40, v23, v24, (.int .i64 0)] H5)) (
 F.pinfoldlaw09_Small_Policy_j1 E Q t1 t2 t4 H)
/-- (pinfold/pinfoldlaw09.Small).Policy -/
def F.pinfoldlaw09_Small_Policy (E : Sy) (x0 : Value) (H : AH) (Q : Value → AH → Prop) : Prop :=
 mk (boxO x0) H fun v1 H1 =>
 allocW [(.string ⟨#[]⟩), (.int .u32 0), (.slice none 0 0), (.int .u16 0), (.slice none 0 0), (.slice none 0 0)] H1 fun v2 H2 =>
 E.call (E.fid i.pinfoldref01_Calls) [] H2 fun v3 H3 =>
 mk (buildS 3 1 #[(.string ⟨#[]⟩)] [(0, (.string ⟨#[112]⟩)), (1, (.string ⟨#[112, 111, 108, 45, 49]⟩)), (2, (.string ⟨#[120, 95, 121]⟩))]) H3 fun v4 H4 =>
 opt (addOff v1 0) fun v5 =>
 opt (load1 v5 H4) fun v6 =>
 opt (binInt .rem v6 (.int .u8 3)) fun v7 =>
 opt (ixSlc 1 v4 v7) fun v8 =>
 opt (load1 v8 H4) fun v9 =>
 opt (addOff v1 1) fun v10 =>
 opt (load1 v10 H4) fun v11 =>
 opt (addOff v1 2) fun v12 =>
 opt (load1 v12 H4) fun v13 =>
 opt (addOff v1 4) fun v14 =>
 opt (load1 v14 H4) fun v15 =>
 opt (binInt .and v15 (.int .u16 51199)) fun v16 =>
 allocW [(.string ⟨#[]⟩), (.int .u32 0), (.slice none 0 0), (.int .u16 0), (.slice none 0 0), (.slice none 0 0)] H4 fun v17 H5 =>
 E.call (E.fid i.pinfoldlaw09_Action) [v11, v13] H5 fun v18 H6 =>
 H6.get H4.next = H5.get H4.next ∧
 load1 v14 H6 = load1 v14 H4 ∧
 load1 v8 H6 = load1 v8 H4 ∧
 load1 v5 H6 = load1 v5 H4 ∧
 H6.get H3.next = H4.get H3.next ∧
 opt (buildV [(0, 1), (1, 1), (2, 1), (3, 1), (4, 1), (5, 1)] #[(.string ⟨#[]⟩), (.int .u32 0), (.slice none 0 0), (.int .u16 0), (.slice none 0 0), (.slice none 0 0)] [(0, v9), (1, v18), (3, v16)]) fun v19 =>
 opt (storeN 6 v17 v19 H6) fun H7 =>
 opt (addOff v1 3) fun v20 =>
 opt (load1 v20 H7) fun v21 =>
 opt (lenSlc v21) fun v22 =>
 LoopL (fun l H X0 => F.pinfoldlaw09_Small_Policy_l3 E Q (nth l 0) (nth l 1) (nth l 2) (nth l 3) (nth l 4) (nth l 5) (nth l 6) H X0) [v1, v2, v3, v17, v21, v22, (.int .i64 0)] H7

def F.pinfoldlaw09_Ref_l2 (E : Sy) (Q : Value → AH → Prop) (X0 : List Value → AH → Prop) (t1 t2 t3 t6 t22 t23 t24 t34 t35 t36 : Value) (H : AH) (X1 : List Value → AH → Prop) : Prop :=
 opt (binInt .lss t36 t35) fun v1 =>
 ifB v1 (
 opt (ixSlc 4 t34 t36) fun v2 =>
 opt (loadN 4 v2 H) fun v3 =>
 allocW [(.int .i64 0), (.int .u8 0), (.int .u64 0), (.int .u64 0)] H fun v4 H1 =>
 opt (storeN 4 v4 v3 H1) fun H2 =>
 opt (addOff t6 2) fun v5 =>
 opt (load1 v5 H2) fun v6 =>
 opt (loadN 4 v4 H2) fun v7 =>
 E.call (E.fid i.pinfoldlaw09_RefCond) [v7] H2 fun v8 H3 =>
 load1 v5 H3 = load1 v5 H2 ∧
 mk (buildS 1 4 #[(.int .i64 0), (.int .i64 0), (.int .u64 0), (.int .u64 0)] [(0, v8)]) H3 fun v9 H4 =>
 opt2 (app 4 32 v6 v9 H4) fun v10 H5 =>
 opt (addOff t6 2) fun v11 =>
 opt (store1 v11 v10 H5) fun H6 =>
 opt (binInt .add t36 (.int .i64 1)) fun v12 =>
 X1 [t1, t2, t3, t6, t22, t23, t24, t34, t35, v12] H6) (
 opt (addOff t3 2) fun v13 =>
 opt (load1 v13 H) fun v14 =>
 opt (loadN 3 t6 H) fun v15 =>
 mk (buildS 1 3 #[(.int .u32 0), (.int .u32 0), (.slice none 0 0)] [(0, v15)]) H fun v16 H7 =>
 opt2 (app 3 32 v14 v16 H7) fun v17 H8 =>
 opt (addOff t3 2) fun v18 =>
 opt (store1 v18 v17 H8) fun H9 =>
 opt (binInt .add t24 (.int .i64 1)) fun v19 =>
 X0 [t1, t2, t3, t22, t23, v19] H9)
def F.pinfoldlaw09_Ref_l4 (E : Sy) (Q : Value → AH → Prop) (t2 t3 t75 t76 t77 : Value) (H : AH) (X0 : List Value → AH → Prop) : Prop :=
 opt (binInt .lss t77 t76) fun v1 =>
 ifB v1 (
 opt (ixSlc 2 t75 t77) fun v2 =>
 opt (loadN 2 v2 H) fun v3 =>
 allocW [(.int .u16 0), (.int .u16 0)] H fun v4 H1 =>
 opt (storeN 2 v4 v3 H1) fun H2 =>
 opt (addOff t3 5) fun v5 =>
 opt (load1 v5 H2) fun v6 =>
 opt (addOff v4 0) fun v7 =>
 opt (load1 v7 H2) fun v8 =>
 opt (convInt .i64 v8) fun v9 =>
 opt (addOff v4 1) fun v10 =>
 opt (load1 v10 H2) fun v11 =>
 opt (convInt .i64 v11) fun v12 =>
 opt (buildV [(0, 1), (1, 1)] #[(.int .i64 0), (.int .i64 0)] [(0, v9), (1, v12)]) fun v13 =>
 mk (buildS 1 2 #[(.int .i64 0), (.int .i64 0)] [(0, v13)]) H2 fun v14 H3 =>
 opt2 (app 2 16 v6 v14 H3) fun v15 H4 =>
 opt (addOff t3 5) fun v16 =>
 opt (store1 v16 v15 H4) fun H5 =>
 opt (binInt .add t77 (.int .i64 1)) fun v17 =>
 X0 [t2, t3, t75, t76, v17] H5) (
 opt (loadN 6 t3 H) fun v18 =>
 opt (storeN 6 t2 v18 H) fun H6 =>
 opt (loadN 6 t2 H6) fun v19 =>
 Q v19 H6)
def F.pinfoldlaw09_Ref_l3 (E : Sy) (Q : Value → AH → Prop) (t1 t2 t3 t56 t57 t58 : Value) (H : AH) (X0 : List Value → AH → Prop) : Prop :=
 opt (binInt .lss t58 t57) fun v1 =>
 ifB v1 (
 opt (ixSlc 2 t56 t58) fun v2 =>
 opt (loadN 2 v2 H) fun v3 =>
 allocW [(.string ⟨#[]⟩), (.int .u16 0)] H fun v4 H1 =>
 opt (storeN 2 v4 v3 H1) fun H2 =>
 opt (addOff t3 4) fun v5 =>
 opt (load1 v5 H2) fun v6 =>
 opt (addOff v4 0) fun v7 =>
 opt (load1 v7 H2) fun v8 =>
 opt (addOff v4 1) fun v9 =>
 opt (load1 v9 H2) fun v10 =>
 opt (convInt .i64 v10) fun v11 =>
 opt (buildV [(0, 1), (1, 1)] #[(.string ⟨#[]⟩), (.int .i64 0)] [(0, v8), (1, v11)]) fun v12 =>
 mk (buildS 1 2 #[(.string ⟨#[]⟩), (.int .i64 0)] [(0, v12)]) H2 fun v13 H3 =>
 opt2 (app 2 24 v6 v13 H3) fun v14 H4 =>
 opt (addOff t3 4) fun v15 =>
 opt (store1 v15 v14 H4) fun H5 =>
 opt (binInt .add t58 (.int .i64 1)) fun v16 =>
 X0 [t1, t2, t3, t56, t57, v16] H5) (
 opt (addOff t1 5) fun v17 =>
 opt (load1 v17 H) fun v18 =>
 opt (lenSlc v18) fun v19 =>
 LoopL (fun l H X0 => F.pinfoldlaw09_Ref_l4 E Q (nth l 0) (nth l 1) (nth l 2) (nth l 3) (nth l 4) H X0) [t2, t3, v18, v19, (.int .i64 0)] H)
def F.pinfoldlaw09_Ref_l1 (E : Sy) (Q : Value → AH → Prop) (t1 t2 t3 t22 t23 t24 : Value) (H : AH) (X0 : List Value → AH → Prop) : Prop :=
 opt (binInt .lss t24 t23) fun v1 =>
 ifB v1 (
 opt (ixSlc 3 t22 t24) fun v2 =>
 opt (loadN 3 v2 H) fun v3 =>
 allocW [(.int .u32 0), (.int .u32 0), (.slice none 0 0)] H fun v4 H1 =>
 opt (storeN 3 v4 v3 H1) fun H2 =>
 opt (addOff v4 0) fun v5 =>
 opt (load1 v5 H2) fun v6 =>
 opt (addOff v4 1) fun v7 =>
 opt (load1 v7 H2) fun v8 =>
 opt (buildV [(0, 1), (1, 1), (2, 1)] #[(.int .u32 0), (.int .u32 0), (.slice none 0 0)] [(0, v6), (1, v8)]) fun v9 =>
 allocW [(.int .u32 0), (.int .u32 0), (.slice none 0 0)] H2 fun v10 H3 =>
 opt (storeN 3 v10 v9 H3) fun H4 =>
 opt (addOff v4 2) fun v11 =>
 opt (load1 v11 H4) fun v12 =>
 opt (lenSlc v12) fun v13 =>
 LoopL (fun l H X1 => F.pinfoldlaw09_Ref_l2 E Q X0 (nth l 0) (nth l 1) (nth l 2) (nth l 3) (nth l 4) (nth l 5) (nth l 6) (nth l 7) (nth l 8) (nth l 9) H X1) [t1, t2, t3, v10, t22, t23, t24, v12, v13, (.int .i64 0)] H4) (
 opt (addOff t1 4) fun v14 =>
 opt (load1 v14 H) fun v15 =>
 opt (lenSlc v15) fun v16 =>
 LoopL (fun l H X0 => F.pinfoldlaw09_Ref_l3 E Q (nth l 0) (nth l 1) (nth l 2) (nth l 3) (nth l 4) (nth l 5) H X0) [t1, t2, t3, v15, v16, (.int .i64 0)] H)
/-- pinfold/pinfoldlaw09.Ref -/
def F.pinfoldlaw09_Ref (E : Sy) (x0 : Value) (H : AH) (Q : Value → AH → Prop) : Prop :=
 mk (boxO x0) H fun v1 H1 =>
 allocW [(.string ⟨#[]⟩), (.int .u32 0), (.slice none 0 0), (.int .i64 0), (.slice none 0 0), (.slice none 0 0)] H1 fun v2 H2 =>
 opt (addOff v1 0) fun v3 =>
 opt (load1 v3 H2) fun v4 =>
 opt (addOff v1 1) fun v5 =>
 opt (load1 v5 H2) fun v6 =>
 opt (addOff v1 3) fun v7 =>
 opt (load1 v7 H2) fun v8 =>
 opt (convInt .i64 v8) fun v9 =>
 opt (buildV [(0, 1), (1, 1), (2, 1), (3, 1), (4, 1), (5, 1)] #[(.string ⟨#[]⟩), (.int .u32 0), (.slice none 0 0), (.int .i64 0), (.slice none 0 0), (.slice none 0 0)] [(0, v4), (1, v6), (3, v9)]) fun v10 =>
 allocW [(.string ⟨#[]⟩), (.int .u32 0), (.slice none 0 0), (.int .i64 0), (.slice none 0 0), (.slice none 0 0)] H2 fun v11 H3 =>
 opt (storeN 6 v11 v10 H3) fun H4 =>
 opt (addOff v1 2) fun v12 =>
 opt (load1 v12 H4) fun v13 =>
 opt (lenSlc v13) fun v14 =>
 LoopL (fun l H X0 => F.pinfoldlaw09_Ref_l1 E Q (nth l 0) (nth l 1) (nth l 2) (nth l 3) (nth l 4) (nth l 5) H X0) [v1, v2, v11, v13, v14, (.int .i64 0)] H4

def F.pinfoldlaw11_Records_l2 (E : Sy) (Q : Value → AH → Prop) (X0 : List Value → AH → Prop) (t3 t7 t9 t11 t17 t18 t19 t48 t49 t50 : Value) (H : AH) (X1 : List Value → AH → Prop) : Prop :=
 opt (binInt .lss t50 t49) fun v1 =>
 ifB v1 (
 opt (ixSlc 4 t48 t50) fun v2 =>
 opt (loadN 4 v2 H) fun v3 =>
 allocW [(.int .i64 0), (.int .u8 0), (.int .u64 0), (.int .u64 0)] H fun v4 H1 =>
 opt (storeN 4 v4 v3 H1) fun H2 =>
 opt (addOff v4 0) fun v5 =>
 opt (load1 v5 H2) fun v6 =>
 opt (binInt .geq v6 (.int .i64 0)) fun v7 =>
 gd v7 true (fun k => opt (addOff v4 0) fun v => k v H2) H2 fun v8 H3 =>
 gd v7 true (fun k => opt (load1 v8 H3) fun v => k v H3) H3 fun v9 H4 =>
 gd v7 true (fun k => opt (binInt .leq v9 (.int .i64 5)) fun v => k v H4) H4 fun v10 H5 =>
 opt (pick v7 v10 (.bool false)) fun v11 =>
 ifB v11 (
 opt (addOff v4 0) fun v12 =>
 opt (load1 v12 H5) fun v13 =>
 opt (addOff v4 3) fun v14 =>
 opt (load1 v14 H5) fun v15 =>
 opt (binInt .quo t9 (.int .u8 16)) fun v16 =>
 opt (binInt .rem v16 (.int .u8 3)) fun v17 =>
 opt (convInt .u64 v17) fun v18 =>
 opt (binInt .add v15 v18) fun v19 =>
 opt (binInt .rem t50 (.int .i64 2)) fun v20 =>
 opt (convInt .u64 v20) fun v21 =>
 opt (binInt .rem t9 (.int .u8 2)) fun v22 =>
 opt (convInt .u64 v22) fun v23 =>
 opt (binInt .mul v21 v23) fun v24 =>
 opt (binInt .sub v19 v24) fun v25 =>
 opt (addOff t11 3) fun v26 =>
 opt (ixArr 6 1 v26 v13) fun v27 =>
 opt (store1 v27 v25 H5) fun H6 =>
 opt (binInt .add t50 (.int .i64 1)) fun v28 =>
 X1 [t3, t7, t9, t11, t17, t18, t19, t48, t49, v28] H6) (
 opt (binInt .add t50 (.int .i64 1)) fun v29 =>
 X1 [t3, t7, t9, t11, t17, t18, t19, t48, t49, v29] H5)) (
 opt (loadN 9 t11 H) fun v30 =>
 mk (buildS 1 9 #[(.int .u32 0), (.int .u32 0), (.int .u64 0), (.int .u64 0), (.int .u64 0), (.int .u64 0), (.int .u64 0), (.int .u64 0), (.int .u64 0)] [(0, v30)]) H fun v31 H7 =>
 opt2 (app 9 64 t7 v31 H7) fun v32 H8 =>
 opt (binInt .add t19 (.int .i64 1)) fun v33 =>
 X0 [t3, v32, t17, t18, v33] H8)
def F.pinfoldlaw11_Records_l1 (E : Sy) (Q : Value → AH → Prop) (t3 t7 t17 t18 t19 : Value) (H : AH) (X0 : List Value → AH → Prop) : Prop :=
 opt (binInt .lss t19 t18) fun v1 =>
 ifB v1 (
 opt (ixSlc 1 t17 t19) fun v2 =>
 opt (load1 v2 H) fun v3 =>
 opt (binInt .geq t19 (.int .i64 30)) fun v4 =>
 gd v4 false (fun k => opt (addOff t3 2) fun v => k v H) H fun v5 H1 =>
 gd v4 false (fun k => opt (load1 v5 H1) fun v => k v H1) H1 fun v6 H2 =>
 gd v4 false (fun k => opt (lenSlc v6) fun v => k v H2) H2 fun v7 H3 =>
 gd v4 false (fun k => opt (binInt .eql v7 (.int .i64 0)) fun v => k v H3) H3 fun v8 H4 =>
 opt (pick v4 (.bool true) v8) fun v9 =>
 ifB v9 (
 Q t7 H4) (
 opt (addOff t3 2) fun v10 =>
 opt (load1 v10 H4) fun v11 =>
 opt (convInt .i64 v3) fun v12 =>
 opt (addOff t3 2) fun v13 =>
 opt (load1 v13 H4) fun v14 =>
 opt (lenSlc v14) fun v15 =>
 opt (binInt .rem v12 v15) fun v16 =>
 opt (ixSlc 3 v11 v16) fun v17 =>
 opt (loadN 3 v17 H4) fun v18 =>
 allocW [(.int .u32 0), (.int .u32 0), (.slice none 0 0)] H4 fun v19 H5 =>
 opt (storeN 3 v19 v18 H5) fun H6 =>
 opt (addOff v19 0) fun v20 =>
 opt (load1 v20 H6) fun v21 =>
 opt (convInt .u64 v3) fun v22 =>
 opt (buildV [(0, 1), (1, 1), (2, 1), (3, 6)] #[(.int .u32 0), (.int .u32 0), (.int .u64 0), (.int .u64 0), (.int .u64 0), (.int .u64 0), (.int .u64 0), (.int .u64 0), (.int .u64 0)] [(0, v21), (1, (.int .u32 3221225534)), (2, v22)]) fun v23 =>
 allocW [(.int .u32 0), (.int .u32 0), (.int .u64 0), (.int .u64 0), (.int .u64 0), (.int .u64 0), (.int .u64 0), (.int .u64 0), (.int .u64 0)] H6 fun v24 H7 =>
 opt (storeN 9 v24 v23 H7) fun H8 =>
 opt (addOff v19 2) fun v25 =>
 opt (load1 v25 H8) fun v26 =>
 opt (lenSlc v26) fun v27 =>
 LoopL (fun l H X1 => F.pinfoldlaw11_Records_l2 E Q X0 (nth l 0) (nth l 1) (nth l 2) (nth l 3) (nth l 4) (nth l 5) (nth l 6) (nth l 7) (nth l 8) (nth l 9) H X1) [t3, t7, v3, v24, t17, t18, t19, v26, v27, (.int .i64 0)] H8)) (
 Q t7 H)
/-- pinfold/pinfoldlaw11.Records -/
def F.pinfoldlaw11_Records (E : Sy) (x0 x1 x2 : Value) (H : AH) (Q : Value → AH → Prop) : Prop :=
 mk (boxO x0) H fun v1 H1 =>
 mk (buildS 0 9 #[(.int .u32 0), (.int .u32 0), (.int .u64 0), (.int .u64 0), (.int .u64 0), (.int .u64 0), (.int .u64 0), (.int .u64 0), (.int .u64 0)] []) H1 fun v2 H2 =>
 opt2 (app 9 64 v2 x1 H2) fun v3 H3 =>
 opt (lenSlc x2) fun v4 =>
 LoopL (fun l H X0 => F.pinfoldlaw11_Records_l1 E Q (nth l 0) (nth l 1) (nth l 2) (nth l 3) (nth l 4) H X0) [v1, v3, x2, v4, (.int .i64 0)] H3

def F.mean_Matches_l1 (E : Sy) (Q : Value → AH → Prop) (t3 t13 t14 t15 : Value) (H : AH) (X0 : List Value → AH → Prop) : Prop :=
 opt (binInt .lss t15 t14) fun v1 =>
 ifB v1 (
 opt (ixSlc 4 t13 t15) fun v2 =>
 opt (loadN 4 v2 H) fun v3 =>
 allocW [(.int .i64 0), (.int .u8 0), (.int .u64 0), (.int .u64 0)] H fun v4 H1 =>
 opt (storeN 4 v4 v3 H1) fun H2 =>
 opt (loadN 4 v4 H2) fun v5 =>
 opt (loadN 9 t3 H2) fun v6 =>
 E.call (E.fid i.mean_Holds) [v5, v6] H2 fun v7 H3 =>
 opt (un .not v7) fun v8 =>
 ifB v8 (
 Q (.bool false) H3) (
 opt (binInt .add t15 (.int .i64 1)) fun v9 =>
 X0 [t3, t13, t14, v9] H3)) (
 Q (.bool true) H)
/-- pinfold/mean.Matches -/
def F.mean_Matches (E : Sy) (x0 x1 : Value) (H : AH) (Q : Value → AH → Prop) : Prop :=
 mk (boxO x0) H fun v1 H1 =>
 mk (boxO x1) H1 fun v2 H2 =>
 opt (addOff v1 0) fun v3 =>
 opt (load1 v3 H2) fun v4 =>
 opt (addOff v2 0) fun v5 =>
 opt (load1 v5 H2) fun v6 =>
 opt (binInt .neq v4 v6) fun v7 =>
 ifB v7 (
 Q (.bool false) H2) (
 opt (addOff v1 2) fun v8 =>
 opt (load1 v8 H2) fun v9 =>
 opt (lenSlc v9) fun v10 =>
 LoopL (fun l H X0 => F.mean_Matches_l1 E Q (nth l 0) (nth l 1) (nth l 2) (nth l 3) H X0) [v2, v9, v10, (.int .i64 0)] H2)

/-- pinfold/pinfoldlaw11.Ref -/
def F.pinfoldlaw11_Ref (E : Sy) (x0 : Value) (H : AH) (Q : Value → AH → Prop) : Prop :=
 mk (boxO x0) H fun v1 H1 =>
 allocW [(.int .u32 0), (.int .u32 0), (.int .u64 0), (.int .u64 0), (.int .u64 0), (.int .u64 0), (.int .u64 0), (.int .u64 0)] H1 fun v2 H2 =>
 opt (addOff v1 0) fun v3 =>
 opt (load1 v3 H2) fun v4 =>
 opt (addOff v1 1) fun v5 =>
 opt (load1 v5 H2) fun v6 =>
 opt (addOff v1 3) fun v7 =>
 opt (loadN 6 v7 H2) fun v8 =>
 opt (buildV [(0, 1), (1, 1), (2, 6)] #[(.int .u32 0), (.int .u32 0), (.int .u64 0), (.int .u64 0), (.int .u64 0), (.int .u64 0), (.int .u64 0), (.int .u64 0)] [(0, v4), (1, v6), (2, v8)]) fun v9 =>
 opt (storeN 8 v2 v9 H2) fun H3 =>
 opt (loadN 8 v2 H3) fun v10 =>
 Q v10 H3

def F.pinfoldref09_Matches_l1 (E : Sy) (Q : Value → AH → Prop) (t2 t3 t5 : Value) (H : AH) (X0 : List Value → AH → Prop) : Prop :=
 opt (addOff t2 2) fun v1 =>
 opt (load1 v1 H) fun v2 =>
 opt (lenSlc v2) fun v3 =>
 opt (binInt .lss t5 v3) fun v4 =>
 ifB v4 (
 opt (addOff t2 2) fun v5 =>
 opt (load1 v5 H) fun v6 =>
 opt (ixSlc 4 v6 t5) fun v7 =>
 opt (loadN 4 v7 H) fun v8 =>
 opt (loadN 8 t3 H) fun v9 =>
 E.call (E.fid i.pinfoldref09_Holds) [v8, v9] H fun v10 H1 =>
 opt (un .not v10) fun v11 =>
 ifB v11 (
 Q (.bool false) H1) (
 opt (binInt .add t5 (.int .i64 1)) fun v12 =>
 X0 [t2, t3, v12] H1)) (
 Q (.bool true) H)
/-- pinfold/pinfoldref09.Matches -/
def F.pinfoldref09_Matches (E : Sy) (x0 x1 : Value) (H : AH) (Q : Value → AH → Prop) : Prop :=
 mk (boxO x0) H fun v1 H1 =>
 mk (boxO x1) H1 fun v2 H2 =>
 opt (addOff v1 0) fun v3 =>
 opt (load1 v3 H2) fun v4 =>
 opt (addOff v2 0) fun v5 =>
 opt (load1 v5 H2) fun v6 =>
 opt (binInt .neq v4 v6) fun v7 =>
 ifB v7 (
 Q (.bool false) H2) (
 LoopL (fun l H X0 => F.pinfoldref09_Matches_l1 E Q (nth l 0) (nth l 1) (nth l 2) H X0) [v1, v2, (.int .i64 0)] H2)

/-- pinfold/mean.Holds -/
def F.mean_Holds (E : Sy) (x0 x1 : Value) (H : AH) (Q : Value → AH → Prop) : Prop :=
 mk (boxO x0) H fun v1 H1 =>
 mk (boxO x1) H1 fun v2 H2 =>
 opt (addOff v1 0) fun v3 =>
 opt (load1 v3 H2) fun v4 =>
 opt (binInt .lss v4 (.int .i64 0)) fun v5 =>
 gd v5 false (fun k => opt (addOff v1 0) fun v => k v H2) H2 fun v6 H3 =>
 gd v5 false (fun k => opt (load1 v6 H3) fun v => k v H3) H3 fun v7 H4 =>
 gd v5 false (fun k => opt (binInt .gtr v7 (.int .i64 5)) fun v => k v H4) H4 fun v8 H5 =>
 opt (pick v5 (.bool true) v8) fun v9 =>
 ifB v9 (
 Q (.bool false) H5) (
 opt (addOff v1 0) fun v10 =>
 opt (load1 v10 H5) fun v11 =>
 opt (addOff v2 3) fun v12 =>
 opt (ixArr 6 1 v12 v11) fun v13 =>
 opt (load1 v13 H5) fun v14 =>
 opt (addOff v1 1) fun v15 =>
 opt (load1 v15 H5) fun v16 =>
 opt (binInt .eql v16 (.int .u8 1)) fun v17 =>
 ifB v17 (
 opt (addOff v1 3) fun v18 =>
 opt (load1 v18 H5) fun v19 =>
 opt (binInt .eql v14 v19) fun v20 =>
 Q v20 H5) (
 opt (binInt .eql v16 (.int .u8 2)) fun v21 =>
 ifB v21 (
 opt (addOff v1 3) fun v22 =>
 opt (load1 v22 H5) fun v23 =>
 opt (binInt .neq v14 v23) fun v24 =>
 Q v24 H5) (
 opt (binInt .eql v16 (.int .u8 3)) fun v25 =>
 ifB v25 (
 opt (addOff v1 3) fun v26 =>
 opt (load1 v26 H5) fun v27 =>
 opt (binInt .lss v14 v27) fun v28 =>
 Q v28 H5) (
 opt (binInt .eql v16 (.int .u8 4)) fun v29 =>
 ifB v29 (
 opt (addOff v1 3) fun v30 =>
 opt (load1 v30 H5) fun v31 =>
 opt (binInt .leq v14 v31) fun v32 =>
 Q v32 H5) (
 opt (binInt .eql v16 (.int .u8 5)) fun v33 =>
 ifB v33 (
 opt (addOff v1 3) fun v34 =>
 opt (load1 v34 H5) fun v35 =>
 opt (binInt .gtr v14 v35) fun v36 =>
 Q v36 H5) (
 opt (binInt .eql v16 (.int .u8 6)) fun v37 =>
 ifB v37 (
 opt (addOff v1 3) fun v38 =>
 opt (load1 v38 H5) fun v39 =>
 opt (binInt .geq v14 v39) fun v40 =>
 Q v40 H5) (
 opt (binInt .eql v16 (.int .u8 7)) fun v41 =>
 ifB v41 (
 opt (addOff v1 2) fun v42 =>
 opt (load1 v42 H5) fun v43 =>
 opt (binInt .and v14 v43) fun v44 =>
 opt (addOff v1 3) fun v45 =>
 opt (load1 v45 H5) fun v46 =>
 opt (binInt .eql v44 v46) fun v47 =>
 Q v47 H5) (
 Q (.bool false) H5))))))))

/-- pinfold/pinfoldref09.Holds -/
def F.pinfoldref09_Holds (E : Sy) (x0 x1 : Value) (H : AH) (Q : Value → AH → Prop) : Prop :=
 mk (boxO x0) H fun v1 H1 =>
 mk (boxO x1) H1 fun v2 H2 =>
 opt (addOff v1 0) fun v3 =>
 opt (load1 v3 H2) fun v4 =>
 opt (binInt .lss v4 (.int .i64 0)) fun v5 =>
 gd v5 false (fun k => opt (addOff v1 0) fun v => k v H2) H2 fun v6 H3 =>
 gd v5 false (fun k => opt (load1 v6 H3) fun v => k v H3) H3 fun v7 H4 =>
 gd v5 false (fun k => opt (binInt .gtr v7 (.int .i64 5)) fun v => k v H4) H4 fun v8 H5 =>
 opt (pick v5 (.bool true) v8) fun v9 =>
 ifB v9 (
 Q (.bool false) H5) (
 opt (addOff v1 0) fun v10 =>
 opt (load1 v10 H5) fun v11 =>
 opt (addOff v2 2) fun v12 =>
 opt (ixArr 6 1 v12 v11) fun v13 =>
 opt (load1 v13 H5) fun v14 =>
 opt (addOff v1 1) fun v15 =>
 opt (load1 v15 H5) fun v16 =>
 opt (binInt .eql v16 (.int .i64 1)) fun v17 =>
 ifB v17 (
 opt (addOff v1 3) fun v18 =>
 opt (load1 v18 H5) fun v19 =>
 opt (binInt .eql v14 v19) fun v20 =>
 Q v20 H5) (
 opt (binInt .eql v16 (.int .i64 2)) fun v21 =>
 ifB v21 (
 opt (addOff v1 3) fun v22 =>
 opt (load1 v22 H5) fun v23 =>
 opt (binInt .neq v14 v23) fun v24 =>
 Q v24 H5) (
 opt (binInt .eql v16 (.int .i64 3)) fun v25 =>
 ifB v25 (
 opt (addOff v1 3) fun v26 =>
 opt (load1 v26 H5) fun v27 =>
 opt (binInt .lss v14 v27) fun v28 =>
 Q v28 H5) (
 opt (binInt .eql v16 (.int .i64 4)) fun v29 =>
 ifB v29 (
 opt (addOff v1 3) fun v30 =>
 opt (load1 v30 H5) fun v31 =>
 opt (binInt .leq v14 v31) fun v32 =>
 Q v32 H5) (
 opt (binInt .eql v16 (.int .i64 5)) fun v33 =>
 ifB v33 (
 opt (addOff v1 3) fun v34 =>
 opt (load1 v34 H5) fun v35 =>
 opt (binInt .gtr v14 v35) fun v36 =>
 Q v36 H5) (
 opt (binInt .eql v16 (.int .i64 6)) fun v37 =>
 ifB v37 (
 opt (addOff v1 3) fun v38 =>
 opt (load1 v38 H5) fun v39 =>
 opt (binInt .geq v14 v39) fun v40 =>
 Q v40 H5) (
 opt (binInt .eql v16 (.int .i64 7)) fun v41 =>
 ifB v41 (
 opt (addOff v1 2) fun v42 =>
 opt (load1 v42 H5) fun v43 =>
 opt (binInt .and v14 v43) fun v44 =>
 opt (addOff v1 3) fun v45 =>
 opt (load1 v45 H5) fun v46 =>
 opt (binInt .eql v44 v46) fun v47 =>
 Q v47 H5) (
 Q (.bool false) H5))))))))

def F.mean_Says_l1 (E : Sy) (Q : Value → AH → Prop) (t3 t5 t6 t15 t16 t17 : Value) (H : AH) (X0 : List Value → AH → Prop) : Prop :=
 opt (binInt .lss t17 t16) fun v1 =>
 ifB v1 (
 opt (ixSlc 3 t15 t17) fun v2 =>
 opt (loadN 3 v2 H) fun v3 =>
 allocW [(.int .u32 0), (.int .u32 0), (.slice none 0 0)] H fun v4 H1 =>
 opt (storeN 3 v4 v3 H1) fun H2 =>
 opt (loadN 3 v4 H2) fun v5 =>
 opt (loadN 9 t3 H2) fun v6 =>
 E.call (E.fid i.mean_Matches) [v5, v6] H2 fun v7 H3 =>
 opt (un .not v7) fun v8 =>
 ifB v8 (
 opt (binInt .add t17 (.int .i64 1)) fun v9 =>
 X0 [t3, t5, t6, t15, t16, v9] H3) (
 ifB t6 (
 opt (addOff v4 1) fun v10 =>
 opt (load1 v10 H3) fun v11 =>
 E.call (E.fid i.record_Stronger) [t5, v11] H3 fun v12 H4 =>
 opt (binInt .add t17 (.int .i64 1)) fun v13 =>
 X0 [t3, v12, t6, t15, t16, v13] H4) (
 opt (addOff v4 1) fun v14 =>
 opt (load1 v14 H3) fun v15 =>
 opt (binInt .add t17 (.int .i64 1)) fun v16 =>
 X0 [t3, v15, (.bool true), t15, t16, v16] H3))) (
 Q t5 H)
/-- pinfold/mean.Says -/
def F.mean_Says (E : Sy) (x0 x1 : Value) (H : AH) (Q : Value → AH → Prop) : Prop :=
 mk (boxO x0) H fun v1 H1 =>
 mk (boxO x1) H1 fun v2 H2 =>
 opt (addOff v2 1) fun v3 =>
 opt (load1 v3 H2) fun v4 =>
 opt (binInt .neq v4 (.int .u32 3221225534)) fun v5 =>
 ifB v5 (
 Q (.int .u32 2147483648) H2) (
 opt (addOff v1 1) fun v6 =>
 opt (load1 v6 H2) fun v7 =>
 opt (addOff v1 2) fun v8 =>
 opt (load1 v8 H2) fun v9 =>
 opt (lenSlc v9) fun v10 =>
 LoopL (fun l H X0 => F.mean_Says_l1 E Q (nth l 0) (nth l 1) (nth l 2) (nth l 3) (nth l 4) (nth l 5) H X0) [v2, v7, (.bool false), v9, v10, (.int .i64 0)] H2)

def F.pinfoldref09_Says_l2 (E : Sy) (Q : Value → AH → Prop) (X0 : List Value → AH → Prop) (t2 t3 t5 t6 : Value) (H : AH) (X1 : List Value → AH → Prop) : Prop :=
 opt (addOff t2 2) fun v1 =>
 opt (load1 v1 H) fun v2 =>
 opt (lenSlc v2) fun v3 =>
 opt (binInt .lss t6 v3) fun v4 =>
 ifB v4 (
 opt (addOff t2 2) fun v5 =>
 opt (load1 v5 H) fun v6 =>
 opt (ixSlc 3 v6 t6) fun v7 =>
 opt (addOff v7 1) fun v8 =>
 opt (load1 v8 H) fun v9 =>
 E.call (E.fid i.pinfoldref03_Strength) [v9] H fun v10 H1 =>
 opt (binInt .eql v10 t5) fun v11 =>
 gd v11 true (fun k => opt (addOff t2 2) fun v => k v H1) H1 fun v12 H2 =>
 gd v11 true (fun k => opt (load1 v12 H2) fun v => k v H2) H2 fun v13 H3 =>
 gd v11 true (fun k => k t6 H3) H3 fun v14 H4 =>
 gd v11 true (fun k => opt (ixSlc 3 v13 v14) fun v => k v H4) H4 fun v15 H5 =>
 gd v11 true (fun k => opt (loadN 3 v15 H5) fun v => k v H5) H5 fun v16 H6 =>
 gd v11 true (fun k => opt (loadN 8 t3 H6) fun v => k v H6) H6 fun v17 H7 =>
 gd v11 true (fun k => E.call (E.fid i.pinfoldref09_Matches) [v16, v17] H7 fun v h => k v h) H7 fun v18 H8 =>
 opt (pick v11 v18 (.bool false)) fun v19 =>
 ifB v19 (
 opt (addOff t2 2) fun v20 =>
 opt (load1 v20 H8) fun v21 =>
 opt (ixSlc 3 v21 t6) fun v22 =>
 opt (addOff v22 1) fun v23 =>
 opt (load1 v23 H8) fun v24 =>
 Q v24 H8) (
 opt (binInt .add t6 (.int .i64 1)) fun v25 =>
 X1 [t2, t3, t5, v25] H8)) (
 opt (binInt .sub t5 (.int .i64 1)) fun v26 =>
 X0 [t2, t3, v26] H)
def F.pinfoldref09_Says_l1 (E : Sy) (Q : Value → AH → Prop) (t2 t3 t5 : Value) (H : AH) (X0 : List Value → AH → Prop) : Prop :=
 opt (binInt .geq t5 (.int .i64 0)) fun v1 =>
 ifB v1 (
 LoopL (fun l H X1 => F.pinfoldref09_Says_l2 E Q X0 (nth l 0) (nth l 1) (nth l 2) (nth l 3) H X1) [t2, t3, t5, (.int .i64 0)] H) (
 opt (addOff t2 1) fun v2 =>
 opt (load1 v2 H) fun v3 =>
 Q v3 H)
/-- pinfold/pinfoldref09.Says -/
def F.pinfoldref09_Says (E : Sy) (x0 x1 : Value) (H : AH) (Q : Value → AH → Prop) : Prop :=
 mk (boxO x0) H fun v1 H1 =>
 mk (boxO x1) H1 fun v2 H2 =>
 opt (addOff v2 1) fun v3 =>
 opt (load1 v3 H2) fun v4 =>
 opt (binInt .neq v4 (.int .u32 3221225534)) fun v5 =>
 ifB v5 (
 Q (.int .u32 2147483648) H2) (
 LoopL (fun l H X0 => F.pinfoldref09_Says_l1 E Q (nth l 0) (nth l 1) (nth l 2) H X0) [v1, v2, (.int .i64 3)] H2)

/-- (pinfold/pinfoldlaw09.Cond).Cond -/
def F.pinfoldlaw09_Cond_Cond (E : Sy) (x0 : Value) (H : AH) (Q : Value → AH → Prop) : Prop :=
 mk (boxO x0) H fun v1 H1 =>
 allocW [(.int .i64 0), (.int .u8 0), (.int .u64 0), (.int .u64 0)] H1 fun v2 H2 =>
 E.call (E.fid i.pinfoldlaw09_values) [] H2 fun v3 H3 =>
 opt (addOff v1 0) fun v4 =>
 opt (load1 v4 H3) fun v5 =>
 opt (binInt .rem v5 (.int .u8 6)) fun v6 =>
 opt (convInt .i64 v6) fun v7 =>
 opt (addOff v1 1) fun v8 =>
 opt (load1 v8 H3) fun v9 =>
 opt (binInt .rem v9 (.int .u8 7)) fun v10 =>
 opt (binInt .add (.int .u8 1) v10) fun v11 =>
 opt (addOff v1 3) fun v12 =>
 opt (load1 v12 H3) fun v13 =>
 opt (convInt .i64 v13) fun v14 =>
 opt (lenSlc v3) fun v15 =>
 opt (binInt .rem v14 v15) fun v16 =>
 opt (ixSlc 1 v3 v16) fun v17 =>
 opt (load1 v17 H3) fun v18 =>
 opt (buildV [(0, 1), (1, 1), (2, 1), (3, 1)] #[(.int .i64 0), (.int .u8 0), (.int .u64 0), (.int .u64 0)] [(0, v7), (1, v11), (3, v18)]) fun v19 =>
 allocW [(.int .i64 0), (.int .u8 0), (.int .u64 0), (.int .u64 0)] H3 fun v20 H4 =>
 opt (storeN 4 v20 v19 H4) fun H5 =>
 opt (addOff v20 1) fun v21 =>
 opt (load1 v21 H5) fun v22 =>
 opt (binInt .eql v22 (.int .u8 7)) fun v23 =>
 ifB v23 (
 opt (addOff v1 2) fun v24 =>
 opt (load1 v24 H5) fun v25 =>
 opt (convInt .i64 v25) fun v26 =>
 opt (lenSlc v3) fun v27 =>
 opt (binInt .sub v27 (.int .i64 1)) fun v28 =>
 opt (binInt .rem v26 v28) fun v29 =>
 opt (binInt .add (.int .i64 1) v29) fun v30 =>
 opt (ixSlc 1 v3 v30) fun v31 =>
 opt (load1 v31 H5) fun v32 =>
 opt (addOff v20 2) fun v33 =>
 opt (store1 v33 v32 H5) fun H6 =>
 opt (addOff v20 3) fun v34 =>
 opt (load1 v34 H6) fun v35 =>
 opt (addOff v20 2) fun v36 =>
 opt (load1 v36 H6) fun v37 =>
 opt (binInt .and v35 v37) fun v38 =>
 opt (addOff v20 3) fun v39 =>
 opt (store1 v39 v38 H6) fun H7 =>
 opt (loadN 4 v20 H7) fun v40 =>
 opt (storeN 4 v2 v40 H7) fun H8 =>
 opt (loadN 4 v2 H8) fun v41 =>
 Q v41 H8) (
 opt (loadN 4 v20 H5) fun v42 =>
 opt (storeN 4 v2 v42 H5) fun H9 =>
 opt (loadN 4 v2 H9) fun v43 =>
 Q v43 H9)

def F.mean_All_l1 (E : Sy) (Q : Value → AH → Prop) (t0 t3 t5 t6 : Value) (H : AH) (X0 : List Value → AH → Prop) : Prop :=
 opt (binInt .geq t6 (.int .i64 0)) fun v1 =>
 ifB v1 (
 opt (ixSlc 6 t0 t6) fun v2 =>
 opt (loadN 6 v2 H) fun v3 =>
 opt (loadN 9 t3 H) fun v4 =>
 E.call (E.fid i.mean_Says) [v3, v4] H fun v5 H1 =>
 E.call (E.fid i.record_Stronger) [t5, v5] H1 fun v6 H2 =>
 opt (binInt .sub t6 (.int .i64 1)) fun v7 =>
 X0 [t0, t3, v6, v7] H2) (
 Q t5 H)
/-- pinfold/mean.All -/
def F.mean_All (E : Sy) (x0 x1 : Value) (H : AH) (Q : Value → AH → Prop) : Prop :=
 mk (boxO x1) H fun v1 H1 =>
 opt (lenSlc x0) fun v2 =>
 opt (binInt .sub v2 (.int .i64 1)) fun v3 =>
 LoopL (fun l H X0 => F.mean_All_l1 E Q (nth l 0) (nth l 1) (nth l 2) (nth l 3) H X0) [x0, v1, (.int .u32 2147418112), v3] H1

def F.pinfoldref09_All_l1 (E : Sy) (Q : Value → AH → Prop) (t0 t3 t5 t6 : Value) (H : AH) (X0 : List Value → AH → Prop) : Prop :=
 opt (binInt .geq t6 (.int .i64 0)) fun v1 =>
 ifB v1 (
 opt (ixSlc 6 t0 t6) fun v2 =>
 opt (loadN 6 v2 H) fun v3 =>
 opt (loadN 8 t3 H) fun v4 =>
 E.call (E.fid i.pinfoldref09_Says) [v3, v4] H fun v5 H1 =>
 E.call (E.fid i.pinfoldref03_Stronger) [t5, v5] H1 fun v6 H2 =>
 opt (binInt .sub t6 (.int .i64 1)) fun v7 =>
 X0 [t0, t3, v6, v7] H2) (
 Q t5 H)
/-- pinfold/pinfoldref09.All -/
def F.pinfoldref09_All (E : Sy) (x0 x1 : Value) (H : AH) (Q : Value → AH → Prop) : Prop :=
 mk (boxO x1) H fun v1 H1 =>
 opt (lenSlc x0) fun v2 =>
 opt (binInt .sub v2 (.int .i64 1)) fun v3 =>
 LoopL (fun l H X0 => F.pinfoldref09_All_l1 E Q (nth l 0) (nth l 1) (nth l 2) (nth l 3) H X0) [x0, v1, (.int .u32 2147418112), v3] H1

def F.mean_Speaks_l1 (E : Sy) (Q : Value → AH → Prop) (t2 t3 t4 t5 t9 t10 t11 : Value) (H : AH) (X0 : List Value → AH → Prop) : Prop :=
 opt (binInt .lss t11 t10) fun v1 =>
 ifB v1 (
 opt (ixSlc 3 t9 t11) fun v2 =>
 opt (loadN 3 v2 H) fun v3 =>
 allocW [(.int .u32 0), (.int .u32 0), (.slice none 0 0)] H fun v4 H1 =>
 opt (storeN 3 v4 v3 H1) fun H2 =>
 opt (loadN 3 v4 H2) fun v5 =>
 opt (loadN 9 t3 H2) fun v6 =>
 E.call (E.fid i.mean_Matches) [v5, v6] H2 fun v7 H3 =>
 opt (un .not v7) fun v8 =>
 ifB v8 (
 opt (binInt .add t11 (.int .i64 1)) fun v9 =>
 X0 [t2, t3, t4, t5, t9, t10, v9] H3) (
 mk (buildS 1 1 #[(.int .i64 0)] [(0, t11)]) H3 fun v10 H4 =>
 opt2 (app 1 8 t4 v10 H4) fun v11 H5 =>
 opt (binInt .lss t5 (.int .i64 0)) fun v12 =>
 gd v12 false (fun k => opt (addOff t2 2) fun v => k v H5) H5 fun v13 H6 =>
 gd v12 false (fun k => opt (load1 v13 H6) fun v => k v H6) H6 fun v14 H7 =>
 gd v12 false (fun k => k t5 H7) H7 fun v15 H8 =>
 gd v12 false (fun k => opt (ixSlc 3 v14 v15) fun v => k v H8) H8 fun v16 H9 =>
 gd v12 false (fun k => opt (addOff v16 1) fun v => k v H9) H9 fun v17 H10 =>
 gd v12 false (fun k => opt (load1 v17 H10) fun v => k v H10) H10 fun v18 H11 =>
 gd v12 false (fun k => opt (addOff v4 1) fun v => k v H11) H11 fun v19 H12 =>
 gd v12 false (fun k => opt (load1 v19 H12) fun v => k v H12) H12 fun v20 H13 =>
 gd v12 false (fun k => opt (addOff t2 2) fun v => k v H13) H13 fun v21 H14 =>
 gd v12 false (fun k => opt (load1 v21 H14) fun v => k v H14) H14 fun v22 H15 =>
 gd v12 false (fun k => k t5 H15) H15 fun v23 H16 =>
 gd v12 false (fun k => opt (ixSlc 3 v22 v23) fun v => k v H16) H16 fun v24 H17 =>
 gd v12 false (fun k => opt (addOff v24 1) fun v => k v H17) H17 fun v25 H18 =>
 gd v12 false (fun k => opt (load1 v25 H18) fun v => k v H18) H18 fun v26 H19 =>
 gd v12 false (fun k => E.call (E.fid i.record_Action_Kind) [v18] H19 fun v h => k v h) H19 fun v27 H20 =>
 gdC v12 false (load1 v25 H20 = load1 v25 H18) ∧
 gdC v12 false (load1 v21 H20 = load1 v21 H14) ∧
 gdC v12 false (load1 v19 H20 = load1 v19 H12) ∧
 gd v12 false (fun k => E.call (E.fid i.record_Action_Kind) [v20] H20 fun v h => k v h) H20 fun v28 H21 =>
 gdC v12 false (load1 v25 H21 = load1 v25 H18) ∧
 gdC v12 false (load1 v21 H21 = load1 v21 H14) ∧
 gd v12 false (fun k => E.call (E.fid i.record_Stronger) [v27, v28] H21 fun v h => k v h) H21 fun v29 H22 =>
 gdC v12 false (load1 v25 H22 = load1 v25 H18) ∧
 gdC v12 false (load1 v21 H22 = load1 v21 H14) ∧
 gd v12 false (fun k => E.call (E.fid i.record_Action_Kind) [v26] H22 fun v h => k v h) H22 fun v30 H23 =>
 gd v12 false (fun k => opt (binInt .neq v29 v30) fun v => k v H23) H23 fun v31 H24 =>
 opt (pick v12 (.bool true) v31) fun v32 =>
 ifB v32 (
 opt (binInt .add t11 (.int .i64 1)) fun v33 =>
 X0 [t2, t3, v11, t11, t9, t10, v33] H24) (
 opt (binInt .add t11 (.int .i64 1)) fun v34 =>
 X0 [t2, t3, v11, t5, t9, t10, v34] H24))) (
 Q (.tuple #[t4, t5]) H)
/-- pinfold/mean.Speaks -/
def F.mean_Speaks (E : Sy) (x0 x1 : Value) (H : AH) (Q : Value → AH → Prop) : Prop :=
 mk (boxO x0) H fun v1 H1 =>
 mk (boxO x1) H1 fun v2 H2 =>
 opt (addOff v1 2) fun v3 =>
 opt (load1 v3 H2) fun v4 =>
 opt (lenSlc v4) fun v5 =>
 LoopL (fun l H X0 => F.mean_Speaks_l1 E Q (nth l 0) (nth l 1) (nth l 2) (nth l 3) (nth l 4) (nth l 5) (nth l 6) H X0) [v1, v2, (.slice none 0 0), (.int .i64 (-1)), v4, v5, (.int .i64 0)] H2

/-- (pinfold/record.Action).strength -/
def F.record_Action_strength (E : Sy) (x0 : Value) (H : AH) (Q : Value → AH → Prop) : Prop :=
 E.call (E.fid i.record_Action_Kind) [x0] H fun v1 H1 =>
 opt (binInt .eql v1 (.int .u32 2147483648)) fun v2 =>
 ifB v2 (
 Q (.int .i64 3) H1) (
 opt (binInt .eql v1 (.int .u32 327680)) fun v3 =>
 ifB v3 (
 Q (.int .i64 2) H1) (
 opt (binInt .eql v1 (.int .u32 2147221504)) fun v4 =>
 ifB v4 (
 Q (.int .i64 1) H1) (
 Q (.int .i64 0) H1)))

def F.record_put_l1 (E : Sy) (Q : Value → AH → Prop) (t0 t1 t7 t8 : Value) (H : AH) (X0 : List Value → AH → Prop) : Prop :=
 opt (binInt .lss t8 t7) fun v1 =>
 ifB v1 (
 opt (binInt .mul (.int .i64 8) t8) fun v2 =>
 opt (binInt .shr t1 v2) fun v3 =>
 opt (convInt .u8 v3) fun v4 =>
 opt (ixSlc 1 t0 t8) fun v5 =>
 opt (store1 v5 v4 H) fun H1 =>
 opt (binInt .add t8 (.int .i64 1)) fun v6 =>
 X0 [t0, t1, t7, v6] H1) (
 Q (.tuple #[]) H)
/-- pinfold/record.put -/
def F.record_put (E : Sy) (x0 x1 x2 : Value) (H : AH) (Q : Value → AH → Prop) : Prop :=
 LoopL (fun l H X0 => F.record_put_l1 E Q (nth l 0) (nth l 1) (nth l 2) (nth l 3) H X0) [x0, x1, x2, (.int .i64 0)] H

def F.pinfoldref03_Of_l1 (E : Sy) (Q : Value → AH → Prop) (t7 t8 t9 t10 : Value) (H : AH) (X0 : List Value → AH → Prop) : Prop :=
 opt (binInt .lss t10 (.int .i64 6)) fun v1 =>
 ifB v1 (
 opt (binInt .mul (.int .i64 2) t10) fun v2 =>
 opt (binInt .add (.int .i64 4) v2) fun v3 =>
 opt (ixArr 6 1 t7 t10) fun v4 =>
 opt (load1 v4 H) fun v5 =>
 opt (binInt .rem v5 (.int .u64 4294967296)) fun v6 =>
 opt (convInt .u32 v6) fun v7 =>
 opt (ixArr 16 1 t9 v3) fun v8 =>
 opt (store1 v8 v7 H) fun H1 =>
 opt (binInt .mul (.int .i64 2) t10) fun v9 =>
 opt (binInt .add (.int .i64 5) v9) fun v10 =>
 opt (ixArr 6 1 t7 t10) fun v11 =>
 opt (load1 v11 H1) fun v12 =>
 opt (binInt .quo v12 (.int .u64 4294967296)) fun v13 =>
 opt (convInt .u32 v13) fun v14 =>
 opt (ixArr 16 1 t9 v10) fun v15 =>
 opt (store1 v15 v14 H1) fun H2 =>
 opt (binInt .add t10 (.int .i64 1)) fun v16 =>
 X0 [t7, t8, t9, v16] H2) (
 opt (loadN 16 t9 H) fun v17 =>
 opt (storeN 16 t8 v17 H) fun H3 =>
 opt (loadN 16 t8 H3) fun v18 =>
 Q v18 H3)
/-- pinfold/pinfoldref03.Of -/
def F.pinfoldref03_Of (E : Sy) (x0 x1 x2 x3 : Value) (H : AH) (Q : Value → AH → Prop) : Prop :=
 mk (boxO x3) H fun v1 H1 =>
 allocW (zs 16 (.int .u32 0)) H1 fun v2 H2 =>
 opt (binInt .rem x2 (.int .u64 4294967296)) fun v3 =>
 opt (convInt .u32 v3) fun v4 =>
 opt (binInt .quo x2 (.int .u64 4294967296)) fun v5 =>
 opt (convInt .u32 v5) fun v6 =>
 opt (buildA 1 (zs 16 (.int .u32 0)).toArray [(0, x0), (1, x1), (2, v4), (3, v6)]) fun v7 =>
 allocW (zs 16 (.int .u32 0)) H2 fun v8 H3 =>
 opt (storeN 16 v8 v7 H3) fun H4 =>
 LoopL (fun l H X0 => F.pinfoldref03_Of_l1 E Q (nth l 0) (nth l 1) (nth l 2) (nth l 3) H X0) [v1, v2, v8, (.int .i64 0)] H4

def F.record_take_l1 (E : Sy) (Q : Value → AH → Prop) (t5 t10 t11 t12 : Value) (H : AH) (X0 : List Value → AH → Prop) : Prop :=
 opt (binInt .lss t12 t11) fun v1 =>
 ifB v1 (
 opt (ixSlc 1 t10 t12) fun v2 =>
 opt (load1 v2 H) fun v3 =>
 opt (convInt .u64 v3) fun v4 =>
 opt (binInt .mul (.int .i64 8) t12) fun v5 =>
 opt (binInt .shl v4 v5) fun v6 =>
 opt (binInt .or t5 v6) fun v7 =>
 opt (binInt .add t12 (.int .i64 1)) fun v8 =>
 X0 [v7, t10, t11, v8] H) (
 Q t5 H)
/-- pinfold/record.take -/
def F.record_take (E : Sy) (x0 x1 : Value) (H : AH) (Q : Value → AH → Prop) : Prop :=
 opt (slSlc 1 x0 none (some x1) none H) fun v1 =>
 opt (lenSlc v1) fun v2 =>
 LoopL (fun l H X0 => F.record_take_l1 E Q (nth l 0) (nth l 1) (nth l 2) (nth l 3) H X0) [(.int .u64 0), v1, v2, (.int .i64 0)] H

/-- pinfold/pinfoldref01.Calls -/
def F.pinfoldref01_Calls (E : Sy) (H : AH) (Q : Value → AH → Prop) : Prop :=
 opt (buildV [(0, 1), (1, 1), (2, 1)] #[(.int .i64 0), (.string ⟨#[]⟩), (.int .i64 0)] [(0, (.int .i64 0)), (1, (.string ⟨#[114, 101, 97, 100]⟩)), (2, (.int .i64 2))]) fun v1 =>
 opt (buildV [(0, 1), (1, 1), (2, 1)] #[(.int .i64 0), (.string ⟨#[]⟩), (.int .i64 0)] [(0, (.int .i64 1)), (1, (.string ⟨#[119, 114, 105, 116, 101]⟩)), (2, (.int .i64 2))]) fun v2 =>
 opt (buildV [(0, 1), (1, 1), (2, 1)] #[(.int .i64 0), (.string ⟨#[]⟩), (.int .i64 0)] [(0, (.int .i64 2)), (1, (.string ⟨#[111, 112, 101, 110]⟩)), (2, (.int .i64 2))]) fun v3 =>
 opt (buildV [(0, 1), (1, 1), (2, 1)] #[(.int .i64 0), (.string ⟨#[]⟩), (.int .i64 0)] [(0, (.int .i64 3)), (1, (.string ⟨#[99, 108, 111, 115, 101]⟩)), (2, (.int .i64 1))]) fun v4 =>
 opt (buildV [(0, 1), (1, 1), (2, 1)] #[(.int .i64 0), (.string ⟨#[]⟩), (.int .i64 0)] [(0, (.int .i64 4)), (1, (.string ⟨#[115, 116, 97, 116]⟩)), (2, (.int .i64 1))]) fun v5 =>
 opt (buildV [(0, 1), (1, 1), (2, 1)] #[(.int .i64 0), (.string ⟨#[]⟩), (.int .i64 0)] [(0, (.int .i64 8)), (1, (.string ⟨#[115, 101, 101, 107]⟩)), (2, (.int .i64 2))]) fun v6 =>
 opt (buildV [(0, 1), (1, 1), (2, 1)] #[(.int .i64 0), (.string ⟨#[]⟩), (.int .i64 0)] [(0, (.int .i64 32)), (1, (.string ⟨#[100, 117, 112]⟩)), (2, (.int .i64 1))]) fun v7 =>
 opt (buildV [(0, 1), (1, 1), (2, 1)] #[(.int .i64 0), (.string ⟨#[]⟩), (.int .i64 0)] [(0, (.int .i64 39)), (1, (.string ⟨#[112, 105, 100]⟩)), (2, (.int .i64 0))]) fun v8 =>
 opt (buildV [(0, 1), (1, 1), (2, 1)] #[(.int .i64 0), (.string ⟨#[]⟩), (.int .i64 0)] [(0, (.int .i64 41)), (1, (.string ⟨#[115, 111, 99, 107, 101, 116]⟩)), (2, (.int .i64 0))]) fun v9 =>
 opt (buildV [(0, 1), (1, 1), (2, 1)] #[(.int .i64 0), (.string ⟨#[]⟩), (.int .i64 0)] [(0, (.int .i64 42)), (1, (.string ⟨#[99, 111, 110, 110, 101, 99, 116]⟩)), (2, (.int .i64 2))]) fun v10 =>
 opt (buildV [(0, 1), (1, 1), (2, 1)] #[(.int .i64 0), (.string ⟨#[]⟩), (.int .i64 0)] [(0, (.int .i64 49)), (1, (.string ⟨#[98, 105, 110, 100]⟩)), (2, (.int .i64 2))]) fun v11 =>
 opt (buildV [(0, 1), (1, 1), (2, 1)] #[(.int .i64 0), (.string ⟨#[]⟩), (.int .i64 0)] [(0, (.int .i64 50)), (1, (.string ⟨#[108, 105, 115, 116, 101, 110]⟩)), (2, (.int .i64 1))]) fun v12 =>
 opt (buildV [(0, 1), (1, 1), (2, 1)] #[(.int .i64 0), (.string ⟨#[]⟩), (.int .i64 0)] [(0, (.int .i64 57)), (1, (.string ⟨#[102, 111, 114, 107]⟩)), (2, (.int .i64 0))]) fun v13 =>
 opt (buildV [(0, 1), (1, 1), (2, 1)] #[(.int .i64 0), (.string ⟨#[]⟩), (.int .i64 0)] [(0, (.int .i64 60)), (1, (.string ⟨#[101, 120, 105, 116]⟩)), (2, (.int .i64 1))]) fun v14 =>
 opt (buildV [(0, 1), (1, 1), (2, 1)] #[(.int .i64 0), (.string ⟨#[]⟩), (.int .i64 0)] [(0, (.int .i64 77)), (1, (.string ⟨#[116, 114, 117, 110, 99, 97, 116, 101]⟩)), (2, (.int .i64 2))]) fun v15 =>
 opt (buildV [(0, 1), (1, 1), (2, 1)] #[(.int .i64 0), (.string ⟨#[]⟩), (.int .i64 0)] [(0, (.int .i64 78)), (1, (.string ⟨#[114, 101, 97, 100, 100, 105, 114]⟩)), (2, (.int .i64 1))]) fun v16 =>
 opt (buildV [(0, 1), (1, 1), (2, 1)] #[(.int .i64 0), (.string ⟨#[]⟩), (.int .i64 0)] [(0, (.int .i64 79)), (1, (.string ⟨#[99, 119, 100]⟩)), (2, (.int .i64 0))]) fun v17 =>
 opt (buildV [(0, 1), (1, 1), (2, 1)] #[(.int .i64 0), (.string ⟨#[]⟩), (.int .i64 0)] [(0, (.int .i64 80)), (1, (.string ⟨#[99, 104, 100, 105, 114]⟩)), (2, (.int .i64 1))]) fun v18 =>
 opt (buildV [(0, 1), (1, 1), (2, 1)] #[(.int .i64 0), (.string ⟨#[]⟩), (.int .i64 0)] [(0, (.int .i64 82)), (1, (.string ⟨#[114, 101, 110, 97, 109, 101]⟩)), (2, (.int .i64 2))]) fun v19 =>
 opt (buildV [(0, 1), (1, 1), (2, 1)] #[(.int .i64 0), (.string ⟨#[]⟩), (.int .i64 0)] [(0, (.int .i64 83)), (1, (.string ⟨#[109, 107, 100, 105, 114]⟩)), (2, (.int .i64 1))]) fun v20 =>
 opt (buildV [(0, 1), (1, 1), (2, 1)] #[(.int .i64 0), (.string ⟨#[]⟩), (.int .i64 0)] [(0, (.int .i64 84)), (1, (.string ⟨#[114, 109, 100, 105, 114]⟩)), (2, (.int .i64 1))]) fun v21 =>
 opt (buildV [(0, 1), (1, 1), (2, 1)] #[(.int .i64 0), (.string ⟨#[]⟩), (.int .i64 0)] [(0, (.int .i64 86)), (1, (.string ⟨#[108, 105, 110, 107]⟩)), (2, (.int .i64 2))]) fun v22 =>
 opt (buildV [(0, 1), (1, 1), (2, 1)] #[(.int .i64 0), (.string ⟨#[]⟩), (.int .i64 0)] [(0, (.int .i64 87)), (1, (.string ⟨#[117, 110, 108, 105, 110, 107]⟩)), (2, (.int .i64 1))]) fun v23 =>
 opt (buildV [(0, 1), (1, 1), (2, 1)] #[(.int .i64 0), (.string ⟨#[]⟩), (.int .i64 0)] [(0, (.int .i64 88)), (1, (.string ⟨#[115, 121, 109, 108, 105, 110, 107]⟩)), (2, (.int .i64 2))]) fun v24 =>
 opt (buildV [(0, 1), (1, 1), (2, 1)] #[(.int .i64 0), (.string ⟨#[]⟩), (.int .i64 0)] [(0, (.int .i64 89)), (1, (.string ⟨#[114, 101, 97, 100, 108, 105, 110, 107]⟩)), (2, (.int .i64 1))]) fun v25 =>
 opt (buildV [(0, 1), (1, 1), (2, 1)] #[(.int .i64 0), (.string ⟨#[]⟩), (.int .i64 0)] [(0, (.int .i64 157)), (1, (.string ⟨#[112, 114, 99, 116, 108]⟩)), (2, (.int .i64 1))]) fun v26 =>
 opt (buildV [(0, 1), (1, 1), (2, 1)] #[(.int .i64 0), (.string ⟨#[]⟩), (.int .i64 0)] [(0, (.int .i64 165)), (1, (.string ⟨#[109, 111, 117, 110, 116]⟩)), (2, (.int .i64 2))]) fun v27 =>
 opt (buildV [(0, 1), (1, 1), (2, 1)] #[(.int .i64 0), (.string ⟨#[]⟩), (.int .i64 0)] [(0, (.int .i64 166)), (1, (.string ⟨#[117, 109, 111, 117, 110, 116]⟩)), (2, (.int .i64 1))]) fun v28 =>
 opt (buildV [(0, 1), (1, 1), (2, 1)] #[(.int .i64 0), (.string ⟨#[]⟩), (.int .i64 0)] [(0, (.int .i64 317)), (1, (.string ⟨#[115, 101, 99, 99, 111, 109, 112]⟩)), (2, (.int .i64 1))]) fun v29 =>
 opt (buildV [(0, 1), (1, 1), (2, 1)] #[(.int .i64 0), (.string ⟨#[]⟩), (.int .i64 0)] [(0, (.int .i64 446)), (1, (.string ⟨#[114, 101, 115, 116, 114, 105, 99, 116]⟩)), (2, (.int .i64 1))]) fun v30 =>
 mk (buildS 30 3 #[(.int .i64 0), (.string ⟨#[]⟩), (.int .i64 0)] [(0, v1), (1, v2), (2, v3), (3, v4), (4, v5), (5, v6), (6, v7), (7, v8), (8, v9), (9, v10), (10, v11), (11, v12), (12, v13), (13, v14), (14, v15), (15, v16), (16, v17), (17, v18), (18, v19), (19, v20), (20, v21), (21, v22), (22, v23), (23, v24), (24, v25), (25, v26), (26, v27), (27, v28), (28, v29), (29, v30)]) H fun v31 H1 =>
 Q v31 H1

/-- pinfold/pinfoldlaw09.Action -/
def F.pinfoldlaw09_Action (E : Sy) (x0 x1 : Value) (H : AH) (Q : Value → AH → Prop) : Prop :=
 opt (binInt .rem x0 (.int .u8 4)) fun v1 =>
 opt (binInt .eql v1 (.int .u8 0)) fun v2 =>
 ifB v2 (
 Q (.int .u32 2147483648) H) (
 opt (binInt .eql v1 (.int .u8 1)) fun v3 =>
 ifB v3 (
 opt (convInt .i64 x1) fun v4 =>
 opt (binInt .add (.int .i64 1) v4) fun v5 =>
 E.call (E.fid i.record_Fail) [v5] H fun v6 H1 =>
 Q v6 H1) (
 opt (binInt .eql v1 (.int .u8 2)) fun v7 =>
 ifB v7 (
 Q (.int .u32 2147221504) H) (
 Q (.int .u32 2147418112) H)))

/-- (pinfold/pinfoldlaw09.Small).Policy$1 -/
def F.pinfoldlaw09_Small_Policy_1 (E : Sy) (x0 x1 x2 x3 : Value) (H : AH) (Q : Value → AH → Prop) : Prop :=
 opt (addOff x2 6) fun v1 =>
 opt (load1 v1 H) fun v2 =>
 opt (lenSlc v2) fun v3 =>
 opt (binInt .geq x0 v3) fun v4 =>
 ifB v4 (
 opt (addOff x3 3) fun v5 =>
 opt (load1 v5 H) fun v6 =>
 opt (binInt .and v6 x1) fun v7 =>
 Q v7 H) (
 opt (addOff x2 6) fun v8 =>
 opt (load1 v8 H) fun v9 =>
 opt (ixSlc 1 v9 x0) fun v10 =>
 opt (load1 v10 H) fun v11 =>
 opt (addOff x3 3) fun v12 =>
 opt (load1 v12 H) fun v13 =>
 opt (binInt .and v11 v13) fun v14 =>
 opt (binInt .and v14 x1) fun v15 =>
 Q v15 H)

/-- pinfold/pinfoldlaw09.Dirs -/
def F.pinfoldlaw09_Dirs (E : Sy) (H : AH) (Q : Value → AH → Prop) : Prop :=
 mk (buildS 6 1 #[(.string ⟨#[]⟩)] [(0, (.string ⟨#[47]⟩)), (1, (.string ⟨#[47, 97]⟩)), (2, (.string ⟨#[47, 97, 47, 98]⟩)), (3, (.string ⟨#[47, 102]⟩)), (4, (.string ⟨#[47, 97, 47, 103]⟩)), (5, (.string ⟨#[47, 99]⟩))]) H fun v1 H1 =>
 Q v1 H1

/-- pinfold/pinfoldlaw09.RefCond -/
def F.pinfoldlaw09_RefCond (E : Sy) (x0 : Value) (H : AH) (Q : Value → AH → Prop) : Prop :=
 mk (boxO x0) H fun v1 H1 =>
 allocW [(.int .i64 0), (.int .i64 0), (.int .u64 0), (.int .u64 0)] H1 fun v2 H2 =>
 opt (addOff v1 0) fun v3 =>
 opt (load1 v3 H2) fun v4 =>
 opt (addOff v1 1) fun v5 =>
 opt (load1 v5 H2) fun v6 =>
 opt (convInt .i64 v6) fun v7 =>
 opt (addOff v1 2) fun v8 =>
 opt (load1 v8 H2) fun v9 =>
 opt (addOff v1 3) fun v10 =>
 opt (load1 v10 H2) fun v11 =>
 opt (buildV [(0, 1), (1, 1), (2, 1), (3, 1)] #[(.int .i64 0), (.int .i64 0), (.int .u64 0), (.int .u64 0)] [(0, v4), (1, v7), (2, v9), (3, v11)]) fun v12 =>
 opt (storeN 4 v2 v12 H2) fun H3 =>
 opt (loadN 4 v2 H3) fun v13 =>
 Q v13 H3

/-- pinfold/pinfoldlaw09.values -/
def F.pinfoldlaw09_values (E : Sy) (H : AH) (Q : Value → AH → Prop) : Prop :=
 mk (buildS 12 1 #[(.int .u64 0)] [(0, (.int .u64 0)), (1, (.int .u64 1)), (2, (.int .u64 2)), (3, (.int .u64 3)), (4, (.int .u64 5)), (5, (.int .u64 255)), (6, (.int .u64 4294967295)), (7, (.int .u64 4294967296)), (8, (.int .u64 4294967297)), (9, (.int .u64 8589934597)), (10, (.int .u64 9223372036854775810)), (11, (.int .u64 18446744073709551615))]) H fun v1 H1 =>
 Q v1 H1
/-- Calls that may be answered by what the functions do. -/
structure Fold (E : Sy) : Prop where
  mono : MonoC E.call
  pinfoldlaw04_RecordOrder : ∀ (x0 x1 : Value) (H : AH) (Q : Value → AH → Prop), F.pinfoldlaw04_RecordOrder E x0 x1 H Q → E.call (E.fid i.pinfoldlaw04_RecordOrder) [x0, x1] H Q
  pinfoldlaw03_InsnKnown : ∀ (x0 x1 : Value) (H : AH) (Q : Value → AH → Prop), F.pinfoldlaw03_InsnKnown E x0 x1 H Q → E.call (E.fid i.pinfoldlaw03_InsnKnown) [x0, x1] H Q
  pinfoldlaw04_RecordActions : ∀ (x0 x1 x2 x3 : Value) (H : AH) (Q : Value → AH → Prop), F.pinfoldlaw04_RecordActions E x0 x1 x2 x3 H Q → E.call (E.fid i.pinfoldlaw04_RecordActions) [x0, x1, x2, x3] H Q
  pinfoldlaw03_InsnMakes : ∀ (x0 x1 x2 x3 : Value) (H : AH) (Q : Value → AH → Prop), F.pinfoldlaw03_InsnMakes E x0 x1 x2 x3 H Q → E.call (E.fid i.pinfoldlaw03_InsnMakes) [x0, x1, x2, x3] H Q
  pinfoldlaw03_InsnBytes : ∀ (x0 x1 x2 : Value) (H : AH) (Q : Value → AH → Prop), F.pinfoldlaw03_InsnBytes E x0 x1 x2 H Q → E.call (E.fid i.pinfoldlaw03_InsnBytes) [x0, x1, x2] H Q
  pinfoldlaw04_RecordBytes : ∀ (x0 x1 x2 : Value) (H : AH) (Q : Value → AH → Prop), F.pinfoldlaw04_RecordBytes E x0 x1 x2 H Q → E.call (E.fid i.pinfoldlaw04_RecordBytes) [x0, x1, x2] H Q
  pinfoldlaw04_RecordHalves : ∀ (x0 x1 : Value) (H : AH) (Q : Value → AH → Prop), F.pinfoldlaw04_RecordHalves E x0 x1 H Q → E.call (E.fid i.pinfoldlaw04_RecordHalves) [x0, x1] H Q
  pinfoldlaw11_MeanSays : ∀ (x0 x1 x2 x3 : Value) (H : AH) (Q : Value → AH → Prop), F.pinfoldlaw11_MeanSays E x0 x1 x2 x3 H Q → E.call (E.fid i.pinfoldlaw11_MeanSays) [x0, x1, x2, x3] H Q
  pinfoldlaw11_MeanNarrows : ∀ (x0 x1 x2 x3 : Value) (H : AH) (Q : Value → AH → Prop), F.pinfoldlaw11_MeanNarrows E x0 x1 x2 x3 H Q → E.call (E.fid i.pinfoldlaw11_MeanNarrows) [x0, x1, x2, x3] H Q
  pinfoldlaw11_MeanAll : ∀ (x0 x1 x2 x3 : Value) (H : AH) (Q : Value → AH → Prop), F.pinfoldlaw11_MeanAll E x0 x1 x2 x3 H Q → E.call (E.fid i.pinfoldlaw11_MeanAll) [x0, x1, x2, x3] H Q
  pinfoldlaw11_MeanSpeaks : ∀ (x0 x1 x2 x3 : Value) (H : AH) (Q : Value → AH → Prop), F.pinfoldlaw11_MeanSpeaks E x0 x1 x2 x3 H Q → E.call (E.fid i.pinfoldlaw11_MeanSpeaks) [x0, x1, x2, x3] H Q
  pinfoldlaw04_Awake : ∀ (H : AH) (Q : Value → AH → Prop), F.pinfoldlaw04_Awake E H Q → E.call (E.fid i.pinfoldlaw04_Awake) [] H Q
  pinfoldlaw04_RecordOrder_1 : ∀ (x0 : Value) (H : AH) (Q : Value → AH → Prop), F.pinfoldlaw04_RecordOrder_1 E x0 H Q → E.call (E.fid i.pinfoldlaw04_RecordOrder_1) [x0] H Q
  record_Stronger : ∀ (x0 x1 : Value) (H : AH) (Q : Value → AH → Prop), F.record_Stronger E x0 x1 H Q → E.call (E.fid i.record_Stronger) [x0, x1] H Q
  record_Action_Kind : ∀ (x0 : Value) (H : AH) (Q : Value → AH → Prop), F.record_Action_Kind E x0 H Q → E.call (E.fid i.record_Action_Kind) [x0] H Q
  pinfoldlaw03_Awake : ∀ (H : AH) (Q : Value → AH → Prop), F.pinfoldlaw03_Awake E H Q → E.call (E.fid i.pinfoldlaw03_Awake) [] H Q
  insn_Known : ∀ (x0 : Value) (H : AH) (Q : Value → AH → Prop), F.insn_Known E x0 H Q → E.call (E.fid i.insn_Known) [x0] H Q
  pinfoldref03_Known : ∀ (x0 : Value) (H : AH) (Q : Value → AH → Prop), F.pinfoldref03_Known E x0 H Q → E.call (E.fid i.pinfoldref03_Known) [x0] H Q
  insn_Class : ∀ (x0 : Value) (H : AH) (Q : Value → AH → Prop), F.insn_Class E x0 H Q → E.call (E.fid i.insn_Class) [x0] H Q
  record_Fail : ∀ (x0 : Value) (H : AH) (Q : Value → AH → Prop), F.record_Fail E x0 H Q → E.call (E.fid i.record_Fail) [x0] H Q
  pinfoldref03_Strength : ∀ (x0 : Value) (H : AH) (Q : Value → AH → Prop), F.pinfoldref03_Strength E x0 H Q → E.call (E.fid i.pinfoldref03_Strength) [x0] H Q
  record_Action_Number : ∀ (x0 : Value) (H : AH) (Q : Value → AH → Prop), F.record_Action_Number E x0 H Q → E.call (E.fid i.record_Action_Number) [x0] H Q
  pinfoldref03_Stronger : ∀ (x0 x1 : Value) (H : AH) (Q : Value → AH → Prop), F.pinfoldref03_Stronger E x0 x1 H Q → E.call (E.fid i.pinfoldref03_Stronger) [x0, x1] H Q
  insn_Load : ∀ (x0 : Value) (H : AH) (Q : Value → AH → Prop), F.insn_Load E x0 H Q → E.call (E.fid i.insn_Load) [x0] H Q
  insn_Return : ∀ (x0 : Value) (H : AH) (Q : Value → AH → Prop), F.insn_Return E x0 H Q → E.call (E.fid i.insn_Return) [x0] H Q
  insn_Skip : ∀ (x0 : Value) (H : AH) (Q : Value → AH → Prop), F.insn_Skip E x0 H Q → E.call (E.fid i.insn_Skip) [x0] H Q
  insn_Mask : ∀ (x0 : Value) (H : AH) (Q : Value → AH → Prop), F.insn_Mask E x0 H Q → E.call (E.fid i.insn_Mask) [x0] H Q
  insn_If : ∀ (x0 x1 x2 x3 : Value) (H : AH) (Q : Value → AH → Prop), F.insn_If E x0 x1 x2 x3 H Q → E.call (E.fid i.insn_If) [x0, x1, x2, x3] H Q
  insn_Insn_Bytes : ∀ (x0 : Value) (H : AH) (Q : Value → AH → Prop), F.insn_Insn_Bytes E x0 H Q → E.call (E.fid i.insn_Insn_Bytes) [x0] H Q
  pinfoldlaw03_Ref : ∀ (x0 : Value) (H : AH) (Q : Value → AH → Prop), F.pinfoldlaw03_Ref E x0 H Q → E.call (E.fid i.pinfoldlaw03_Ref) [x0] H Q
  pinfoldref03_Bytes : ∀ (x0 : Value) (H : AH) (Q : Value → AH → Prop), F.pinfoldref03_Bytes E x0 H Q → E.call (E.fid i.pinfoldref03_Bytes) [x0] H Q
  insn_Of : ∀ (x0 : Value) (H : AH) (Q : Value → AH → Prop), F.insn_Of E x0 H Q → E.call (E.fid i.insn_Of) [x0] H Q
  insn_Encode : ∀ (x0 : Value) (H : AH) (Q : Value → AH → Prop), F.insn_Encode E x0 H Q → E.call (E.fid i.insn_Encode) [x0] H Q
  insn_Decode : ∀ (x0 : Value) (H : AH) (Q : Value → AH → Prop), F.insn_Decode E x0 H Q → E.call (E.fid i.insn_Decode) [x0] H Q
  pinfoldlaw03_same : ∀ (x0 x1 : Value) (H : AH) (Q : Value → AH → Prop), F.pinfoldlaw03_same E x0 x1 H Q → E.call (E.fid i.pinfoldlaw03_same) [x0, x1] H Q
  record_Record_Bytes : ∀ (x0 : Value) (H : AH) (Q : Value → AH → Prop), F.record_Record_Bytes E x0 H Q → E.call (E.fid i.record_Record_Bytes) [x0] H Q
  pinfoldlaw04_Ref : ∀ (x0 : Value) (H : AH) (Q : Value → AH → Prop), F.pinfoldlaw04_Ref E x0 H Q → E.call (E.fid i.pinfoldlaw04_Ref) [x0] H Q
  record_Of : ∀ (x0 : Value) (H : AH) (Q : Value → AH → Prop), F.record_Of E x0 H Q → E.call (E.fid i.record_Of) [x0] H Q
  record_Record_Word : ∀ (x0 x1 : Value) (H : AH) (Q : Value → AH → Prop), F.record_Record_Word E x0 x1 H Q → E.call (E.fid i.record_Record_Word) [x0, x1] H Q
  record_Half : ∀ (x0 x1 : Value) (H : AH) (Q : Value → AH → Prop), F.record_Half E x0 x1 H Q → E.call (E.fid i.record_Half) [x0, x1] H Q
  pinfoldlaw11_Awake : ∀ (H : AH) (Q : Value → AH → Prop), F.pinfoldlaw11_Awake E H Q → E.call (E.fid i.pinfoldlaw11_Awake) [] H Q
  pinfoldlaw09_Few : ∀ (x0 : Value) (H : AH) (Q : Value → AH → Prop), F.pinfoldlaw09_Few E x0 H Q → E.call (E.fid i.pinfoldlaw09_Few) [x0] H Q
  pinfoldlaw09_Small_Policy : ∀ (x0 : Value) (H : AH) (Q : Value → AH → Prop), F.pinfoldlaw09_Small_Policy E x0 H Q → E.call (E.fid i.pinfoldlaw09_Small_Policy) [x0] H Q
  pinfoldlaw09_Ref : ∀ (x0 : Value) (H : AH) (Q : Value → AH → Prop), F.pinfoldlaw09_Ref E x0 H Q → E.call (E.fid i.pinfoldlaw09_Ref) [x0] H Q
  pinfoldlaw11_Records : ∀ (x0 x1 x2 : Value) (H : AH) (Q : Value → AH → Prop), F.pinfoldlaw11_Records E x0 x1 x2 H Q → E.call (E.fid i.pinfoldlaw11_Records) [x0, x1, x2] H Q
  mean_Matches : ∀ (x0 x1 : Value) (H : AH) (Q : Value → AH → Prop), F.mean_Matches E x0 x1 H Q → E.call (E.fid i.mean_Matches) [x0, x1] H Q
  pinfoldlaw11_Ref : ∀ (x0 : Value) (H : AH) (Q : Value → AH → Prop), F.pinfoldlaw11_Ref E x0 H Q → E.call (E.fid i.pinfoldlaw11_Ref) [x0] H Q
  pinfoldref09_Matches : ∀ (x0 x1 : Value) (H : AH) (Q : Value → AH → Prop), F.pinfoldref09_Matches E x0 x1 H Q → E.call (E.fid i.pinfoldref09_Matches) [x0, x1] H Q
  mean_Holds : ∀ (x0 x1 : Value) (H : AH) (Q : Value → AH → Prop), F.mean_Holds E x0 x1 H Q → E.call (E.fid i.mean_Holds) [x0, x1] H Q
  pinfoldref09_Holds : ∀ (x0 x1 : Value) (H : AH) (Q : Value → AH → Prop), F.pinfoldref09_Holds E x0 x1 H Q → E.call (E.fid i.pinfoldref09_Holds) [x0, x1] H Q
  mean_Says : ∀ (x0 x1 : Value) (H : AH) (Q : Value → AH → Prop), F.mean_Says E x0 x1 H Q → E.call (E.fid i.mean_Says) [x0, x1] H Q
  pinfoldref09_Says : ∀ (x0 x1 : Value) (H : AH) (Q : Value → AH → Prop), F.pinfoldref09_Says E x0 x1 H Q → E.call (E.fid i.pinfoldref09_Says) [x0, x1] H Q
  pinfoldlaw09_Cond_Cond : ∀ (x0 : Value) (H : AH) (Q : Value → AH → Prop), F.pinfoldlaw09_Cond_Cond E x0 H Q → E.call (E.fid i.pinfoldlaw09_Cond_Cond) [x0] H Q
  mean_All : ∀ (x0 x1 : Value) (H : AH) (Q : Value → AH → Prop), F.mean_All E x0 x1 H Q → E.call (E.fid i.mean_All) [x0, x1] H Q
  pinfoldref09_All : ∀ (x0 x1 : Value) (H : AH) (Q : Value → AH → Prop), F.pinfoldref09_All E x0 x1 H Q → E.call (E.fid i.pinfoldref09_All) [x0, x1] H Q
  mean_Speaks : ∀ (x0 x1 : Value) (H : AH) (Q : Value → AH → Prop), F.mean_Speaks E x0 x1 H Q → E.call (E.fid i.mean_Speaks) [x0, x1] H Q
  record_Action_strength : ∀ (x0 : Value) (H : AH) (Q : Value → AH → Prop), F.record_Action_strength E x0 H Q → E.call (E.fid i.record_Action_strength) [x0] H Q
  record_put : ∀ (x0 x1 x2 : Value) (H : AH) (Q : Value → AH → Prop), F.record_put E x0 x1 x2 H Q → E.call (E.fid i.record_put) [x0, x1, x2] H Q
  pinfoldref03_Of : ∀ (x0 x1 x2 x3 : Value) (H : AH) (Q : Value → AH → Prop), F.pinfoldref03_Of E x0 x1 x2 x3 H Q → E.call (E.fid i.pinfoldref03_Of) [x0, x1, x2, x3] H Q
  record_take : ∀ (x0 x1 : Value) (H : AH) (Q : Value → AH → Prop), F.record_take E x0 x1 H Q → E.call (E.fid i.record_take) [x0, x1] H Q
  pinfoldref01_Calls : ∀ (H : AH) (Q : Value → AH → Prop), F.pinfoldref01_Calls E H Q → E.call (E.fid i.pinfoldref01_Calls) [] H Q
  pinfoldlaw09_Action : ∀ (x0 x1 : Value) (H : AH) (Q : Value → AH → Prop), F.pinfoldlaw09_Action E x0 x1 H Q → E.call (E.fid i.pinfoldlaw09_Action) [x0, x1] H Q
  pinfoldlaw09_Small_Policy_1 : ∀ (x0 x1 x2 x3 : Value) (H : AH) (Q : Value → AH → Prop), F.pinfoldlaw09_Small_Policy_1 E x0 x1 x2 x3 H Q → E.call (E.fid i.pinfoldlaw09_Small_Policy_1) [x0, x1, x2, x3] H Q
  pinfoldlaw09_Dirs : ∀ (H : AH) (Q : Value → AH → Prop), F.pinfoldlaw09_Dirs E H Q → E.call (E.fid i.pinfoldlaw09_Dirs) [] H Q
  pinfoldlaw09_RefCond : ∀ (x0 : Value) (H : AH) (Q : Value → AH → Prop), F.pinfoldlaw09_RefCond E x0 H Q → E.call (E.fid i.pinfoldlaw09_RefCond) [x0] H Q
  pinfoldlaw09_values : ∀ (H : AH) (Q : Value → AH → Prop), F.pinfoldlaw09_values E H Q → E.call (E.fid i.pinfoldlaw09_values) [] H Q
end Go.AM
