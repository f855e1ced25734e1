/- THE FUNCTIONS, AS THE ABSTRACT MACHINE SEES THEM: written by program (gen2.py). -/
import Derived.Test.YtakplbkhbalfoaaIeab2A1
set_option linter.all false
set_option linter.unusedVariables false
namespace Go.AM
def i.f21 : Nat := 78
def i.f18 : Nat := 99
def i.f4 : Nat := 100
def i.f10 : Nat := 101
def i.f6 : Nat := 103
def i.f8 : Nat := 104
def i.f5 : Nat := 108
def i.f19 : Nat := 109
def i.f23 : Nat := 110
def i.f7 : Nat := 111
def i.f2 : Nat := 112
def i.f20 : Nat := 113
def i.f22 : Nat := 115
def i.f9 : Nat := 121
def i.f13 : Nat := 130
def i.f11 : Nat := 131
def i.f49 : Nat := 132
def i.f14 : Nat := 133
def i.f12 : Nat := 134
def i.f27 : Nat := 136
def i.f25 : Nat := 137
def i.f29 : Nat := 138
def i.f3 : Nat := 139
def i.f46 : Nat := 140
def i.f24 : Nat := 141
def i.f26 : Nat := 143
def i.f28 : Nat := 144
def i.f48 : Nat := 154
def i.f30 : Nat := 156
def i.f15 : Nat := 157
def i.f42 : Nat := 158
def i.f47 : Nat := 159
def i.f16 : Nat := 164
def i.f17 : Nat := 165
def i.f34 : Nat := 166
def i.f33 : Nat := 167
def i.f32 : Nat := 168
def i.f0 : Nat := 169
def i.f40 : Nat := 170
def i.f41 : Nat := 171
def i.f39 : Nat := 172
def i.f43 : Nat := 173
def i.f31 : Nat := 174
def i.f44 : Nat := 184
def i.f37 : Nat := 185
def i.f45 : Nat := 186
def i.f36 : Nat := 187
def i.f35 : Nat := 188
def i.f1 : Nat := 189
def i.f38 : Nat := 194
def F.f19_l2 (E : Sy) (Q : Value → AH → Prop) (t0 t5 t6 t13 t76 t77 t78 : Value) (H : AH) (X0 : List Value → AH → Prop) : Prop :=
 opt (binInt .lss t78 t77) fun v1 =>
 ifB v1 (
 opt (ixSlc 1 t76 t78) fun v2 =>
 opt (load1 v2 H) fun v3 =>
 opt (nilCk t6) fun v4 =>
 opt (addOff v4 0) fun v5 =>
 opt (load1 v5 H) fun v6 =>
 opt (ixSlc 7 v6 (.int .i64 1)) fun v7 =>
 opt (addOff v7 2) fun v8 =>
 opt (load1 v8 H) fun v9 =>
 opt (ixSlc 2 v9 t78) fun v10 =>
 opt (addOff v10 0) fun v11 =>
 opt (load1 v11 H) fun v12 =>
 opt (binStr .neq v3 v12) fun v13 =>
 ifB v13 (
 Q (.bool false) H) (
 opt (binInt .add t78 (.int .i64 1)) fun v14 =>
 X0 [t0, t5, t6, t13, t76, t77, v14] H)) (
 E.call (E.fid i.f7) [t5, (.int .u16 2)] H fun v15 H1 =>
 opt (ext v15 0) fun v16 =>
 opt (ext v15 1) fun v17 =>
 E.call (E.fid i.f7) [t5, (.int .u16 999)] H1 fun v18 H2 =>
 opt (ext v18 0) fun v19 =>
 opt (ext v18 1) fun v20 =>
 E.call (E.fid i.f2) [t0] H2 fun v21 H3 =>
 E.call (E.fid i.f20) [t0] H3 fun v22 H4 =>
 opt (binBool .eql v21 v22) fun v23 =>
 gd v23 true (fun k => k v20 H4) H4 fun v24 H5 =>
 gd v23 true (fun k => opt (binInt .eql v24 (.int .i64 2)) fun v => k v H5) H5 fun v25 H6 =>
 opt (pick v23 v25 (.bool false)) fun v26 =>
 gd v26 true (fun k => k v17 H6) H6 fun v27 H7 =>
 gd v26 true (fun k => opt (binInt .eql v27 (.int .i64 20)) fun v => k v H7) H7 fun v28 H8 =>
 gd v26 true (fun k => k v28 H8) H8 fun v29 H9 =>
 gd v29 false (fun k => k t13 H9) H9 fun v30 H10 =>
 gd v29 false (fun k => opt (lenSlc v30) fun v => k v H10) H10 fun v31 H11 =>
 gd v29 false (fun k => opt (binInt .eql v31 (.int .i64 0)) fun v => k v H11) H11 fun v32 H12 =>
 gd v29 false (fun k => k v32 H12) H12 fun v33 H13 =>
 gd v33 true (fun k => k v17 H13) H13 fun v34 H14 =>
 gd v33 true (fun k => opt (binInt .eql v34 (.int .i64 2)) fun v => k v H14) H14 fun v35 H15 =>
 gd v29 false (fun k => opt (pick v33 v35 (.bool false)) fun v => k v H15) H15 fun v36 H16 =>
 gd v26 true (fun k => opt (pick v29 (.bool true) v36) fun v => k v H16) H16 fun v37 H17 =>
 opt (pick v26 v37 (.bool false)) fun v38 =>
 Q v38 H17)
def F.f19_l1 (E : Sy) (Q : Value → AH → Prop) (t0 t5 t6 t28 t29 t30 : Value) (H : AH) (X0 : List Value → AH → Prop) : Prop :=
 opt (binInt .lss t30 t29) fun v1 =>
 ifB v1 (
 opt (ixSlc 1 t28 t30) fun v2 =>
 opt (load1 v2 H) fun v3 =>
 E.call (E.fid i.f10) [t5, (.int .u16 1), v3, (.int .u8 1), (.string ⟨#[]⟩)] H fun v4 H1 =>
 opt (ext v4 0) fun v5 =>
 opt (ext v4 1) fun v6 =>
 E.call (E.fid i.f23) [t6, (.int .i64 1), v3, (.int .i64 1), (.string ⟨#[]⟩)] H1 fun v7 H2 =>
 opt (ext v7 0) fun v8 =>
 opt (ext v7 1) fun v9 =>
 opt (convInt .i64 v5) fun v10 =>
 opt (binInt .neq v10 v8) fun v11 =>
 gd v11 false (fun k => k v6 H2) H2 fun v12 H3 =>
 gd v11 false (fun k => k v9 H3) H3 fun v13 H4 =>
 gd v11 false (fun k => opt (binInt .neq v12 v13) fun v => k v H4) H4 fun v14 H5 =>
 opt (pick v11 (.bool true) v14) fun v15 =>
 ifB v15 (
 Q (.bool false) H5) (
 opt (binInt .add t30 (.int .i64 1)) fun v16 =>
 X0 [t0, t5, t6, t28, t29, v16] H5)) (
 E.call (E.fid i.f7) [t5, (.int .u16 1)] H fun v17 H6 =>
 opt (ext v17 0) fun v18 =>
 opt (ext v17 1) fun v19 =>
 opt (binInt .neq v19 (.int .i64 0)) fun v20 =>
 gd v20 false (fun k => k v18 H6) H6 fun v21 H7 =>
 gd v20 false (fun k => opt (lenSlc v21) fun v => k v H7) H7 fun v22 H8 =>
 gd v20 false (fun k => k t6 H8) H8 fun v23 H9 =>
 gd v20 false (fun k => opt (nilCk v23) fun v => k v H9) H9 fun v24 H10 =>
 gd v20 false (fun k => opt (addOff v24 0) fun v => k v H10) H10 fun v25 H11 =>
 gd v20 false (fun k => opt (load1 v25 H11) fun v => k v H11) H11 fun v26 H12 =>
 gd v20 false (fun k => opt (ixSlc 7 v26 (.int .i64 1)) fun v => k v H12) H12 fun v27 H13 =>
 gd v20 false (fun k => opt (addOff v27 2) fun v => k v H13) H13 fun v28 H14 =>
 gd v20 false (fun k => opt (load1 v28 H14) fun v => k v H14) H14 fun v29 H15 =>
 gd v20 false (fun k => opt (lenSlc v29) fun v => k v H15) H15 fun v30 H16 =>
 gd v20 false (fun k => opt (binInt .neq v22 v30) fun v => k v H16) H16 fun v31 H17 =>
 opt (pick v20 (.bool true) v31) fun v32 =>
 ifB v32 (
 Q (.bool false) H17) (
 opt (lenSlc v18) fun v33 =>
 LoopL (fun l H X0 => F.f19_l2 E Q (nth l 0) (nth l 1) (nth l 2) (nth l 3) (nth l 4) (nth l 5) (nth l 6) H X0) [t0, t5, t6, v18, v18, v33, (.int .i64 0)] H17))
/-- pinfold/pinfoldlaw16.InodeNames -/
def F.f19 (E : Sy) (x0 x1 : Value) (H : AH) (Q : Value → AH → Prop) : Prop :=
 E.call (E.fid i.f18) [] H fun v1 H1 =>
 opt (un .not v1) fun v2 =>
 ifB v2 (
 Q (.bool false) H1) (
 opt (lenSlc x1) fun v3 =>
 opt (binInt .gtr v3 (.int .i64 60)) fun v4 =>
 ifB v4 (
 Q (.bool true) H1) (
 E.call (E.fid i.f4) [(.int .i64 200)] H1 fun v5 H2 =>
 E.call (E.fid i.f21) [(.int .i64 200)] H2 fun v6 H3 =>
 opt (lenSlc x1) fun v7 =>
 LoopL (fun l H X0 => F.f19_l1 E Q (nth l 0) (nth l 1) (nth l 2) (nth l 3) (nth l 4) (nth l 5) H X0) [x0, v5, v6, x1, v7, (.int .i64 0)] H3))

/-- pinfold/pinfoldlaw16.Awake -/
def F.f18 (E : Sy) (H : AH) (Q : Value → AH → Prop) : Prop :=
 E.call (E.fid i.f4) [(.int .i64 9)] H fun v1 H1 =>
 E.call (E.fid i.f10) [v1, (.int .u16 1), (.string ⟨#[97]⟩), (.int .u8 1), (.string ⟨#[]⟩)] H1 fun v2 H2 =>
 opt (ext v2 0) fun v3 =>
 opt (ext v2 1) fun v4 =>
 E.call (E.fid i.f5) [v1, (.int .u16 1), (.string ⟨#[98]⟩), v3] H2 fun v5 H3 =>
 E.call (E.fid i.f6) [v1, (.int .u16 1), (.string ⟨#[97]⟩), (.bool false)] H3 fun v6 H4 =>
 E.call (E.fid i.f8) [v1, (.int .u16 2)] H4 fun v7 H5 =>
 opt (binInt .eql v4 (.int .i64 0)) fun v8 =>
 gd v8 true (fun k => k v3 H5) H5 fun v9 H6 =>
 gd v8 true (fun k => opt (binInt .eql v9 (.int .u16 2)) fun v => k v H6) H6 fun v10 H7 =>
 opt (pick v8 v10 (.bool false)) fun v11 =>
 gd v11 true (fun k => k v5 H7) H7 fun v12 H8 =>
 gd v11 true (fun k => opt (binInt .eql v12 (.int .i64 0)) fun v => k v H8) H8 fun v13 H9 =>
 opt (pick v11 v13 (.bool false)) fun v14 =>
 gd v14 true (fun k => k v6 H9) H9 fun v15 H10 =>
 gd v14 true (fun k => opt (binInt .eql v15 (.int .i64 0)) fun v => k v H10) H10 fun v16 H11 =>
 opt (pick v14 v16 (.bool false)) fun v17 =>
 gd v17 true (fun k => k v7 H11) H11 fun v18 H12 =>
 gd v17 true (fun k => opt (binNil eqPtr .neq v18 (.pointer none)) fun v => k v H12) H12 fun v19 H13 =>
 opt (pick v17 v19 (.bool false)) fun v20 =>
 gd v20 true (fun k => k v7 H13) H13 fun v21 H14 =>
 gd v20 true (fun k => opt (nilCk v21) fun v => k v H14) H14 fun v22 H15 =>
 gd v20 true (fun k => opt (addOff v22 6) fun v => k v H15) H15 fun v23 H16 =>
 gd v20 true (fun k => opt (load1 v23 H16) fun v => k v H16) H16 fun v24 H17 =>
 gd v20 true (fun k => opt (binInt .eql v24 (.int .i64 1)) fun v => k v H17) H17 fun v25 H18 =>
 opt (pick v20 v25 (.bool false)) fun v26 =>
 Q v26 H18

/-- pinfold/inode.New -/
def F.f4 (E : Sy) (x0 : Value) (H : AH) (Q : Value → AH → Prop) : Prop :=
 mapW H fun v1 H1 =>
 opt (fold2 max2 [x0, (.int .i64 1)]) fun v2 =>
 opt (fold2 min2 [v2, (.int .i64 256)]) fun v3 =>
 opt (buildV [(0, 1), (1, 1), (2, 1)] #[(.map none), (.int .i64 0), (.int .i64 0)] [(0, v1), (1, v3)]) fun v4 =>
 mk (boxO v4) H1 fun v5 H2 =>
 opt (nilCk v5) fun v6 =>
 opt (addOff v6 0) fun v7 =>
 opt (load1 v7 H2) fun v8 =>
 mapW H2 fun v9 H3 =>
 opt (buildV [(0, 1), (1, 1), (2, 1), (3, 1), (4, 1), (5, 1), (6, 1), (7, 1)] #[(.int .u16 0), (.int .u8 0), (.slice none 0 0), (.map none), (.int .u16 0), (.string ⟨#[]⟩), (.int .i64 0), (.int .i64 0)] [(0, (.int .u16 1)), (1, (.int .u8 2)), (3, v9), (4, (.int .u16 1)), (6, (.int .i64 1))]) fun v10 =>
 mk (boxO v10) H3 fun v11 H4 =>
 opt (setMap 0 v8 (.int .u16 1) v11 H4) fun H5 =>
 Q v5 H5

/-- pinfold/pinfoldref16.New -/
def F.f21 (E : Sy) (x0 : Value) (H : AH) (Q : Value → AH → Prop) : Prop :=
 opt (buildV [(0, 1), (1, 1), (2, 1), (3, 1), (4, 1), (5, 1), (6, 1)] #[(.int .i64 0), (.slice none 0 0), (.slice none 0 0), (.int .i64 0), (.string ⟨#[]⟩), (.int .i64 0), (.int .i64 0)] []) fun v1 =>
 opt (buildV [(0, 1), (1, 1), (2, 1), (3, 1), (4, 1), (5, 1), (6, 1)] #[(.int .i64 0), (.slice none 0 0), (.slice none 0 0), (.int .i64 0), (.string ⟨#[]⟩), (.int .i64 0), (.int .i64 0)] [(0, (.int .i64 2)), (3, (.int .i64 1)), (5, (.int .i64 1))]) fun v2 =>
 mk (buildS 2 7 #[(.int .i64 0), (.slice none 0 0), (.slice none 0 0), (.int .i64 0), (.string ⟨#[]⟩), (.int .i64 0), (.int .i64 0)] [(0, v1), (1, v2)]) H fun v3 H1 =>
 opt (fold2 max2 [x0, (.int .i64 1)]) fun v4 =>
 opt (fold2 min2 [v4, (.int .i64 256)]) fun v5 =>
 opt (buildV [(0, 1), (1, 1), (2, 2), (4, 1)] #[(.int .i64 0), (.int .i64 0), (.int .i64 0), (.int .i64 0), (.int .i64 0)] [(1, (.int .i64 1))]) fun v6 =>
 mk (buildS 1 5 #[(.int .i64 0), (.int .i64 0), (.int .i64 0), (.int .i64 0), (.int .i64 0)] [(0, v6)]) H1 fun v7 H2 =>
 opt (buildV [(0, 1), (1, 1), (2, 1), (3, 1), (4, 1)] #[(.slice none 0 0), (.int .i64 0), (.slice none 0 0), (.int .i64 0), (.int .i64 0)] [(0, v3), (1, v5), (2, v7), (3, (.int .i64 1))]) fun v8 =>
 mk (boxO v8) H2 fun v9 H3 =>
 Q v9 H3

def F.f10_j1 (E : Sy) (Q : Value → AH → Prop) (t0 t2 t12 t14 t15 : Value) (H : AH) : Prop :=
 opt (nilCk t0) fun v1 =>
 opt (addOff v1 0) fun v2 =>
 opt (load1 v2 H) fun v3 =>
 opt (setMap 0 v3 t14 t15 H) fun H1 =>
 opt (nilCk t12) fun v4 =>
 opt (addOff v4 3) fun v5 =>
 opt (load1 v5 H1) fun v6 =>
 opt (setMap 1 v6 t2 t14 H1) fun H2 =>
 opt (nilCk t0) fun v7 =>
 opt (addOff v7 2) fun v8 =>
 E.call (E.fid i.f49) [v8, (.int .i64 1)] H2 fun v9 H3 =>
 Q (.tuple #[t14, (.int .i64 0)]) H3
def F.f10_l1 (E : Sy) (Q : Value → AH → Prop) (t0 t1 t2 t3 t4 t12 t14 : Value) (H : AH) (X0 : List Value → AH → Prop) : Prop :=
 opt (nilCk t0) fun v1 =>
 opt (addOff v1 0) fun v2 =>
 opt (load1 v2 H) fun v3 =>
 opt (look 0 (.pointer none) false v3 t14 H) fun v4 =>
 opt (binNil eqPtr .neq v4 (.pointer none)) fun v5 =>
 ifB v5 (
 opt (binInt .add t14 (.int .u16 1)) fun v6 =>
 X0 [t0, t1, t2, t3, t4, t12, v6] H) (
 opt (buildV [(0, 1), (1, 1), (2, 1), (3, 1), (4, 1), (5, 1), (6, 1), (7, 1)] #[(.int .u16 0), (.int .u8 0), (.slice none 0 0), (.map none), (.int .u16 0), (.string ⟨#[]⟩), (.int .i64 0), (.int .i64 0)] [(0, t14), (1, t3), (6, (.int .i64 1))]) fun v7 =>
 mk (boxO v7) H fun v8 H1 =>
 opt (binInt .eql t3 (.int .u8 2)) fun v9 =>
 ifB v9 (
 mapW H1 fun v10 H2 =>
 opt (nilCk v8) fun v11 =>
 opt (addOff v11 3) fun v12 =>
 opt (store1 v12 v10 H2) fun H3 =>
 opt (nilCk v8) fun v13 =>
 opt (addOff v13 4) fun v14 =>
 opt (store1 v14 t1 H3) fun H4 =>
 F.f10_j1 E Q t0 t2 t12 t14 v8 H4) (
 opt (binInt .eql t3 (.int .u8 3)) fun v15 =>
 ifB v15 (
 opt (nilCk v8) fun v16 =>
 opt (addOff v16 5) fun v17 =>
 opt (store1 v17 t4 H1) fun H5 =>
 F.f10_j1 E Q t0 t2 t12 t14 v8 H5) (
 F.f10_j1 E Q t0 t2 t12 t14 v8 H1)))
/-- (*pinfold/inode.Table).Make -/
def F.f10 (E : Sy) (x0 x1 x2 x3 x4 : Value) (H : AH) (Q : Value → AH → Prop) : Prop :=
 E.call (E.fid i.f13) [x0, x1, x2] H fun v1 H1 =>
 opt (ext v1 0) fun v2 =>
 opt (ext v1 1) fun v3 =>
 opt (binInt .neq v3 (.int .i64 0)) fun v4 =>
 ifB v4 (
 Q (.tuple #[(.int .u16 0), v3]) H1) (
 opt (binInt .lss x3 (.int .u8 1)) fun v5 =>
 gd v5 false (fun k => k x3 H1) H1 fun v6 H2 =>
 gd v5 false (fun k => opt (binInt .gtr v6 (.int .u8 3)) fun v => k v H2) H2 fun v7 H3 =>
 opt (pick v5 (.bool true) v7) fun v8 =>
 ifB v8 (
 Q (.tuple #[(.int .u16 0), (.int .i64 22)]) H3) (
 opt (binInt .eql x3 (.int .u8 3)) fun v9 =>
 gd v9 true (fun k => k x4 H3) H3 fun v10 H4 =>
 gd v9 true (fun k => opt (lenStr v10) fun v => k v H4) H4 fun v11 H5 =>
 gd v9 true (fun k => opt (binInt .lss v11 (.int .i64 1)) fun v => k v H5) H5 fun v12 H6 =>
 gd v9 true (fun k => k v12 H6) H6 fun v13 H7 =>
 gd v13 false (fun k => k x4 H7) H7 fun v14 H8 =>
 gd v13 false (fun k => opt (lenStr v14) fun v => k v H8) H8 fun v15 H9 =>
 gd v13 false (fun k => opt (binInt .gtr v15 (.int .i64 120)) fun v => k v H9) H9 fun v16 H10 =>
 gd v9 true (fun k => opt (pick v13 (.bool true) v16) fun v => k v H10) H10 fun v17 H11 =>
 opt (pick v9 v17 (.bool false)) fun v18 =>
 ifB v18 (
 Q (.tuple #[(.int .u16 0), (.int .i64 22)]) H11) (
 opt (nilCk x0) fun v19 =>
 opt (addOff v19 0) fun v20 =>
 opt (load1 v20 H11) fun v21 =>
 opt (lenMap v21 H11) fun v22 =>
 opt (nilCk x0) fun v23 =>
 opt (addOff v23 1) fun v24 =>
 opt (load1 v24 H11) fun v25 =>
 opt (binInt .geq v22 v25) fun v26 =>
 ifB v26 (
 Q (.tuple #[(.int .u16 0), (.int .i64 28)]) H11) (
 opt (binInt .eql x3 (.int .u8 2)) fun v27 =>
 gd v27 true (fun k => k x0 H11) H11 fun v28 H12 =>
 gd v27 true (fun k => k x1 H12) H12 fun v29 H13 =>
 gd v27 true (fun k => E.call (E.fid i.f11) [v28, v29] H13 fun v h => k v h) H13 fun v30 H14 =>
 gd v27 true (fun k => opt (binInt .geq v30 (.int .i64 16)) fun v => k v H14) H14 fun v31 H15 =>
 opt (pick v27 v31 (.bool false)) fun v32 =>
 ifB v32 (
 Q (.tuple #[(.int .u16 0), (.int .i64 28)]) H15) (
 LoopL (fun l H X0 => F.f10_l1 E Q (nth l 0) (nth l 1) (nth l 2) (nth l 3) (nth l 4) (nth l 5) (nth l 6) H X0) [x0, x1, x2, x3, x4, v2, (.int .u16 1)] H15)))))

def F.f23_j3 (E : Sy) (Q : Value → AH → Prop) (t0 t1 t2 t13 t14 : Value) (H : AH) : Prop :=
 opt (nilCk t0) fun v1 =>
 opt (addOff v1 0) fun v2 =>
 opt (load1 v2 H) fun v3 =>
 opt (loadN 7 t14 H) fun v4 =>
 opt (ixSlc 7 v3 t13) fun v5 =>
 opt (storeN 7 v5 v4 H) fun H1 =>
 opt (nilCk t0) fun v6 =>
 opt (addOff v6 0) fun v7 =>
 opt (load1 v7 H1) fun v8 =>
 opt (nilCk t0) fun v9 =>
 opt (addOff v9 0) fun v10 =>
 opt (load1 v10 H1) fun v11 =>
 opt (ixSlc 7 v11 t1) fun v12 =>
 opt (addOff v12 2) fun v13 =>
 opt (load1 v13 H1) fun v14 =>
 opt (buildV [(0, 1), (1, 1)] #[(.string ⟨#[]⟩), (.int .i64 0)] [(0, t2), (1, t13)]) fun v15 =>
 E.call (E.fid i.f29) [v14, v15] H1 fun v16 H2 =>
 load1 v7 H2 = load1 v7 H1 ∧
 opt (ixSlc 7 v8 t1) fun v17 =>
 opt (addOff v17 2) fun v18 =>
 opt (store1 v18 v16 H2) fun H3 =>
 opt (nilCk t0) fun v19 =>
 opt (addOff v19 4) fun v20 =>
 opt (load1 v20 H3) fun v21 =>
 opt (binInt .add v21 (.int .i64 1)) fun v22 =>
 opt (nilCk t0) fun v23 =>
 opt (addOff v23 4) fun v24 =>
 opt (store1 v24 v22 H3) fun H4 =>
 Q (.tuple #[t13, (.int .i64 0)]) H4
def F.f23_j2 (E : Sy) (Q : Value → AH → Prop) (t0 t1 t2 t3 t4 t13 t14 : Value) (H : AH) : Prop :=
 opt (binInt .eql t3 (.int .i64 3)) fun v1 =>
 ifB v1 (
 opt (addOff t14 4) fun v2 =>
 opt (store1 v2 t4 H) fun H1 =>
 F.f23_j3 E Q t0 t1 t2 t13 t14 H1) (
 F.f23_j3 E Q t0 t1 t2 t13 t14 H)
def F.f23_j1 (E : Sy) (Q : Value → AH → Prop) (t0 t1 t2 t3 t4 t13 : Value) (H : AH) : Prop :=
 opt (buildV [(0, 1), (1, 1), (2, 1), (3, 1), (4, 1), (5, 1), (6, 1)] #[(.int .i64 0), (.slice none 0 0), (.slice none 0 0), (.int .i64 0), (.string ⟨#[]⟩), (.int .i64 0), (.int .i64 0)] [(0, t3), (5, (.int .i64 1))]) fun v1 =>
 allocW [(.int .i64 0), (.slice none 0 0), (.slice none 0 0), (.int .i64 0), (.string ⟨#[]⟩), (.int .i64 0), (.int .i64 0)] H fun v2 H1 =>
 opt (storeN 7 v2 v1 H1) fun H2 =>
 opt (binInt .eql t3 (.int .i64 2)) fun v3 =>
 ifB v3 (
 opt (addOff v2 3) fun v4 =>
 opt (store1 v4 t1 H2) fun H3 =>
 F.f23_j2 E Q t0 t1 t2 t3 t4 t13 v2 H3) (
 F.f23_j2 E Q t0 t1 t2 t3 t4 t13 v2 H2)
def F.f23_l1 (E : Sy) (Q : Value → AH → Prop) (t0 t1 t2 t3 t4 t13 : Value) (H : AH) (X0 : List Value → AH → Prop) : Prop :=
 opt (nilCk t0) fun v1 =>
 opt (addOff v1 0) fun v2 =>
 opt (load1 v2 H) fun v3 =>
 opt (lenSlc v3) fun v4 =>
 opt (binInt .lss t13 v4) fun v5 =>
 gd v5 true (fun k => k t0 H) H fun v6 H1 =>
 gd v5 true (fun k => opt (nilCk v6) fun v => k v H1) H1 fun v7 H2 =>
 gd v5 true (fun k => opt (addOff v7 0) fun v => k v H2) H2 fun v8 H3 =>
 gd v5 true (fun k => opt (load1 v8 H3) fun v => k v H3) H3 fun v9 H4 =>
 gd v5 true (fun k => k t13 H4) H4 fun v10 H5 =>
 gd v5 true (fun k => opt (ixSlc 7 v9 v10) fun v => k v H5) H5 fun v11 H6 =>
 gd v5 true (fun k => opt (addOff v11 0) fun v => k v H6) H6 fun v12 H7 =>
 gd v5 true (fun k => opt (load1 v12 H7) fun v => k v H7) H7 fun v13 H8 =>
 gd v5 true (fun k => opt (binInt .gtr v13 (.int .i64 0)) fun v => k v H8) H8 fun v14 H9 =>
 opt (pick v5 v14 (.bool false)) fun v15 =>
 ifB v15 (
 opt (binInt .add t13 (.int .i64 1)) fun v16 =>
 X0 [t0, t1, t2, t3, t4, v16] H9) (
 opt (nilCk t0) fun v17 =>
 opt (addOff v17 0) fun v18 =>
 opt (load1 v18 H9) fun v19 =>
 opt (lenSlc v19) fun v20 =>
 opt (binInt .eql t13 v20) fun v21 =>
 ifB v21 (
 opt (nilCk t0) fun v22 =>
 opt (addOff v22 0) fun v23 =>
 opt (load1 v23 H9) fun v24 =>
 opt (buildV [(0, 1), (1, 1), (2, 1), (3, 1), (4, 1), (5, 1), (6, 1)] #[(.int .i64 0), (.slice none 0 0), (.slice none 0 0), (.int .i64 0), (.string ⟨#[]⟩), (.int .i64 0), (.int .i64 0)] []) fun v25 =>
 mk (buildS 1 7 #[(.int .i64 0), (.slice none 0 0), (.slice none 0 0), (.int .i64 0), (.string ⟨#[]⟩), (.int .i64 0), (.int .i64 0)] [(0, v25)]) H9 fun v26 H10 =>
 opt2 (app 7 96 v24 v26 H10) fun v27 H11 =>
 opt (nilCk t0) fun v28 =>
 opt (addOff v28 0) fun v29 =>
 opt (store1 v29 v27 H11) fun H12 =>
 F.f23_j1 E Q t0 t1 t2 t3 t4 t13 H12) (
 F.f23_j1 E Q t0 t1 t2 t3 t4 t13 H9))
/-- (*pinfold/pinfoldref16.Tree).Make -/
def F.f23 (E : Sy) (x0 x1 x2 x3 x4 : Value) (H : AH) (Q : Value → AH → Prop) : Prop :=
 E.call (E.fid i.f27) [x0, x1, x2] H fun v1 H1 =>
 opt (binInt .neq v1 (.int .i64 0)) fun v2 =>
 ifB v2 (
 Q (.tuple #[(.int .i64 0), v1]) H1) (
 opt (binInt .lss x3 (.int .i64 1)) fun v3 =>
 gd v3 false (fun k => k x3 H1) H1 fun v4 H2 =>
 gd v3 false (fun k => opt (binInt .gtr v4 (.int .i64 3)) fun v => k v H2) H2 fun v5 H3 =>
 opt (pick v3 (.bool true) v5) fun v6 =>
 gd v6 false (fun k => k x3 H3) H3 fun v7 H4 =>
 gd v6 false (fun k => opt (binInt .eql v7 (.int .i64 3)) fun v => k v H4) H4 fun v8 H5 =>
 gd v6 false (fun k => k v8 H5) H5 fun v9 H6 =>
 gd v9 true (fun k => k x4 H6) H6 fun v10 H7 =>
 gd v9 true (fun k => opt (lenStr v10) fun v => k v H7) H7 fun v11 H8 =>
 gd v9 true (fun k => opt (binInt .lss v11 (.int .i64 1)) fun v => k v H8) H8 fun v12 H9 =>
 gd v9 true (fun k => k v12 H9) H9 fun v13 H10 =>
 gd v13 false (fun k => k x4 H10) H10 fun v14 H11 =>
 gd v13 false (fun k => opt (lenStr v14) fun v => k v H11) H11 fun v15 H12 =>
 gd v13 false (fun k => opt (binInt .gtr v15 (.int .i64 120)) fun v => k v H12) H12 fun v16 H13 =>
 gd v9 true (fun k => opt (pick v13 (.bool true) v16) fun v => k v H13) H13 fun v17 H14 =>
 gd v6 false (fun k => opt (pick v9 v17 (.bool false)) fun v => k v H14) H14 fun v18 H15 =>
 opt (pick v6 (.bool true) v18) fun v19 =>
 ifB v19 (
 Q (.tuple #[(.int .i64 0), (.int .i64 22)]) H15) (
 opt (nilCk x0) fun v20 =>
 opt (addOff v20 1) fun v21 =>
 opt (load1 v21 H15) fun v22 =>
 E.call (E.fid i.f22) [x0] H15 fun v23 H16 =>
 load1 v21 H16 = load1 v21 H15 ∧
 opt (binInt .geq v23 v22) fun v24 =>
 gd v24 false (fun k => k x3 H16) H16 fun v25 H17 =>
 gd v24 false (fun k => opt (binInt .eql v25 (.int .i64 2)) fun v => k v H17) H17 fun v26 H18 =>
 gd v24 false (fun k => k v26 H18) H18 fun v27 H19 =>
 gd v27 true (fun k => k x0 H19) H19 fun v28 H20 =>
 gd v27 true (fun k => k x1 H20) H20 fun v29 H21 =>
 gd v27 true (fun k => E.call (E.fid i.f25) [v28, v29] H21 fun v h => k v h) H21 fun v30 H22 =>
 gd v27 true (fun k => opt (binInt .geq v30 (.int .i64 16)) fun v => k v H22) H22 fun v31 H23 =>
 gd v24 false (fun k => opt (pick v27 v31 (.bool false)) fun v => k v H23) H23 fun v32 H24 =>
 opt (pick v24 (.bool true) v32) fun v33 =>
 ifB v33 (
 Q (.tuple #[(.int .i64 0), (.int .i64 28)]) H24) (
 LoopL (fun l H X0 => F.f23_l1 E Q (nth l 0) (nth l 1) (nth l 2) (nth l 3) (nth l 4) (nth l 5) H X0) [x0, x1, x2, x3, x4, (.int .i64 1)] H24)))

def F.f7_l1 (E : Sy) (Q : Value → AH → Prop) (t8 t23 : Value) (H : AH) (X0 : List Value → AH → Prop) : Prop :=
 nextM t23 H fun v1 H1 =>
 opt (ext v1 0) fun v2 =>
 ifB v2 (
 opt (entryR t23 H1) fun v3 =>
 opt (ext v3 0) fun v4 =>
 mk (buildS 1 1 #[(.string ⟨#[]⟩)] [(0, v4)]) H1 fun v5 H2 =>
 opt2 (app 1 16 t8 v5 H2) fun v6 H3 =>
 X0 [v6, t23] H3) (
 E.call (E.fid i.f30) [t8] H1 fun v7 H4 =>
 Q (.tuple #[t8, (.int .i64 0)]) H4)
/-- (*pinfold/inode.Table).Entries -/
def F.f7 (E : Sy) (x0 x1 : Value) (H : AH) (Q : Value → AH → Prop) : Prop :=
 E.call (E.fid i.f12) [x0, x1] H fun v1 H1 =>
 opt (ext v1 0) fun v2 =>
 opt (ext v1 1) fun v3 =>
 opt (binInt .neq v3 (.int .i64 0)) fun v4 =>
 ifB v4 (
 Q (.tuple #[(.slice none 0 0), v3]) H1) (
 opt (nilCk v2) fun v5 =>
 opt (addOff v5 3) fun v6 =>
 opt (load1 v6 H1) fun v7 =>
 mk (rangeM v7 H1) H1 fun v8 H2 =>
 LoopL (fun l H X0 => F.f7_l1 E Q (nth l 0) (nth l 1) H X0) [(.slice none 0 0), v8] H2)

/-- pinfold/inode.Name -/
def F.f2 (E : Sy) (x0 : Value) (H : AH) (Q : Value → AH → Prop) : Prop :=
 opt (lenStr x0) fun v1 =>
 opt (binInt .lss v1 (.int .i64 1)) fun v2 =>
 gd v2 false (fun k => k x0 H) H fun v3 H1 =>
 gd v2 false (fun k => opt (lenStr v3) fun v => k v H1) H1 fun v4 H2 =>
 gd v2 false (fun k => opt (binInt .gtr v4 (.int .i64 14)) fun v => k v H2) H2 fun v5 H3 =>
 opt (pick v2 (.bool true) v5) fun v6 =>
 gd v6 false (fun k => k x0 H3) H3 fun v7 H4 =>
 gd v6 false (fun k => opt (binStr .eql v7 (.string ⟨#[46]⟩)) fun v => k v H4) H4 fun v8 H5 =>
 opt (pick v6 (.bool true) v8) fun v9 =>
 gd v9 false (fun k => k x0 H5) H5 fun v10 H6 =>
 gd v9 false (fun k => opt (binStr .eql v10 (.string ⟨#[46, 46]⟩)) fun v => k v H6) H6 fun v11 H7 =>
 opt (pick v9 (.bool true) v11) fun v12 =>
 ifB v12 (
 Q (.bool false) H7) (
 E.call (E.fid i.f46) [x0, (.func (.func (E.fid i.f3)) #[] #[])] H7 fun v13 H8 =>
 opt (binInt .lss v13 (.int .i64 0)) fun v14 =>
 Q v14 H8)

def F.f20_l1 (E : Sy) (Q : Value → AH → Prop) (t0 t3 : Value) (H : AH) (X0 : List Value → AH → Prop) : Prop :=
 opt (lenStr t0) fun v1 =>
 opt (binInt .lss t3 v1) fun v2 =>
 ifB v2 (
 opt (ixStr t0 t3) fun v3 =>
 opt (binInt .lss v3 (.int .u8 33)) fun v4 =>
 gd v4 false (fun k => k t0 H) H fun v5 H1 =>
 gd v4 false (fun k => k t3 H1) H1 fun v6 H2 =>
 gd v4 false (fun k => opt (ixStr v5 v6) fun v => k v H2) H2 fun v7 H3 =>
 gd v4 false (fun k => opt (binInt .gtr v7 (.int .u8 126)) fun v => k v H3) H3 fun v8 H4 =>
 opt (pick v4 (.bool true) v8) fun v9 =>
 gd v9 false (fun k => k t0 H4) H4 fun v10 H5 =>
 gd v9 false (fun k => k t3 H5) H5 fun v11 H6 =>
 gd v9 false (fun k => opt (ixStr v10 v11) fun v => k v H6) H6 fun v12 H7 =>
 gd v9 false (fun k => opt (binInt .eql v12 (.int .u8 47)) fun v => k v H7) H7 fun v13 H8 =>
 opt (pick v9 (.bool true) v13) fun v14 =>
 gd v14 false (fun k => k t0 H8) H8 fun v15 H9 =>
 gd v14 false (fun k => k t3 H9) H9 fun v16 H10 =>
 gd v14 false (fun k => opt (ixStr v15 v16) fun v => k v H10) H10 fun v17 H11 =>
 gd v14 false (fun k => opt (binInt .eql v17 (.int .u8 35)) fun v => k v H11) H11 fun v18 H12 =>
 opt (pick v14 (.bool true) v18) fun v19 =>
 ifB v19 (
 Q (.bool false) H12) (
 opt (binInt .add t3 (.int .i64 1)) fun v20 =>
 X0 [t0, v20] H12)) (
 opt (lenStr t0) fun v21 =>
 opt (binInt .geq v21 (.int .i64 1)) fun v22 =>
 gd v22 true (fun k => k t0 H) H fun v23 H13 =>
 gd v22 true (fun k => opt (lenStr v23) fun v => k v H13) H13 fun v24 H14 =>
 gd v22 true (fun k => opt (binInt .leq v24 (.int .i64 14)) fun v => k v H14) H14 fun v25 H15 =>
 opt (pick v22 v25 (.bool false)) fun v26 =>
 gd v26 true (fun k => k t0 H15) H15 fun v27 H16 =>
 gd v26 true (fun k => opt (binStr .neq v27 (.string ⟨#[46]⟩)) fun v => k v H16) H16 fun v28 H17 =>
 opt (pick v26 v28 (.bool false)) fun v29 =>
 gd v29 true (fun k => k t0 H17) H17 fun v30 H18 =>
 gd v29 true (fun k => opt (binStr .neq v30 (.string ⟨#[46, 46]⟩)) fun v => k v H18) H18 fun v31 H19 =>
 opt (pick v29 v31 (.bool false)) fun v32 =>
 Q v32 H19)
/-- pinfold/pinfoldref16.Name -/
def F.f20 (E : Sy) (x0 : Value) (H : AH) (Q : Value → AH → Prop) : Prop :=
 LoopL (fun l H X0 => F.f20_l1 E Q (nth l 0) (nth l 1) H X0) [x0, (.int .i64 0)] H

/-- (*pinfold/inode.Table).Add -/
def F.f5 (E : Sy) (x0 x1 x2 x3 : Value) (H : AH) (Q : Value → AH → Prop) : Prop :=
 E.call (E.fid i.f8) [x0, x3] H fun v1 H1 =>
 E.call (E.fid i.f13) [x0, x1, x2] H1 fun v2 H2 =>
 opt (ext v2 0) fun v3 =>
 opt (ext v2 1) fun v4 =>
 opt (binNil eqPtr .eql v1 (.pointer none)) fun v5 =>
 ifB v5 (
 Q (.int .i64 2) H2) (
 opt (nilCk v1) fun v6 =>
 opt (addOff v6 1) fun v7 =>
 opt (load1 v7 H2) fun v8 =>
 opt (binInt .eql v8 (.int .u8 2)) fun v9 =>
 ifB v9 (
 Q (.int .i64 1) H2) (
 opt (binInt .neq v4 (.int .i64 0)) fun v10 =>
 ifB v10 (
 Q v4 H2) (
 opt (nilCk v1) fun v11 =>
 opt (addOff v11 6) fun v12 =>
 opt (load1 v12 H2) fun v13 =>
 opt (binInt .eql v13 (.int .i64 0)) fun v14 =>
 ifB v14 (
 Q (.int .i64 2) H2) (
 opt (nilCk v1) fun v15 =>
 opt (addOff v15 6) fun v16 =>
 opt (load1 v16 H2) fun v17 =>
 opt (binInt .geq v17 (.int .i64 256)) fun v18 =>
 ifB v18 (
 Q (.int .i64 31) H2) (
 opt (nilCk v3) fun v19 =>
 opt (addOff v19 3) fun v20 =>
 opt (load1 v20 H2) fun v21 =>
 opt (setMap 1 v21 x2 x3 H2) fun H3 =>
 opt (nilCk v1) fun v22 =>
 opt (addOff v22 6) fun v23 =>
 opt (load1 v23 H3) fun v24 =>
 opt (binInt .add v24 (.int .i64 1)) fun v25 =>
 opt (nilCk v1) fun v26 =>
 opt (addOff v26 6) fun v27 =>
 opt (store1 v27 v25 H3) fun H4 =>
 opt (nilCk x0) fun v28 =>
 opt (addOff v28 2) fun v29 =>
 E.call (E.fid i.f49) [v29, (.int .i64 1)] H4 fun v30 H5 =>
 Q (.int .i64 0) H5)))))

/-- (*pinfold/inode.Table).Drop -/
def F.f6 (E : Sy) (x0 x1 x2 x3 : Value) (H : AH) (Q : Value → AH → Prop) : Prop :=
 E.call (E.fid i.f9) [x0, x1, x2] H fun v1 H1 =>
 opt (ext v1 0) fun v2 =>
 opt (ext v1 1) fun v3 =>
 opt (binInt .neq v3 (.int .i64 0)) fun v4 =>
 ifB v4 (
 Q v3 H1) (
 opt (nilCk x0) fun v5 =>
 opt (addOff v5 0) fun v6 =>
 opt (load1 v6 H1) fun v7 =>
 opt (look 0 (.pointer none) false v7 v2 H1) fun v8 =>
 gd x3 true (fun k => k v8 H1) H1 fun v9 H2 =>
 gd x3 true (fun k => opt (nilCk v9) fun v => k v H2) H2 fun v10 H3 =>
 gd x3 true (fun k => opt (addOff v10 1) fun v => k v H3) H3 fun v11 H4 =>
 gd x3 true (fun k => opt (load1 v11 H4) fun v => k v H4) H4 fun v12 H5 =>
 gd x3 true (fun k => opt (binInt .neq v12 (.int .u8 2)) fun v => k v H5) H5 fun v13 H6 =>
 opt (pick x3 v13 (.bool false)) fun v14 =>
 ifB v14 (
 Q (.int .i64 20) H6) (
 opt (un .not x3) fun v15 =>
 gd v15 true (fun k => k v8 H6) H6 fun v16 H7 =>
 gd v15 true (fun k => opt (nilCk v16) fun v => k v H7) H7 fun v17 H8 =>
 gd v15 true (fun k => opt (addOff v17 1) fun v => k v H8) H8 fun v18 H9 =>
 gd v15 true (fun k => opt (load1 v18 H9) fun v => k v H9) H9 fun v19 H10 =>
 gd v15 true (fun k => opt (binInt .eql v19 (.int .u8 2)) fun v => k v H10) H10 fun v20 H11 =>
 opt (pick v15 v20 (.bool false)) fun v21 =>
 ifB v21 (
 Q (.int .i64 21) H11) (
 gd x3 true (fun k => k v8 H11) H11 fun v22 H12 =>
 gd x3 true (fun k => opt (nilCk v22) fun v => k v H12) H12 fun v23 H13 =>
 gd x3 true (fun k => opt (addOff v23 3) fun v => k v H13) H13 fun v24 H14 =>
 gd x3 true (fun k => opt (load1 v24 H14) fun v => k v H14) H14 fun v25 H15 =>
 gd x3 true (fun k => opt (lenMap v25 H15) fun v => k v H15) H15 fun v26 H16 =>
 gd x3 true (fun k => opt (binInt .gtr v26 (.int .i64 0)) fun v => k v H16) H16 fun v27 H17 =>
 opt (pick x3 v27 (.bool false)) fun v28 =>
 ifB v28 (
 Q (.int .i64 39) H17) (
 opt (nilCk x0) fun v29 =>
 opt (addOff v29 0) fun v30 =>
 opt (load1 v30 H17) fun v31 =>
 opt (look 0 (.pointer none) false v31 x1 H17) fun v32 =>
 opt (nilCk v32) fun v33 =>
 opt (addOff v33 3) fun v34 =>
 opt (load1 v34 H17) fun v35 =>
 opt (delMap 1 v35 x2 H17) fun H18 =>
 opt (nilCk v8) fun v36 =>
 opt (addOff v36 6) fun v37 =>
 opt (load1 v37 H18) fun v38 =>
 opt (binInt .sub v38 (.int .i64 1)) fun v39 =>
 opt (nilCk v8) fun v40 =>
 opt (addOff v40 6) fun v41 =>
 opt (store1 v41 v39 H18) fun H19 =>
 opt (nilCk x0) fun v42 =>
 opt (addOff v42 2) fun v43 =>
 E.call (E.fid i.f49) [v43, (.int .i64 1)] H19 fun v44 H20 =>
 E.call (E.fid i.f14) [x0, v2] H20 fun v45 H21 =>
 Q (.int .i64 0) H21))))

/-- (*pinfold/inode.Table).Get -/
def F.f8 (E : Sy) (x0 x1 : Value) (H : AH) (Q : Value → AH → Prop) : Prop :=
 opt (binNil eqPtr .eql x0 (.pointer none)) fun v1 =>
 ifB v1 (
 Q (.pointer none) H) (
 opt (nilCk x0) fun v2 =>
 opt (addOff v2 0) fun v3 =>
 opt (load1 v3 H) fun v4 =>
 opt (look 0 (.pointer none) false v4 x1 H) fun v5 =>
 Q v5 H)

/-- (*pinfold/inode.Table).room -/
def F.f13 (E : Sy) (x0 x1 x2 : Value) (H : AH) (Q : Value → AH → Prop) : Prop :=
 E.call (E.fid i.f12) [x0, x1] H fun v1 H1 =>
 opt (ext v1 0) fun v2 =>
 opt (ext v1 1) fun v3 =>
 opt (binInt .neq v3 (.int .i64 0)) fun v4 =>
 ifB v4 (
 Q (.tuple #[(.pointer none), v3]) H1) (
 E.call (E.fid i.f2) [x2] H1 fun v5 H2 =>
 opt (un .not v5) fun v6 =>
 ifB v6 (
 Q (.tuple #[(.pointer none), (.int .i64 22)]) H2) (
 opt (nilCk v2) fun v7 =>
 opt (addOff v7 3) fun v8 =>
 opt (load1 v8 H2) fun v9 =>
 opt (look 1 (.int .u16 0) true v9 x2 H2) fun v10 =>
 opt (ext v10 0) fun v11 =>
 opt (ext v10 1) fun v12 =>
 ifB v12 (
 Q (.tuple #[(.pointer none), (.int .i64 17)]) H2) (
 opt (nilCk v2) fun v13 =>
 opt (addOff v13 6) fun v14 =>
 opt (load1 v14 H2) fun v15 =>
 opt (binInt .eql v15 (.int .i64 0)) fun v16 =>
 ifB v16 (
 Q (.tuple #[(.pointer none), (.int .i64 2)]) H2) (
 opt (nilCk v2) fun v17 =>
 opt (addOff v17 3) fun v18 =>
 opt (load1 v18 H2) fun v19 =>
 opt (lenMap v19 H2) fun v20 =>
 opt (binInt .geq v20 (.int .i64 32)) fun v21 =>
 ifB v21 (
 Q (.tuple #[(.pointer none), (.int .i64 28)]) H2) (
 Q (.tuple #[v2, (.int .i64 0)]) H2)))))

def F.f11_l1 (E : Sy) (Q : Value → AH → Prop) (t0 t1 t5 : Value) (H : AH) (X0 : List Value → AH → Prop) : Prop :=
 opt (binInt .neq t1 (.int .u16 1)) fun v1 =>
 gd v1 true (fun k => k t5 H) H fun v2 H1 =>
 gd v1 true (fun k => opt (binInt .leq v2 (.int .i64 16)) fun v => k v H1) H1 fun v3 H2 =>
 opt (pick v1 v3 (.bool false)) fun v4 =>
 ifB v4 (
 opt (nilCk t0) fun v5 =>
 opt (addOff v5 0) fun v6 =>
 opt (load1 v6 H2) fun v7 =>
 opt (look 0 (.pointer none) false v7 t1 H2) fun v8 =>
 opt (nilCk v8) fun v9 =>
 opt (addOff v9 4) fun v10 =>
 opt (load1 v10 H2) fun v11 =>
 opt (binInt .add t5 (.int .i64 1)) fun v12 =>
 X0 [t0, v11, v12] H2) (
 Q t5 H2)
/-- (*pinfold/inode.Table).depth -/
def F.f11 (E : Sy) (x0 x1 : Value) (H : AH) (Q : Value → AH → Prop) : Prop :=
 LoopL (fun l H X0 => F.f11_l1 E Q (nth l 0) (nth l 1) (nth l 2) H X0) [x0, x1, (.int .i64 0)] H

/-- (*sync/atomic.Int64).Add -/
def F.f49 (E : Sy) (x0 x1 : Value) (H : AH) (Q : Value → AH → Prop) : Prop :=
 opt (nilCk x0) fun v1 =>
 opt (addOff v1 0) fun v2 =>
 E.call (E.fid i.f48) [v2, x1] H fun v3 H1 =>
 Q v3 H1

/-- (*pinfold/pinfoldref16.Tree).room -/
def F.f27 (E : Sy) (x0 x1 x2 : Value) (H : AH) (Q : Value → AH → Prop) : Prop :=
 E.call (E.fid i.f26) [x0, x1] H fun v1 H1 =>
 opt (binInt .neq v1 (.int .i64 0)) fun v2 =>
 ifB v2 (
 Q v1 H1) (
 E.call (E.fid i.f24) [x0, x1] H1 fun v3 H2 =>
 E.call (E.fid i.f20) [x2] H2 fun v4 H3 =>
 opt (un .not v4) fun v5 =>
 ifB v5 (
 Q (.int .i64 22) H3) (
 E.call (E.fid i.f28) [v3, x2] H3 fun v6 H4 =>
 opt (binInt .geq v6 (.int .i64 0)) fun v7 =>
 ifB v7 (
 Q (.int .i64 17) H4) (
 opt (nilCk v3) fun v8 =>
 opt (addOff v8 5) fun v9 =>
 opt (load1 v9 H4) fun v10 =>
 opt (binInt .eql v10 (.int .i64 0)) fun v11 =>
 ifB v11 (
 Q (.int .i64 2) H4) (
 opt (nilCk v3) fun v12 =>
 opt (addOff v12 2) fun v13 =>
 opt (load1 v13 H4) fun v14 =>
 opt (lenSlc v14) fun v15 =>
 opt (binInt .geq v15 (.int .i64 32)) fun v16 =>
 ifB v16 (
 Q (.int .i64 28) H4) (
 Q (.int .i64 0) H4)))))

def F.f22_l1 (E : Sy) (Q : Value → AH → Prop) (t0 t3 t4 : Value) (H : AH) (X0 : List Value → AH → Prop) : Prop :=
 opt (nilCk t0) fun v1 =>
 opt (addOff v1 0) fun v2 =>
 opt (load1 v2 H) fun v3 =>
 opt (lenSlc v3) fun v4 =>
 opt (binInt .lss t4 v4) fun v5 =>
 ifB v5 (
 opt (nilCk t0) fun v6 =>
 opt (addOff v6 0) fun v7 =>
 opt (load1 v7 H) fun v8 =>
 opt (ixSlc 7 v8 t4) fun v9 =>
 opt (addOff v9 0) fun v10 =>
 opt (load1 v10 H) fun v11 =>
 opt (binInt .gtr v11 (.int .i64 0)) fun v12 =>
 ifB v12 (
 opt (binInt .add t3 (.int .i64 1)) fun v13 =>
 opt (binInt .add t4 (.int .i64 1)) fun v14 =>
 X0 [t0, v13, v14] H) (
 opt (binInt .add t4 (.int .i64 1)) fun v15 =>
 X0 [t0, t3, v15] H)) (
 Q t3 H)
/-- (*pinfold/pinfoldref16.Tree).Len -/
def F.f22 (E : Sy) (x0 : Value) (H : AH) (Q : Value → AH → Prop) : Prop :=
 LoopL (fun l H X0 => F.f22_l1 E Q (nth l 0) (nth l 1) (nth l 2) H X0) [x0, (.int .i64 0), (.int .i64 0)] H

def F.f25_l1 (E : Sy) (Q : Value → AH → Prop) (t0 t1 t5 : Value) (H : AH) (X0 : List Value → AH → Prop) : Prop :=
 opt (binInt .neq t1 (.int .i64 1)) fun v1 =>
 gd v1 true (fun k => k t5 H) H fun v2 H1 =>
 gd v1 true (fun k => opt (binInt .lss v2 (.int .i64 20)) fun v => k v H1) H1 fun v3 H2 =>
 opt (pick v1 v3 (.bool false)) fun v4 =>
 ifB v4 (
 E.call (E.fid i.f24) [t0, t1] H2 fun v5 H3 =>
 opt (nilCk v5) fun v6 =>
 opt (addOff v6 3) fun v7 =>
 opt (load1 v7 H3) fun v8 =>
 opt (binInt .add t5 (.int .i64 1)) fun v9 =>
 X0 [t0, v8, v9] H3) (
 Q t5 H2)
/-- (*pinfold/pinfoldref16.Tree).deep -/
def F.f25 (E : Sy) (x0 x1 : Value) (H : AH) (Q : Value → AH → Prop) : Prop :=
 LoopL (fun l H X0 => F.f25_l1 E Q (nth l 0) (nth l 1) (nth l 2) H X0) [x0, x1, (.int .i64 0)] H

def F.f29_l1 (E : Sy) (Q : Value → AH → Prop) (t0 t3 t5 : Value) (H : AH) (X0 : List Value → AH → Prop) : Prop :=
 opt (lenSlc t0) fun v1 =>
 opt (binInt .lss t5 v1) fun v2 =>
 gd v2 true (fun k => k t0 H) H fun v3 H1 =>
 gd v2 true (fun k => k t5 H1) H1 fun v4 H2 =>
 gd v2 true (fun k => opt (ixSlc 2 v3 v4) fun v => k v H2) H2 fun v5 H3 =>
 gd v2 true (fun k => opt (addOff v5 0) fun v => k v H3) H3 fun v6 H4 =>
 gd v2 true (fun k => opt (load1 v6 H4) fun v => k v H4) H4 fun v7 H5 =>
 gd v2 true (fun k => opt (addOff t3 0) fun v => k v H5) H5 fun v8 H6 =>
 gd v2 true (fun k => opt (load1 v8 H6) fun v => k v H6) H6 fun v9 H7 =>
 gd v2 true (fun k => opt (binStr .lss v7 v9) fun v => k v H7) H7 fun v10 H8 =>
 opt (pick v2 v10 (.bool false)) fun v11 =>
 ifB v11 (
 opt (binInt .add t5 (.int .i64 1)) fun v12 =>
 X0 [t0, t3, v12] H8) (
 mk (buildS 0 2 #[(.string ⟨#[]⟩), (.int .i64 0)] []) H8 fun v13 H9 =>
 opt (slSlc 2 t0 none (some t5) none H9) fun v14 =>
 opt (loadN 2 t3 H9) fun v15 =>
 mk (buildS 1 2 #[(.string ⟨#[]⟩), (.int .i64 0)] [(0, v15)]) H9 fun v16 H10 =>
 opt (slSlc 2 t0 (some t5) none none H10) fun v17 =>
 opt2 (app 2 24 v13 v14 H10) fun v18 H11 =>
 slSlc 2 t0 (some t5) none none H11 = slSlc 2 t0 (some t5) none none H10 ∧
 H11.get H9.next = H10.get H9.next ∧
 loadN 2 t3 H11 = loadN 2 t3 H9 ∧
 opt2 (app 2 24 v18 v16 H11) fun v19 H12 =>
 slSlc 2 t0 (some t5) none none H12 = slSlc 2 t0 (some t5) none none H10 ∧
 opt2 (app 2 24 v19 v17 H12) fun v20 H13 =>
 Q v20 H13)
/-- pinfold/pinfoldref16.insert -/
def F.f29 (E : Sy) (x0 x1 : Value) (H : AH) (Q : Value → AH → Prop) : Prop :=
 mk (boxO x1) H fun v1 H1 =>
 LoopL (fun l H X0 => F.f29_l1 E Q (nth l 0) (nth l 1) (nth l 2) H X0) [x0, v1, (.int .i64 0)] H1

/-- (*pinfold/inode.Table).dir -/
def F.f12 (E : Sy) (x0 x1 : Value) (H : AH) (Q : Value → AH → Prop) : Prop :=
 E.call (E.fid i.f8) [x0, x1] H fun v1 H1 =>
 opt (binNil eqPtr .eql v1 (.pointer none)) fun v2 =>
 ifB v2 (
 Q (.tuple #[(.pointer none), (.int .i64 2)]) H1) (
 opt (nilCk v1) fun v3 =>
 opt (addOff v3 1) fun v4 =>
 opt (load1 v4 H1) fun v5 =>
 opt (binInt .neq v5 (.int .u8 2)) fun v6 =>
 ifB v6 (
 Q (.tuple #[(.pointer none), (.int .i64 20)]) H1) (
 Q (.tuple #[v1, (.int .i64 0)]) H1))

/-- slices.Sort[[]string,string] -/
def F.f30 (E : Sy) (x0 : Value) (H : AH) (Q : Value → AH → Prop) : Prop :=
 opt (lenSlc x0) fun v1 =>
 opt (convInt .u64 v1) fun v2 =>
 E.call (E.fid i.f15) [v2] H fun v3 H1 =>
 E.call (E.fid i.f42) [x0, (.int .i64 0), v1, v3] H1 fun v4 H2 =>
 Q (.tuple #[]) H2

/-- strings.IndexFunc -/
def F.f46 (E : Sy) (x0 x1 : Value) (H : AH) (Q : Value → AH → Prop) : Prop :=
 E.call (E.fid i.f47) [x0, x1, (.bool true)] H fun v1 H1 =>
 Q v1 H1

/-- pinfold/inode.Name$1 -/
def F.f3 (E : Sy) (x0 : Value) (H : AH) (Q : Value → AH → Prop) : Prop :=
 opt (binInt .lss x0 (.int .i32 33)) fun v1 =>
 gd v1 false (fun k => k x0 H) H fun v2 H1 =>
 gd v1 false (fun k => opt (binInt .gtr v2 (.int .i32 126)) fun v => k v H1) H1 fun v3 H2 =>
 opt (pick v1 (.bool true) v3) fun v4 =>
 gd v4 false (fun k => k x0 H2) H2 fun v5 H3 =>
 gd v4 false (fun k => opt (binInt .eql v5 (.int .i32 47)) fun v => k v H3) H3 fun v6 H4 =>
 opt (pick v4 (.bool true) v6) fun v7 =>
 gd v7 false (fun k => k x0 H4) H4 fun v8 H5 =>
 gd v7 false (fun k => opt (binInt .eql v8 (.int .i32 35)) fun v => k v H5) H5 fun v9 H6 =>
 opt (pick v7 (.bool true) v9) fun v10 =>
 Q v10 H6

/-- (*pinfold/inode.Table).Look -/
def F.f9 (E : Sy) (x0 x1 x2 : Value) (H : AH) (Q : Value → AH → Prop) : Prop :=
 E.call (E.fid i.f12) [x0, x1] H fun v1 H1 =>
 opt (ext v1 0) fun v2 =>
 opt (ext v1 1) fun v3 =>
 opt (binInt .neq v3 (.int .i64 0)) fun v4 =>
 ifB v4 (
 Q (.tuple #[(.int .u16 0), v3]) H1) (
 opt (nilCk v2) fun v5 =>
 opt (addOff v5 3) fun v6 =>
 opt (load1 v6 H1) fun v7 =>
 opt (look 1 (.int .u16 0) true v7 x2 H1) fun v8 =>
 opt (ext v8 0) fun v9 =>
 opt (ext v8 1) fun v10 =>
 opt (un .not v10) fun v11 =>
 ifB v11 (
 Q (.tuple #[(.int .u16 0), (.int .i64 2)]) H1) (
 Q (.tuple #[v9, (.int .i64 0)]) H1))

/-- (*pinfold/inode.Table).tidy -/
def F.f14 (E : Sy) (x0 x1 : Value) (H : AH) (Q : Value → AH → Prop) : Prop :=
 opt (nilCk x0) fun v1 =>
 opt (addOff v1 0) fun v2 =>
 opt (load1 v2 H) fun v3 =>
 opt (look 0 (.pointer none) false v3 x1 H) fun v4 =>
 opt (binNil eqPtr .neq v4 (.pointer none)) fun v5 =>
 gd v5 true (fun k => k v4 H) H fun v6 H1 =>
 gd v5 true (fun k => opt (nilCk v6) fun v => k v H1) H1 fun v7 H2 =>
 gd v5 true (fun k => opt (addOff v7 6) fun v => k v H2) H2 fun v8 H3 =>
 gd v5 true (fun k => opt (load1 v8 H3) fun v => k v H3) H3 fun v9 H4 =>
 gd v5 true (fun k => opt (binInt .eql v9 (.int .i64 0)) fun v => k v H4) H4 fun v10 H5 =>
 opt (pick v5 v10 (.bool false)) fun v11 =>
 gd v11 true (fun k => k v4 H5) H5 fun v12 H6 =>
 gd v11 true (fun k => opt (nilCk v12) fun v => k v H6) H6 fun v13 H7 =>
 gd v11 true (fun k => opt (addOff v13 7) fun v => k v H7) H7 fun v14 H8 =>
 gd v11 true (fun k => opt (load1 v14 H8) fun v => k v H8) H8 fun v15 H9 =>
 gd v11 true (fun k => opt (binInt .eql v15 (.int .i64 0)) fun v => k v H9) H9 fun v16 H10 =>
 opt (pick v11 v16 (.bool false)) fun v17 =>
 ifB v17 (
 opt (nilCk x0) fun v18 =>
 opt (addOff v18 0) fun v19 =>
 opt (load1 v19 H10) fun v20 =>
 opt (delMap 0 v20 x1 H10) fun H11 =>
 Q (.tuple #[]) H11) (
 Q (.tuple #[]) H10)

/-- (*pinfold/pinfoldref16.Tree).dir -/
def F.f26 (E : Sy) (x0 x1 : Value) (H : AH) (Q : Value → AH → Prop) : Prop :=
 E.call (E.fid i.f24) [x0, x1] H fun v1 H1 =>
 opt (nilCk v1) fun v2 =>
 opt (addOff v2 0) fun v3 =>
 opt (load1 v3 H1) fun v4 =>
 opt (binInt .eql v4 (.int .i64 0)) fun v5 =>
 ifB v5 (
 Q (.int .i64 2) H1) (
 opt (binInt .eql v4 (.int .i64 2)) fun v6 =>
 ifB v6 (
 Q (.int .i64 0) H1) (
 Q (.int .i64 20) H1))

/-- (*pinfold/pinfoldref16.Tree).Node -/
def F.f24 (E : Sy) (x0 x1 : Value) (H : AH) (Q : Value → AH → Prop) : Prop :=
 opt (binInt .lss x1 (.int .i64 0)) fun v1 =>
 gd v1 false (fun k => k x1 H) H fun v2 H1 =>
 gd v1 false (fun k => k x0 H1) H1 fun v3 H2 =>
 gd v1 false (fun k => opt (nilCk v3) fun v => k v H2) H2 fun v4 H3 =>
 gd v1 false (fun k => opt (addOff v4 0) fun v => k v H3) H3 fun v5 H4 =>
 gd v1 false (fun k => opt (load1 v5 H4) fun v => k v H4) H4 fun v6 H5 =>
 gd v1 false (fun k => opt (lenSlc v6) fun v => k v H5) H5 fun v7 H6 =>
 gd v1 false (fun k => opt (binInt .geq v2 v7) fun v => k v H6) H6 fun v8 H7 =>
 opt (pick v1 (.bool true) v8) fun v9 =>
 ifB v9 (
 opt (buildV [(0, 1), (1, 1), (2, 1), (3, 1), (4, 1), (5, 1), (6, 1)] #[(.int .i64 0), (.slice none 0 0), (.slice none 0 0), (.int .i64 0), (.string ⟨#[]⟩), (.int .i64 0), (.int .i64 0)] []) fun v10 =>
 mk (boxO v10) H7 fun v11 H8 =>
 Q v11 H8) (
 opt (nilCk x0) fun v12 =>
 opt (addOff v12 0) fun v13 =>
 opt (load1 v13 H7) fun v14 =>
 opt (ixSlc 7 v14 x1) fun v15 =>
 Q v15 H7)

def F.f28_l1 (E : Sy) (Q : Value → AH → Prop) (t0 t1 t5 : Value) (H : AH) (X0 : List Value → AH → Prop) : Prop :=
 opt (nilCk t0) fun v1 =>
 opt (addOff v1 2) fun v2 =>
 opt (load1 v2 H) fun v3 =>
 opt (lenSlc v3) fun v4 =>
 opt (binInt .lss t5 v4) fun v5 =>
 ifB v5 (
 opt (nilCk t0) fun v6 =>
 opt (addOff v6 2) fun v7 =>
 opt (load1 v7 H) fun v8 =>
 opt (ixSlc 2 v8 t5) fun v9 =>
 opt (addOff v9 0) fun v10 =>
 opt (load1 v10 H) fun v11 =>
 opt (binStr .eql v11 t1) fun v12 =>
 ifB v12 (
 Q t5 H) (
 opt (binInt .add t5 (.int .i64 1)) fun v13 =>
 X0 [t0, t1, v13] H)) (
 Q (.int .i64 (-1)) H)
/-- pinfold/pinfoldref16.at -/
def F.f28 (E : Sy) (x0 x1 : Value) (H : AH) (Q : Value → AH → Prop) : Prop :=
 LoopL (fun l H X0 => F.f28_l1 E Q (nth l 0) (nth l 1) (nth l 2) H X0) [x0, x1, (.int .i64 0)] H

/-- math/bits.Len -/
def F.f15 (E : Sy) (x0 : Value) (H : AH) (Q : Value → AH → Prop) : Prop :=
 ifB (.bool false) (
 opt (convInt .u32 x0) fun v1 =>
 E.call (E.fid i.f16) [v1] H fun v2 H1 =>
 Q v2 H1) (
 E.call (E.fid i.f17) [x0] H fun v3 H2 =>
 Q v3 H2)

def F.f42_j3 (E : Sy) (Q : Value → AH → Prop) (X0 : List Value → AH → Prop) (t0 t1 t2 t3 t8 t9 t10 t11 : Value) (H : AH) : Prop :=
 opt (binInt .gtr t1 (.int .i64 0)) fun v1 =>
 gd v1 true (fun k => k t0 H) H fun v2 H1 =>
 gd v1 true (fun k => k t1 H1) H1 fun v3 H2 =>
 gd v1 true (fun k => opt (binInt .sub v3 (.int .i64 1)) fun v => k v H2) H2 fun v4 H3 =>
 gd v1 true (fun k => opt (ixSlc 1 v2 v4) fun v => k v H3) H3 fun v5 H4 =>
 gd v1 true (fun k => opt (load1 v5 H4) fun v => k v H4) H4 fun v6 H5 =>
 gd v1 true (fun k => k t0 H5) H5 fun v7 H6 =>
 gd v1 true (fun k => k t11 H6) H6 fun v8 H7 =>
 gd v1 true (fun k => opt (ixSlc 1 v7 v8) fun v => k v H7) H7 fun v9 H8 =>
 gd v1 true (fun k => opt (load1 v9 H8) fun v => k v H8) H8 fun v10 H9 =>
 gd v1 true (fun k => E.call (E.fid i.f0) [v6, v10] H9 fun v h => k v h) H9 fun v11 H10 =>
 gd v1 true (fun k => opt (un .not v11) fun v => k v H10) H10 fun v12 H11 =>
 opt (pick v1 v12 (.bool false)) fun v13 =>
 ifB v13 (
 E.call (E.fid i.f40) [t0, t1, t2, t11] H11 fun v14 H12 =>
 X0 [t0, v14, t2, t3, t8, t9] H12) (
 E.call (E.fid i.f41) [t0, t1, t2, t11] H11 fun v15 H13 =>
 opt (ext v15 0) fun v16 =>
 opt (ext v15 1) fun v17 =>
 opt (binInt .sub v16 t1) fun v18 =>
 opt (binInt .sub t2 v16) fun v19 =>
 opt (binInt .quo t10 (.int .i64 8)) fun v20 =>
 opt (binInt .lss v18 v19) fun v21 =>
 ifB v21 (
 opt (binInt .geq v18 v20) fun v22 =>
 E.call (E.fid i.f42) [t0, t1, v16, t3] H13 fun v23 H14 =>
 opt (binInt .add v16 (.int .i64 1)) fun v24 =>
 X0 [t0, v24, t2, t3, v22, v17] H14) (
 opt (binInt .geq v19 v20) fun v25 =>
 opt (binInt .add v16 (.int .i64 1)) fun v26 =>
 E.call (E.fid i.f42) [t0, v26, t2, t3] H13 fun v27 H15 =>
 X0 [t0, t1, v16, t3, v25, v17] H15))
def F.f42_j2 (E : Sy) (Q : Value → AH → Prop) (X0 : List Value → AH → Prop) (t0 t1 t2 t3 t8 t9 t10 t11 t12 : Value) (H : AH) : Prop :=
 gd t8 true (fun k => k t9 H) H fun v1 H1 =>
 opt (pick t8 v1 (.bool false)) fun v2 =>
 gd v2 true (fun k => k t12 H1) H1 fun v3 H2 =>
 gd v2 true (fun k => opt (binInt .eql v3 (.int .i64 1)) fun v => k v H2) H2 fun v4 H3 =>
 opt (pick v2 v4 (.bool false)) fun v5 =>
 ifB v5 (
 E.call (E.fid i.f39) [t0, t1, t2] H3 fun v6 H4 =>
 ifB v6 (
 Q (.tuple #[]) H4) (
 F.f42_j3 E Q X0 t0 t1 t2 t3 t8 t9 t10 t11 H4)) (
 F.f42_j3 E Q X0 t0 t1 t2 t3 t8 t9 t10 t11 H3)
def F.f42_j1 (E : Sy) (Q : Value → AH → Prop) (X0 : List Value → AH → Prop) (t0 t1 t2 t3 t8 t9 t10 : Value) (H : AH) : Prop :=
 E.call (E.fid i.f32) [t0, t1, t2] H fun v1 H1 =>
 opt (ext v1 0) fun v2 =>
 opt (ext v1 1) fun v3 =>
 opt (binInt .eql v3 (.int .i64 2)) fun v4 =>
 ifB v4 (
 E.call (E.fid i.f43) [t0, t1, t2] H1 fun v5 H2 =>
 opt (binInt .sub t2 (.int .i64 1)) fun v6 =>
 opt (binInt .sub v2 t1) fun v7 =>
 opt (binInt .sub v6 v7) fun v8 =>
 F.f42_j2 E Q X0 t0 t1 t2 t3 t8 t9 t10 v8 (.int .i64 1) H2) (
 F.f42_j2 E Q X0 t0 t1 t2 t3 t8 t9 t10 v2 v3 H1)
def F.f42_l1 (E : Sy) (Q : Value → AH → Prop) (t0 t1 t2 t3 t8 t9 : Value) (H : AH) (X0 : List Value → AH → Prop) : Prop :=
 opt (binInt .sub t2 t1) fun v1 =>
 opt (binInt .leq v1 (.int .i64 12)) fun v2 =>
 ifB v2 (
 E.call (E.fid i.f34) [t0, t1, t2] H fun v3 H1 =>
 Q (.tuple #[]) H1) (
 opt (binInt .eql t3 (.int .i64 0)) fun v4 =>
 ifB v4 (
 E.call (E.fid i.f33) [t0, t1, t2] H fun v5 H2 =>
 Q (.tuple #[]) H2) (
 opt (un .not t8) fun v6 =>
 ifB v6 (
 E.call (E.fid i.f31) [t0, t1, t2] H fun v7 H3 =>
 opt (binInt .sub t3 (.int .i64 1)) fun v8 =>
 F.f42_j1 E Q X0 t0 t1 t2 v8 t8 t9 v1 H3) (
 F.f42_j1 E Q X0 t0 t1 t2 t3 t8 t9 v1 H)))
/-- slices.pdqsortOrdered[string] -/
def F.f42 (E : Sy) (x0 x1 x2 x3 : Value) (H : AH) (Q : Value → AH → Prop) : Prop :=
 LoopL (fun l H X0 => F.f42_l1 E Q (nth l 0) (nth l 1) (nth l 2) (nth l 3) (nth l 4) (nth l 5) H X0) [x0, x1, x2, x3, (.bool true), (.bool true)] H

def F.f47_l1 (E : Sy) (Q : Value → AH → Prop) (t1 t2 t10 : Value) (H : AH) (X0 : List Value → AH → Prop) : Prop :=
 opt2 (nextS t10 H) fun v1 H1 =>
 opt (ext v1 0) fun v2 =>
 ifB v2 (
 opt (ext v1 1) fun v3 =>
 opt (ext v1 2) fun v4 =>
 callV E.call t1 [v4] H1 fun v5 H2 =>
 opt (binBool .eql v5 t2) fun v6 =>
 ifB v6 (
 Q v3 H2) (
 X0 [t1, t2, t10] H2)) (
 Q (.int .i64 (-1)) H1)
/-- strings.indexFunc -/
def F.f47 (E : Sy) (x0 x1 x2 : Value) (H : AH) (Q : Value → AH → Prop) : Prop :=
 mk (rangeS x0) H fun v1 H1 =>
 LoopL (fun l H X0 => F.f47_l1 E Q (nth l 0) (nth l 1) (nth l 2) H X0) [x1, x2, v1] H1

def F.f16_j2 (E : Sy) (Q : Value → AH → Prop) (t0 t2 : Value) (H : AH) : Prop :=
 opt (convInt .u8 t0) fun v1 =>
 opt (ixStr (.string ⟨#[0, 1, 2, 2, 3, 3, 3, 3, 4, 4, 4, 4, 4, 4, 4, 4, 5, 5, 5, 5, 5, 5, 5, 5, 5, 5, 5, 5, 5, 5, 5, 5, 6, 6, 6, 6, 6, 6, 6, 6, 6, 6, 6, 6, 6, 6, 6, 6, 6, 6, 6, 6, 6, 6, 6, 6, 6, 6, 6, 6, 6, 6, 6, 6, 7, 7, 7, 7, 7, 7, 7, 7, 7, 7, 7, 7, 7, 7, 7, 7, 7, 7, 7, 7, 7, 7, 7, 7, 7, 7, 7, 7, 7, 7, 7, 7, 7, 7, 7, 7, 7, 7, 7, 7, 7, 7, 7, 7, 7, 7, 7, 7, 7, 7, 7, 7, 7, 7, 7, 7, 7, 7, 7, 7, 7, 7, 7, 7, 8, 8, 8, 8, 8, 8, 8, 8, 8, 8, 8, 8, 8, 8, 8, 8, 8, 8, 8, 8, 8, 8, 8, 8, 8, 8, 8, 8, 8, 8, 8, 8, 8, 8, 8, 8, 8, 8, 8, 8, 8, 8, 8, 8, 8, 8, 8, 8, 8, 8, 8, 8, 8, 8, 8, 8, 8, 8, 8, 8, 8, 8, 8, 8, 8, 8, 8, 8, 8, 8, 8, 8, 8, 8, 8, 8, 8, 8, 8, 8, 8, 8, 8, 8, 8, 8, 8, 8, 8, 8, 8, 8, 8, 8, 8, 8, 8, 8, 8, 8, 8, 8, 8, 8, 8, 8, 8, 8, 8, 8, 8, 8, 8, 8, 8, 8, 8, 8, 8, 8, 8, 8, 8, 8, 8, 8, 8, 8]⟩) v1) fun v2 =>
 opt (convInt .i64 v2) fun v3 =>
 opt (binInt .add t2 v3) fun v4 =>
 Q v4 H
def F.f16_j1 (E : Sy) (Q : Value → AH → Prop) (t0 t2 : Value) (H : AH) : Prop :=
 opt (binInt .geq t0 (.int .u32 256)) fun v1 =>
 ifB v1 (
 opt (binInt .shr t0 (.int .u64 8)) fun v2 =>
 opt (binInt .add t2 (.int .i64 8)) fun v3 =>
 F.f16_j2 E Q v2 v3 H) (
 F.f16_j2 E Q t0 t2 H)
/-- math/bits.Len32 -/
def F.f16 (E : Sy) (x0 : Value) (H : AH) (Q : Value → AH → Prop) : Prop :=
 opt (binInt .geq x0 (.int .u32 65536)) fun v1 =>
 ifB v1 (
 opt (binInt .shr x0 (.int .u64 16)) fun v2 =>
 F.f16_j1 E Q v2 (.int .i64 16) H) (
 F.f16_j1 E Q x0 (.int .i64 0) H)

def F.f17_j3 (E : Sy) (Q : Value → AH → Prop) (t0 t2 : Value) (H : AH) : Prop :=
 opt (convInt .u8 t0) fun v1 =>
 opt (ixStr (.string ⟨#[0, 1, 2, 2, 3, 3, 3, 3, 4, 4, 4, 4, 4, 4, 4, 4, 5, 5, 5, 5, 5, 5, 5, 5, 5, 5, 5, 5, 5, 5, 5, 5, 6, 6, 6, 6, 6, 6, 6, 6, 6, 6, 6, 6, 6, 6, 6, 6, 6, 6, 6, 6, 6, 6, 6, 6, 6, 6, 6, 6, 6, 6, 6, 6, 7, 7, 7, 7, 7, 7, 7, 7, 7, 7, 7, 7, 7, 7, 7, 7, 7, 7, 7, 7, 7, 7, 7, 7, 7, 7, 7, 7, 7, 7, 7, 7, 7, 7, 7, 7, 7, 7, 7, 7, 7, 7, 7, 7, 7, 7, 7, 7, 7, 7, 7, 7, 7, 7, 7, 7, 7, 7, 7, 7, 7, 7, 7, 7, 8, 8, 8, 8, 8, 8, 8, 8, 8, 8, 8, 8, 8, 8, 8, 8, 8, 8, 8, 8, 8, 8, 8, 8, 8, 8, 8, 8, 8, 8, 8, 8, 8, 8, 8, 8, 8, 8, 8, 8, 8, 8, 8, 8, 8, 8, 8, 8, 8, 8, 8, 8, 8, 8, 8, 8, 8, 8, 8, 8, 8, 8, 8, 8, 8, 8, 8, 8, 8, 8, 8, 8, 8, 8, 8, 8, 8, 8, 8, 8, 8, 8, 8, 8, 8, 8, 8, 8, 8, 8, 8, 8, 8, 8, 8, 8, 8, 8, 8, 8, 8, 8, 8, 8, 8, 8, 8, 8, 8, 8, 8, 8, 8, 8, 8, 8, 8, 8, 8, 8, 8, 8, 8, 8, 8, 8, 8, 8]⟩) v1) fun v2 =>
 opt (convInt .i64 v2) fun v3 =>
 opt (binInt .add t2 v3) fun v4 =>
 Q v4 H
def F.f17_j2 (E : Sy) (Q : Value → AH → Prop) (t0 t2 : Value) (H : AH) : Prop :=
 opt (binInt .geq t0 (.int .u64 256)) fun v1 =>
 ifB v1 (
 opt (binInt .shr t0 (.int .u64 8)) fun v2 =>
 opt (binInt .add t2 (.int .i64 8)) fun v3 =>
 F.f17_j3 E Q v2 v3 H) (
 F.f17_j3 E Q t0 t2 H)
def F.f17_j1 (E : Sy) (Q : Value → AH → Prop) (t0 t2 : Value) (H : AH) : Prop :=
 opt (binInt .geq t0 (.int .u64 65536)) fun v1 =>
 ifB v1 (
 opt (binInt .shr t0 (.int .u64 16)) fun v2 =>
 opt (binInt .add t2 (.int .i64 16)) fun v3 =>
 F.f17_j2 E Q v2 v3 H) (
 F.f17_j2 E Q t0 t2 H)
/-- math/bits.Len64 -/
def F.f17 (E : Sy) (x0 : Value) (H : AH) (Q : Value → AH → Prop) : Prop :=
 opt (binInt .geq x0 (.int .u64 4294967296)) fun v1 =>
 ifB v1 (
 opt (binInt .shr x0 (.int .u64 32)) fun v2 =>
 F.f17_j1 E Q v2 (.int .i64 32) H) (
 F.f17_j1 E Q x0 (.int .i64 0) H)

def F.f34_l2 (E : Sy) (Q : Value → AH → Prop) (X0 : List Value → AH → Prop) (t0 t1 t2 t6 t7 : Value) (H : AH) (X1 : List Value → AH → Prop) : Prop :=
 opt (binInt .gtr t7 t1) fun v1 =>
 gd v1 true (fun k => k t0 H) H fun v2 H1 =>
 gd v1 true (fun k => k t7 H1) H1 fun v3 H2 =>
 gd v1 true (fun k => opt (ixSlc 1 v2 v3) fun v => k v H2) H2 fun v4 H3 =>
 gd v1 true (fun k => opt (load1 v4 H3) fun v => k v H3) H3 fun v5 H4 =>
 gd v1 true (fun k => k t0 H4) H4 fun v6 H5 =>
 gd v1 true (fun k => k t7 H5) H5 fun v7 H6 =>
 gd v1 true (fun k => opt (binInt .sub v7 (.int .i64 1)) fun v => k v H6) H6 fun v8 H7 =>
 gd v1 true (fun k => opt (ixSlc 1 v6 v8) fun v => k v H7) H7 fun v9 H8 =>
 gd v1 true (fun k => opt (load1 v9 H8) fun v => k v H8) H8 fun v10 H9 =>
 gd v1 true (fun k => E.call (E.fid i.f0) [v5, v10] H9 fun v h => k v h) H9 fun v11 H10 =>
 opt (pick v1 v11 (.bool false)) fun v12 =>
 ifB v12 (
 opt (binInt .sub t7 (.int .i64 1)) fun v13 =>
 opt (binInt .sub t7 (.int .i64 1)) fun v14 =>
 opt (ixSlc 1 t0 v14) fun v15 =>
 opt (load1 v15 H10) fun v16 =>
 opt (ixSlc 1 t0 t7) fun v17 =>
 opt (load1 v17 H10) fun v18 =>
 opt (ixSlc 1 t0 t7) fun v19 =>
 opt (store1 v19 v16 H10) fun H11 =>
 opt (ixSlc 1 t0 v13) fun v20 =>
 opt (store1 v20 v18 H11) fun H12 =>
 opt (binInt .sub t7 (.int .i64 1)) fun v21 =>
 X1 [t0, t1, t2, t6, v21] H12) (
 opt (binInt .add t6 (.int .i64 1)) fun v22 =>
 X0 [t0, t1, t2, v22] H10)
def F.f34_l1 (E : Sy) (Q : Value → AH → Prop) (t0 t1 t2 t6 : Value) (H : AH) (X0 : List Value → AH → Prop) : Prop :=
 opt (binInt .lss t6 t2) fun v1 =>
 ifB v1 (
 LoopL (fun l H X1 => F.f34_l2 E Q X0 (nth l 0) (nth l 1) (nth l 2) (nth l 3) (nth l 4) H X1) [t0, t1, t2, t6, t6] H) (
 Q (.tuple #[]) H)
/-- slices.insertionSortOrdered[string] -/
def F.f34 (E : Sy) (x0 x1 x2 : Value) (H : AH) (Q : Value → AH → Prop) : Prop :=
 opt (binInt .add x1 (.int .i64 1)) fun v1 =>
 LoopL (fun l H X0 => F.f34_l1 E Q (nth l 0) (nth l 1) (nth l 2) (nth l 3) H X0) [x0, x1, x2, v1] H

def F.f33_l2 (E : Sy) (Q : Value → AH → Prop) (t0 t6 t7 t10 : Value) (H : AH) (X0 : List Value → AH → Prop) : Prop :=
 opt (binInt .geq t10 (.int .i64 0)) fun v1 =>
 ifB v1 (
 opt (binInt .add t6 t10) fun v2 =>
 opt (binInt .add t6 t10) fun v3 =>
 opt (ixSlc 1 t0 v3) fun v4 =>
 opt (load1 v4 H) fun v5 =>
 opt (ixSlc 1 t0 t6) fun v6 =>
 opt (load1 v6 H) fun v7 =>
 opt (ixSlc 1 t0 t6) fun v8 =>
 opt (store1 v8 v5 H) fun H1 =>
 opt (ixSlc 1 t0 v2) fun v9 =>
 opt (store1 v9 v7 H1) fun H2 =>
 E.call (E.fid i.f44) [t0, t7, t10, t6] H2 fun v10 H3 =>
 opt (binInt .sub t10 (.int .i64 1)) fun v11 =>
 X0 [t0, t6, t7, v11] H3) (
 Q (.tuple #[]) H)
def F.f33_l1 (E : Sy) (Q : Value → AH → Prop) (t0 t6 t7 t8 t9 : Value) (H : AH) (X0 : List Value → AH → Prop) : Prop :=
 opt (binInt .geq t9 (.int .i64 0)) fun v1 =>
 ifB v1 (
 E.call (E.fid i.f44) [t0, t9, t8, t6] H fun v2 H1 =>
 opt (binInt .sub t9 (.int .i64 1)) fun v3 =>
 X0 [t0, t6, t7, t8, v3] H1) (
 opt (binInt .sub t8 (.int .i64 1)) fun v4 =>
 LoopL (fun l H X0 => F.f33_l2 E Q (nth l 0) (nth l 1) (nth l 2) (nth l 3) H X0) [t0, t6, t7, v4] H)
/-- slices.heapSortOrdered[string] -/
def F.f33 (E : Sy) (x0 x1 x2 : Value) (H : AH) (Q : Value → AH → Prop) : Prop :=
 opt (binInt .sub x2 x1) fun v1 =>
 opt (binInt .sub v1 (.int .i64 1)) fun v2 =>
 opt (binInt .quo v2 (.int .i64 2)) fun v3 =>
 LoopL (fun l H X0 => F.f33_l1 E Q (nth l 0) (nth l 1) (nth l 2) (nth l 3) (nth l 4) H X0) [x0, x1, (.int .i64 0), v1, v3] H

def F.f31_j1 (E : Sy) (Q : Value → AH → Prop) (X0 : List Value → AH → Prop) (t0 t1 t6 t7 t8 t9 t10 : Value) (H : AH) : Prop :=
 opt (binInt .add t1 t10) fun v1 =>
 opt (binInt .add t1 t10) fun v2 =>
 opt (ixSlc 1 t0 v2) fun v3 =>
 opt (load1 v3 H) fun v4 =>
 opt (ixSlc 1 t0 t9) fun v5 =>
 opt (load1 v5 H) fun v6 =>
 opt (ixSlc 1 t0 t9) fun v7 =>
 opt (store1 v7 v4 H) fun H1 =>
 opt (ixSlc 1 t0 v1) fun v8 =>
 opt (store1 v8 v6 H1) fun H2 =>
 opt (binInt .add t9 (.int .i64 1)) fun v9 =>
 X0 [t0, t1, t6, t7, t8, v9] H2
def F.f31_l1 (E : Sy) (Q : Value → AH → Prop) (t0 t1 t6 t7 t8 t9 : Value) (H : AH) (X0 : List Value → AH → Prop) : Prop :=
 opt (binInt .quo t6 (.int .i64 4)) fun v1 =>
 opt (binInt .mul v1 (.int .i64 2)) fun v2 =>
 opt (binInt .add t1 v2) fun v3 =>
 opt (binInt .add v3 (.int .i64 1)) fun v4 =>
 opt (binInt .leq t9 v4) fun v5 =>
 ifB v5 (
 E.call (E.fid i.f45) [t7] H fun v6 H1 =>
 opt (binInt .sub t8 (.int .u64 1)) fun v7 =>
 opt (binInt .and v6 v7) fun v8 =>
 opt (convInt .i64 v8) fun v9 =>
 opt (binInt .geq v9 t6) fun v10 =>
 ifB v10 (
 opt (binInt .sub v9 t6) fun v11 =>
 F.f31_j1 E Q X0 t0 t1 t6 t7 t8 t9 v11 H1) (
 F.f31_j1 E Q X0 t0 t1 t6 t7 t8 t9 v9 H1)) (
 Q (.tuple #[]) H)
/-- slices.breakPatternsOrdered[string] -/
def F.f31 (E : Sy) (x0 x1 x2 : Value) (H : AH) (Q : Value → AH → Prop) : Prop :=
 opt (binInt .sub x2 x1) fun v1 =>
 opt (binInt .geq v1 (.int .i64 8)) fun v2 =>
 ifB v2 (
 opt (convInt .u64 v1) fun v3 =>
 allocW [(.int .u64 0)] H fun v4 H1 =>
 opt (store1 v4 v3 H1) fun H2 =>
 E.call (E.fid i.f37) [v1] H2 fun v5 H3 =>
 opt (binInt .quo v1 (.int .i64 4)) fun v6 =>
 opt (binInt .mul v6 (.int .i64 2)) fun v7 =>
 opt (binInt .add x1 v7) fun v8 =>
 opt (binInt .sub v8 (.int .i64 1)) fun v9 =>
 LoopL (fun l H X0 => F.f31_l1 E Q (nth l 0) (nth l 1) (nth l 2) (nth l 3) (nth l 4) (nth l 5) H X0) [x0, x1, v1, v4, v5, v9] H3) (
 Q (.tuple #[]) H)

def F.f32_j1 (E : Sy) (Q : Value → AH → Prop) (t9 t11 : Value) (H : AH) : Prop :=
 opt (load1 t9 H) fun v1 =>
 opt (binInt .eql v1 (.int .i64 0)) fun v2 =>
 ifB v2 (
 Q (.tuple #[t11, (.int .i64 1)]) H) (
 opt (binInt .eql v1 (.int .i64 12)) fun v3 =>
 ifB v3 (
 Q (.tuple #[t11, (.int .i64 2)]) H) (
 Q (.tuple #[t11, (.int .i64 0)]) H))
def F.f32_j2 (E : Sy) (Q : Value → AH → Prop) (t0 t9 t10 t11 t12 : Value) (H : AH) : Prop :=
 E.call (E.fid i.f36) [t0, t10, t11, t12, t9] H fun v1 H1 =>
 F.f32_j1 E Q t9 v1 H1
/-- slices.choosePivotOrdered[string] -/
def F.f32 (E : Sy) (x0 x1 x2 : Value) (H : AH) (Q : Value → AH → Prop) : Prop :=
 opt (binInt .sub x2 x1) fun v1 =>
 allocW [(.int .i64 0)] H fun v2 H1 =>
 opt (binInt .quo v1 (.int .i64 4)) fun v3 =>
 opt (binInt .mul v3 (.int .i64 1)) fun v4 =>
 opt (binInt .add x1 v4) fun v5 =>
 opt (binInt .quo v1 (.int .i64 4)) fun v6 =>
 opt (binInt .mul v6 (.int .i64 2)) fun v7 =>
 opt (binInt .add x1 v7) fun v8 =>
 opt (binInt .quo v1 (.int .i64 4)) fun v9 =>
 opt (binInt .mul v9 (.int .i64 3)) fun v10 =>
 opt (binInt .add x1 v10) fun v11 =>
 opt (binInt .geq v1 (.int .i64 8)) fun v12 =>
 ifB v12 (
 opt (binInt .geq v1 (.int .i64 50)) fun v13 =>
 ifB v13 (
 E.call (E.fid i.f35) [x0, v5, v2] H1 fun v14 H2 =>
 E.call (E.fid i.f35) [x0, v8, v2] H2 fun v15 H3 =>
 E.call (E.fid i.f35) [x0, v11, v2] H3 fun v16 H4 =>
 F.f32_j2 E Q x0 v2 v14 v15 v16 H4) (
 F.f32_j2 E Q x0 v2 v5 v8 v11 H1)) (
 F.f32_j1 E Q v2 v8 H1)

def F.f43_l1 (E : Sy) (Q : Value → AH → Prop) (t0 t6 t7 : Value) (H : AH) (X0 : List Value → AH → Prop) : Prop :=
 opt (binInt .lss t6 t7) fun v1 =>
 ifB v1 (
 opt (ixSlc 1 t0 t7) fun v2 =>
 opt (load1 v2 H) fun v3 =>
 opt (ixSlc 1 t0 t6) fun v4 =>
 opt (load1 v4 H) fun v5 =>
 opt (ixSlc 1 t0 t6) fun v6 =>
 opt (store1 v6 v3 H) fun H1 =>
 opt (ixSlc 1 t0 t7) fun v7 =>
 opt (store1 v7 v5 H1) fun H2 =>
 opt (binInt .add t6 (.int .i64 1)) fun v8 =>
 opt (binInt .sub t7 (.int .i64 1)) fun v9 =>
 X0 [t0, v8, v9] H2) (
 Q (.tuple #[]) H)
/-- slices.reverseRangeOrdered[string] -/
def F.f43 (E : Sy) (x0 x1 x2 : Value) (H : AH) (Q : Value → AH → Prop) : Prop :=
 opt (binInt .sub x2 (.int .i64 1)) fun v1 =>
 LoopL (fun l H X0 => F.f43_l1 E Q (nth l 0) (nth l 1) (nth l 2) H X0) [x0, x1, v1] H

def F.f39_l3 (E : Sy) (Q : Value → AH → Prop) (X0 : List Value → AH → Prop) (t0 t1 t2 t7 t8 t10 : Value) (H : AH) (X1 : List Value → AH → Prop) : Prop :=
 opt (binInt .lss t10 t2) fun v1 =>
 ifB v1 (
 opt (ixSlc 1 t0 t10) fun v2 =>
 opt (load1 v2 H) fun v3 =>
 opt (binInt .sub t10 (.int .i64 1)) fun v4 =>
 opt (ixSlc 1 t0 v4) fun v5 =>
 opt (load1 v5 H) fun v6 =>
 E.call (E.fid i.f0) [v3, v6] H fun v7 H1 =>
 opt (un .not v7) fun v8 =>
 ifB v8 (
 opt (binInt .add t8 (.int .i64 1)) fun v9 =>
 X0 [t0, t1, t2, t7, v9] H1) (
 opt (binInt .sub t10 (.int .i64 1)) fun v10 =>
 opt (binInt .sub t10 (.int .i64 1)) fun v11 =>
 opt (ixSlc 1 t0 v11) fun v12 =>
 opt (load1 v12 H1) fun v13 =>
 opt (ixSlc 1 t0 t10) fun v14 =>
 opt (load1 v14 H1) fun v15 =>
 opt (ixSlc 1 t0 t10) fun v16 =>
 opt (store1 v16 v13 H1) fun H2 =>
 opt (ixSlc 1 t0 v10) fun v17 =>
 opt (store1 v17 v15 H2) fun H3 =>
 opt (binInt .add t10 (.int .i64 1)) fun v18 =>
 X1 [t0, t1, t2, t7, t8, v18] H3)) (
 opt (binInt .add t8 (.int .i64 1)) fun v19 =>
 X0 [t0, t1, t2, t7, v19] H)
def F.f39_j1 (E : Sy) (Q : Value → AH → Prop) (X0 : List Value → AH → Prop) (t0 t1 t2 t7 t8 : Value) (H : AH) : Prop :=
 opt (binInt .sub t2 t7) fun v1 =>
 opt (binInt .geq v1 (.int .i64 2)) fun v2 =>
 ifB v2 (
 opt (binInt .add t7 (.int .i64 1)) fun v3 =>
 LoopL (fun l H X1 => F.f39_l3 E Q X0 (nth l 0) (nth l 1) (nth l 2) (nth l 3) (nth l 4) (nth l 5) H X1) [t0, t1, t2, t7, t8, v3] H) (
 opt (binInt .add t8 (.int .i64 1)) fun v4 =>
 X0 [t0, t1, t2, t7, v4] H)
def F.f39_l4 (E : Sy) (Q : Value → AH → Prop) (X0 : List Value → AH → Prop) (t0 t1 t2 t7 t8 t9 : Value) (H : AH) (X1 : List Value → AH → Prop) : Prop :=
 opt (binInt .geq t9 (.int .i64 1)) fun v1 =>
 ifB v1 (
 opt (ixSlc 1 t0 t9) fun v2 =>
 opt (load1 v2 H) fun v3 =>
 opt (binInt .sub t9 (.int .i64 1)) fun v4 =>
 opt (ixSlc 1 t0 v4) fun v5 =>
 opt (load1 v5 H) fun v6 =>
 E.call (E.fid i.f0) [v3, v6] H fun v7 H1 =>
 opt (un .not v7) fun v8 =>
 ifB v8 (
 F.f39_j1 E Q X0 t0 t1 t2 t7 t8 H1) (
 opt (binInt .sub t9 (.int .i64 1)) fun v9 =>
 opt (binInt .sub t9 (.int .i64 1)) fun v10 =>
 opt (ixSlc 1 t0 v10) fun v11 =>
 opt (load1 v11 H1) fun v12 =>
 opt (ixSlc 1 t0 t9) fun v13 =>
 opt (load1 v13 H1) fun v14 =>
 opt (ixSlc 1 t0 t9) fun v15 =>
 opt (store1 v15 v12 H1) fun H2 =>
 opt (ixSlc 1 t0 v9) fun v16 =>
 opt (store1 v16 v14 H2) fun H3 =>
 opt (binInt .sub t9 (.int .i64 1)) fun v17 =>
 X1 [t0, t1, t2, t7, t8, v17] H3)) (
 F.f39_j1 E Q X0 t0 t1 t2 t7 t8 H)
def F.f39_l2 (E : Sy) (Q : Value → AH → Prop) (X0 : List Value → AH → Prop) (t0 t1 t2 t7 t8 : Value) (H : AH) (X1 : List Value → AH → Prop) : Prop :=
 opt (binInt .lss t7 t2) fun v1 =>
 gd v1 true (fun k => k t0 H) H fun v2 H1 =>
 gd v1 true (fun k => k t7 H1) H1 fun v3 H2 =>
 gd v1 true (fun k => opt (ixSlc 1 v2 v3) fun v => k v H2) H2 fun v4 H3 =>
 gd v1 true (fun k => opt (load1 v4 H3) fun v => k v H3) H3 fun v5 H4 =>
 gd v1 true (fun k => k t0 H4) H4 fun v6 H5 =>
 gd v1 true (fun k => k t7 H5) H5 fun v7 H6 =>
 gd v1 true (fun k => opt (binInt .sub v7 (.int .i64 1)) fun v => k v H6) H6 fun v8 H7 =>
 gd v1 true (fun k => opt (ixSlc 1 v6 v8) fun v => k v H7) H7 fun v9 H8 =>
 gd v1 true (fun k => opt (load1 v9 H8) fun v => k v H8) H8 fun v10 H9 =>
 gd v1 true (fun k => E.call (E.fid i.f0) [v5, v10] H9 fun v h => k v h) H9 fun v11 H10 =>
 gd v1 true (fun k => opt (un .not v11) fun v => k v H10) H10 fun v12 H11 =>
 opt (pick v1 v12 (.bool false)) fun v13 =>
 ifB v13 (
 opt (binInt .add t7 (.int .i64 1)) fun v14 =>
 X1 [t0, t1, t2, v14, t8] H11) (
 opt (binInt .eql t7 t2) fun v15 =>
 ifB v15 (
 Q (.bool true) H11) (
 opt (binInt .sub t2 t1) fun v16 =>
 opt (binInt .lss v16 (.int .i64 50)) fun v17 =>
 ifB v17 (
 Q (.bool false) H11) (
 opt (binInt .sub t7 (.int .i64 1)) fun v18 =>
 opt (binInt .sub t7 (.int .i64 1)) fun v19 =>
 opt (ixSlc 1 t0 v19) fun v20 =>
 opt (load1 v20 H11) fun v21 =>
 opt (ixSlc 1 t0 t7) fun v22 =>
 opt (load1 v22 H11) fun v23 =>
 opt (ixSlc 1 t0 t7) fun v24 =>
 opt (store1 v24 v21 H11) fun H12 =>
 opt (ixSlc 1 t0 v18) fun v25 =>
 opt (store1 v25 v23 H12) fun H13 =>
 opt (binInt .sub t7 t1) fun v26 =>
 opt (binInt .geq v26 (.int .i64 2)) fun v27 =>
 ifB v27 (
 opt (binInt .sub t7 (.int .i64 1)) fun v28 =>
 LoopL (fun l H X1 => F.f39_l4 E Q X0 (nth l 0) (nth l 1) (nth l 2) (nth l 3) (nth l 4) (nth l 5) H X1) [t0, t1, t2, t7, t8, v28] H13) (
 F.f39_j1 E Q X0 t0 t1 t2 t7 t8 H13))))
def F.f39_l1 (E : Sy) (Q : Value → AH → Prop) (t0 t1 t2 t7 t8 : Value) (H : AH) (X0 : List Value → AH → Prop) : Prop :=
 opt (binInt .lss t8 (.int .i64 5)) fun v1 =>
 ifB v1 (
 LoopL (fun l H X1 => F.f39_l2 E Q X0 (nth l 0) (nth l 1) (nth l 2) (nth l 3) (nth l 4) H X1) [t0, t1, t2, t7, t8] H) (
 Q (.bool false) H)
/-- slices.partialInsertionSortOrdered[string] -/
def F.f39 (E : Sy) (x0 x1 x2 : Value) (H : AH) (Q : Value → AH → Prop) : Prop :=
 opt (binInt .add x1 (.int .i64 1)) fun v1 =>
 LoopL (fun l H X0 => F.f39_l1 E Q (nth l 0) (nth l 1) (nth l 2) (nth l 3) (nth l 4) H X0) [x0, x1, x2, v1, (.int .i64 0)] H

/-- cmp.Less[string] -/
def F.f0 (E : Sy) (x0 x1 : Value) (H : AH) (Q : Value → AH → Prop) : Prop :=
 E.call (E.fid i.f1) [x0] H fun v1 H1 =>
 gd v1 true (fun k => k x1 H1) H1 fun v2 H2 =>
 gd v1 true (fun k => E.call (E.fid i.f1) [v2] H2 fun v h => k v h) H2 fun v3 H3 =>
 gd v1 true (fun k => opt (un .not v3) fun v => k v H3) H3 fun v4 H4 =>
 opt (pick v1 v4 (.bool false)) fun v5 =>
 gd v5 false (fun k => k x0 H4) H4 fun v6 H5 =>
 gd v5 false (fun k => k x1 H5) H5 fun v7 H6 =>
 gd v5 false (fun k => opt (binStr .lss v6 v7) fun v => k v H6) H6 fun v8 H7 =>
 opt (pick v5 (.bool true) v8) fun v9 =>
 Q v9 H7

def F.f40_l3 (E : Sy) (Q : Value → AH → Prop) (X0 : List Value → AH → Prop) (t0 t1 t9 t10 : Value) (H : AH) (X1 : List Value → AH → Prop) : Prop :=
 opt (binInt .leq t9 t10) fun v1 =>
 gd v1 true (fun k => k t0 H) H fun v2 H1 =>
 gd v1 true (fun k => k t1 H1) H1 fun v3 H2 =>
 gd v1 true (fun k => opt (ixSlc 1 v2 v3) fun v => k v H2) H2 fun v4 H3 =>
 gd v1 true (fun k => opt (load1 v4 H3) fun v => k v H3) H3 fun v5 H4 =>
 gd v1 true (fun k => k t0 H4) H4 fun v6 H5 =>
 gd v1 true (fun k => k t10 H5) H5 fun v7 H6 =>
 gd v1 true (fun k => opt (ixSlc 1 v6 v7) fun v => k v H6) H6 fun v8 H7 =>
 gd v1 true (fun k => opt (load1 v8 H7) fun v => k v H7) H7 fun v9 H8 =>
 gd v1 true (fun k => E.call (E.fid i.f0) [v5, v9] H8 fun v h => k v h) H8 fun v10 H9 =>
 opt (pick v1 v10 (.bool false)) fun v11 =>
 ifB v11 (
 opt (binInt .sub t10 (.int .i64 1)) fun v12 =>
 X1 [t0, t1, t9, v12] H9) (
 opt (binInt .gtr t9 t10) fun v13 =>
 ifB v13 (
 Q t9 H9) (
 opt (ixSlc 1 t0 t10) fun v14 =>
 opt (load1 v14 H9) fun v15 =>
 opt (ixSlc 1 t0 t9) fun v16 =>
 opt (load1 v16 H9) fun v17 =>
 opt (ixSlc 1 t0 t9) fun v18 =>
 opt (store1 v18 v15 H9) fun H10 =>
 opt (ixSlc 1 t0 t10) fun v19 =>
 opt (store1 v19 v17 H10) fun H11 =>
 opt (binInt .add t9 (.int .i64 1)) fun v20 =>
 opt (binInt .sub t10 (.int .i64 1)) fun v21 =>
 X0 [t0, t1, v20, v21] H11))
def F.f40_l2 (E : Sy) (Q : Value → AH → Prop) (X0 : List Value → AH → Prop) (t0 t1 t9 t10 : Value) (H : AH) (X1 : List Value → AH → Prop) : Prop :=
 opt (binInt .leq t9 t10) fun v1 =>
 gd v1 true (fun k => k t0 H) H fun v2 H1 =>
 gd v1 true (fun k => k t1 H1) H1 fun v3 H2 =>
 gd v1 true (fun k => opt (ixSlc 1 v2 v3) fun v => k v H2) H2 fun v4 H3 =>
 gd v1 true (fun k => opt (load1 v4 H3) fun v => k v H3) H3 fun v5 H4 =>
 gd v1 true (fun k => k t0 H4) H4 fun v6 H5 =>
 gd v1 true (fun k => k t9 H5) H5 fun v7 H6 =>
 gd v1 true (fun k => opt (ixSlc 1 v6 v7) fun v => k v H6) H6 fun v8 H7 =>
 gd v1 true (fun k => opt (load1 v8 H7) fun v => k v H7) H7 fun v9 H8 =>
 gd v1 true (fun k => E.call (E.fid i.f0) [v5, v9] H8 fun v h => k v h) H8 fun v10 H9 =>
 gd v1 true (fun k => opt (un .not v10) fun v => k v H9) H9 fun v11 H10 =>
 opt (pick v1 v11 (.bool false)) fun v12 =>
 ifB v12 (
 opt (binInt .add t9 (.int .i64 1)) fun v13 =>
 X1 [t0, t1, v13, t10] H10) (
 LoopL (fun l H X1 => F.f40_l3 E Q X0 (nth l 0) (nth l 1) (nth l 2) (nth l 3) H X1) [t0, t1, t9, t10] H10)
def F.f40_l1 (E : Sy) (Q : Value → AH → Prop) (t0 t1 t9 t10 : Value) (H : AH) (X0 : List Value → AH → Prop) : Prop :=
 LoopL (fun l H X1 => F.f40_l2 E Q X0 (nth l 0) (nth l 1) (nth l 2) (nth l 3) H X1) [t0, t1, t9, t10] H
/-- slices.partitionEqualOrdered[string] -/
def F.f40 (E : Sy) (x0 x1 x2 x3 : Value) (H : AH) (Q : Value → AH → Prop) : Prop :=
 opt (ixSlc 1 x0 x3) fun v1 =>
 opt (load1 v1 H) fun v2 =>
 opt (ixSlc 1 x0 x1) fun v3 =>
 opt (load1 v3 H) fun v4 =>
 opt (ixSlc 1 x0 x1) fun v5 =>
 opt (store1 v5 v2 H) fun H1 =>
 opt (ixSlc 1 x0 x3) fun v6 =>
 opt (store1 v6 v4 H1) fun H2 =>
 opt (binInt .add x1 (.int .i64 1)) fun v7 =>
 opt (binInt .sub x2 (.int .i64 1)) fun v8 =>
 LoopL (fun l H X0 => F.f40_l1 E Q (nth l 0) (nth l 1) (nth l 2) (nth l 3) H X0) [x0, x1, v7, v8] H2

def F.f41_l5 (E : Sy) (Q : Value → AH → Prop) (X0 : List Value → AH → Prop) (t0 t1 t10 t11 : Value) (H : AH) (X1 : List Value → AH → Prop) : Prop :=
 opt (binInt .leq t10 t11) fun v1 =>
 gd v1 true (fun k => k t0 H) H fun v2 H1 =>
 gd v1 true (fun k => k t11 H1) H1 fun v3 H2 =>
 gd v1 true (fun k => opt (ixSlc 1 v2 v3) fun v => k v H2) H2 fun v4 H3 =>
 gd v1 true (fun k => opt (load1 v4 H3) fun v => k v H3) H3 fun v5 H4 =>
 gd v1 true (fun k => k t0 H4) H4 fun v6 H5 =>
 gd v1 true (fun k => k t1 H5) H5 fun v7 H6 =>
 gd v1 true (fun k => opt (ixSlc 1 v6 v7) fun v => k v H6) H6 fun v8 H7 =>
 gd v1 true (fun k => opt (load1 v8 H7) fun v => k v H7) H7 fun v9 H8 =>
 gd v1 true (fun k => E.call (E.fid i.f0) [v5, v9] H8 fun v h => k v h) H8 fun v10 H9 =>
 gd v1 true (fun k => opt (un .not v10) fun v => k v H9) H9 fun v11 H10 =>
 opt (pick v1 v11 (.bool false)) fun v12 =>
 ifB v12 (
 opt (binInt .sub t11 (.int .i64 1)) fun v13 =>
 X1 [t0, t1, t10, v13] H10) (
 opt (binInt .gtr t10 t11) fun v14 =>
 ifB v14 (
 opt (ixSlc 1 t0 t1) fun v15 =>
 opt (load1 v15 H10) fun v16 =>
 opt (ixSlc 1 t0 t11) fun v17 =>
 opt (load1 v17 H10) fun v18 =>
 opt (ixSlc 1 t0 t11) fun v19 =>
 opt (store1 v19 v16 H10) fun H11 =>
 opt (ixSlc 1 t0 t1) fun v20 =>
 opt (store1 v20 v18 H11) fun H12 =>
 Q (.tuple #[t11, (.bool false)]) H12) (
 opt (ixSlc 1 t0 t11) fun v21 =>
 opt (load1 v21 H10) fun v22 =>
 opt (ixSlc 1 t0 t10) fun v23 =>
 opt (load1 v23 H10) fun v24 =>
 opt (ixSlc 1 t0 t10) fun v25 =>
 opt (store1 v25 v22 H10) fun H13 =>
 opt (ixSlc 1 t0 t11) fun v26 =>
 opt (store1 v26 v24 H13) fun H14 =>
 opt (binInt .add t10 (.int .i64 1)) fun v27 =>
 opt (binInt .sub t11 (.int .i64 1)) fun v28 =>
 X0 [t0, t1, v27, v28] H14))
def F.f41_l4 (E : Sy) (Q : Value → AH → Prop) (X0 : List Value → AH → Prop) (t0 t1 t10 t11 : Value) (H : AH) (X1 : List Value → AH → Prop) : Prop :=
 opt (binInt .leq t10 t11) fun v1 =>
 gd v1 true (fun k => k t0 H) H fun v2 H1 =>
 gd v1 true (fun k => k t10 H1) H1 fun v3 H2 =>
 gd v1 true (fun k => opt (ixSlc 1 v2 v3) fun v => k v H2) H2 fun v4 H3 =>
 gd v1 true (fun k => opt (load1 v4 H3) fun v => k v H3) H3 fun v5 H4 =>
 gd v1 true (fun k => k t0 H4) H4 fun v6 H5 =>
 gd v1 true (fun k => k t1 H5) H5 fun v7 H6 =>
 gd v1 true (fun k => opt (ixSlc 1 v6 v7) fun v => k v H6) H6 fun v8 H7 =>
 gd v1 true (fun k => opt (load1 v8 H7) fun v => k v H7) H7 fun v9 H8 =>
 gd v1 true (fun k => E.call (E.fid i.f0) [v5, v9] H8 fun v h => k v h) H8 fun v10 H9 =>
 opt (pick v1 v10 (.bool false)) fun v11 =>
 ifB v11 (
 opt (binInt .add t10 (.int .i64 1)) fun v12 =>
 X1 [t0, t1, v12, t11] H9) (
 LoopL (fun l H X1 => F.f41_l5 E Q X0 (nth l 0) (nth l 1) (nth l 2) (nth l 3) H X1) [t0, t1, t10, t11] H9)
def F.f41_l3 (E : Sy) (Q : Value → AH → Prop) (t0 t1 t10 t11 : Value) (H : AH) (X0 : List Value → AH → Prop) : Prop :=
 LoopL (fun l H X1 => F.f41_l4 E Q X0 (nth l 0) (nth l 1) (nth l 2) (nth l 3) H X1) [t0, t1, t10, t11] H
def F.f41_l2 (E : Sy) (Q : Value → AH → Prop) (t0 t1 t10 t11 : Value) (H : AH) (X0 : List Value → AH → Prop) : Prop :=
 opt (binInt .leq t10 t11) fun v1 =>
 gd v1 true (fun k => k t0 H) H fun v2 H1 =>
 gd v1 true (fun k => k t11 H1) H1 fun v3 H2 =>
 gd v1 true (fun k => opt (ixSlc 1 v2 v3) fun v => k v H2) H2 fun v4 H3 =>
 gd v1 true (fun k => opt (load1 v4 H3) fun v => k v H3) H3 fun v5 H4 =>
 gd v1 true (fun k => k t0 H4) H4 fun v6 H5 =>
 gd v1 true (fun k => k t1 H5) H5 fun v7 H6 =>
 gd v1 true (fun k => opt (ixSlc 1 v6 v7) fun v => k v H6) H6 fun v8 H7 =>
 gd v1 true (fun k => opt (load1 v8 H7) fun v => k v H7) H7 fun v9 H8 =>
 gd v1 true (fun k => E.call (E.fid i.f0) [v5, v9] H8 fun v h => k v h) H8 fun v10 H9 =>
 gd v1 true (fun k => opt (un .not v10) fun v => k v H9) H9 fun v11 H10 =>
 opt (pick v1 v11 (.bool false)) fun v12 =>
 ifB v12 (
 opt (binInt .sub t11 (.int .i64 1)) fun v13 =>
 X0 [t0, t1, t10, v13] H10) (
 opt (binInt .gtr t10 t11) fun v14 =>
 ifB v14 (
 opt (ixSlc 1 t0 t1) fun v15 =>
 opt (load1 v15 H10) fun v16 =>
 opt (ixSlc 1 t0 t11) fun v17 =>
 opt (load1 v17 H10) fun v18 =>
 opt (ixSlc 1 t0 t11) fun v19 =>
 opt (store1 v19 v16 H10) fun H11 =>
 opt (ixSlc 1 t0 t1) fun v20 =>
 opt (store1 v20 v18 H11) fun H12 =>
 Q (.tuple #[t11, (.bool true)]) H12) (
 opt (ixSlc 1 t0 t11) fun v21 =>
 opt (load1 v21 H10) fun v22 =>
 opt (ixSlc 1 t0 t10) fun v23 =>
 opt (load1 v23 H10) fun v24 =>
 opt (ixSlc 1 t0 t10) fun v25 =>
 opt (store1 v25 v22 H10) fun H13 =>
 opt (ixSlc 1 t0 t11) fun v26 =>
 opt (store1 v26 v24 H13) fun H14 =>
 opt (binInt .add t10 (.int .i64 1)) fun v27 =>
 opt (binInt .sub t11 (.int .i64 1)) fun v28 =>
 LoopL (fun l H X0 => F.f41_l3 E Q (nth l 0) (nth l 1) (nth l 2) (nth l 3) H X0) [t0, t1, v27, v28] H14))
def F.f41_l1 (E : Sy) (Q : Value → AH → Prop) (t0 t1 t10 t11 : Value) (H : AH) (X0 : List Value → AH → Prop) : Prop :=
 opt (binInt .leq t10 t11) fun v1 =>
 gd v1 true (fun k => k t0 H) H fun v2 H1 =>
 gd v1 true (fun k => k t10 H1) H1 fun v3 H2 =>
 gd v1 true (fun k => opt (ixSlc 1 v2 v3) fun v => k v H2) H2 fun v4 H3 =>
 gd v1 true (fun k => opt (load1 v4 H3) fun v => k v H3) H3 fun v5 H4 =>
 gd v1 true (fun k => k t0 H4) H4 fun v6 H5 =>
 gd v1 true (fun k => k t1 H5) H5 fun v7 H6 =>
 gd v1 true (fun k => opt (ixSlc 1 v6 v7) fun v => k v H6) H6 fun v8 H7 =>
 gd v1 true (fun k => opt (load1 v8 H7) fun v => k v H7) H7 fun v9 H8 =>
 gd v1 true (fun k => E.call (E.fid i.f0) [v5, v9] H8 fun v h => k v h) H8 fun v10 H9 =>
 opt (pick v1 v10 (.bool false)) fun v11 =>
 ifB v11 (
 opt (binInt .add t10 (.int .i64 1)) fun v12 =>
 X0 [t0, t1, v12, t11] H9) (
 LoopL (fun l H X0 => F.f41_l2 E Q (nth l 0) (nth l 1) (nth l 2) (nth l 3) H X0) [t0, t1, t10, t11] H9)
/-- slices.partitionOrdered[string] -/
def F.f41 (E : Sy) (x0 x1 x2 x3 : Value) (H : AH) (Q : Value → AH → Prop) : Prop :=
 opt (ixSlc 1 x0 x3) fun v1 =>
 opt (load1 v1 H) fun v2 =>
 opt (ixSlc 1 x0 x1) fun v3 =>
 opt (load1 v3 H) fun v4 =>
 opt (ixSlc 1 x0 x1) fun v5 =>
 opt (store1 v5 v2 H) fun H1 =>
 opt (ixSlc 1 x0 x3) fun v6 =>
 opt (store1 v6 v4 H1) fun H2 =>
 opt (binInt .add x1 (.int .i64 1)) fun v7 =>
 opt (binInt .sub x2 (.int .i64 1)) fun v8 =>
 LoopL (fun l H X0 => F.f41_l1 E Q (nth l 0) (nth l 1) (nth l 2) (nth l 3) H X0) [x0, x1, v7, v8] H2

def F.f44_j1 (E : Sy) (Q : Value → AH → Prop) (X0 : List Value → AH → Prop) (t0 t2 t3 t8 t9 : Value) (H : AH) : Prop :=
 opt (binInt .add t3 t8) fun v1 =>
 opt (ixSlc 1 t0 v1) fun v2 =>
 opt (load1 v2 H) fun v3 =>
 opt (binInt .add t3 t9) fun v4 =>
 opt (ixSlc 1 t0 v4) fun v5 =>
 opt (load1 v5 H) fun v6 =>
 E.call (E.fid i.f0) [v3, v6] H fun v7 H1 =>
 opt (un .not v7) fun v8 =>
 ifB v8 (
 Q (.tuple #[]) H1) (
 opt (binInt .add t3 t8) fun v9 =>
 opt (binInt .add t3 t9) fun v10 =>
 opt (binInt .add t3 t9) fun v11 =>
 opt (ixSlc 1 t0 v11) fun v12 =>
 opt (load1 v12 H1) fun v13 =>
 opt (binInt .add t3 t8) fun v14 =>
 opt (ixSlc 1 t0 v14) fun v15 =>
 opt (load1 v15 H1) fun v16 =>
 opt (ixSlc 1 t0 v9) fun v17 =>
 opt (store1 v17 v13 H1) fun H2 =>
 opt (ixSlc 1 t0 v10) fun v18 =>
 opt (store1 v18 v16 H2) fun H3 =>
 X0 [t0, t2, t3, t9] H3)
def F.f44_l1 (E : Sy) (Q : Value → AH → Prop) (t0 t2 t3 t8 : Value) (H : AH) (X0 : List Value → AH → Prop) : Prop :=
 opt (binInt .mul (.int .i64 2) t8) fun v1 =>
 opt (binInt .add v1 (.int .i64 1)) fun v2 =>
 opt (binInt .geq v2 t2) fun v3 =>
 ifB v3 (
 Q (.tuple #[]) H) (
 opt (binInt .add v2 (.int .i64 1)) fun v4 =>
 opt (binInt .lss v4 t2) fun v5 =>
 gd v5 true (fun k => k t0 H) H fun v6 H1 =>
 gd v5 true (fun k => k t3 H1) H1 fun v7 H2 =>
 gd v5 true (fun k => k v2 H2) H2 fun v8 H3 =>
 gd v5 true (fun k => opt (binInt .add v7 v8) fun v => k v H3) H3 fun v9 H4 =>
 gd v5 true (fun k => opt (ixSlc 1 v6 v9) fun v => k v H4) H4 fun v10 H5 =>
 gd v5 true (fun k => opt (load1 v10 H5) fun v => k v H5) H5 fun v11 H6 =>
 gd v5 true (fun k => k t0 H6) H6 fun v12 H7 =>
 gd v5 true (fun k => k t3 H7) H7 fun v13 H8 =>
 gd v5 true (fun k => k v2 H8) H8 fun v14 H9 =>
 gd v5 true (fun k => opt (binInt .add v13 v14) fun v => k v H9) H9 fun v15 H10 =>
 gd v5 true (fun k => opt (binInt .add v15 (.int .i64 1)) fun v => k v H10) H10 fun v16 H11 =>
 gd v5 true (fun k => opt (ixSlc 1 v12 v16) fun v => k v H11) H11 fun v17 H12 =>
 gd v5 true (fun k => opt (load1 v17 H12) fun v => k v H12) H12 fun v18 H13 =>
 gd v5 true (fun k => E.call (E.fid i.f0) [v11, v18] H13 fun v h => k v h) H13 fun v19 H14 =>
 opt (pick v5 v19 (.bool false)) fun v20 =>
 ifB v20 (
 opt (binInt .add v2 (.int .i64 1)) fun v21 =>
 F.f44_j1 E Q X0 t0 t2 t3 t8 v21 H14) (
 F.f44_j1 E Q X0 t0 t2 t3 t8 v2 H14))
/-- slices.siftDownOrdered[string] -/
def F.f44 (E : Sy) (x0 x1 x2 x3 : Value) (H : AH) (Q : Value → AH → Prop) : Prop :=
 LoopL (fun l H X0 => F.f44_l1 E Q (nth l 0) (nth l 1) (nth l 2) (nth l 3) H X0) [x0, x2, x3, x1] H

/-- slices.nextPowerOfTwo -/
def F.f37 (E : Sy) (x0 : Value) (H : AH) (Q : Value → AH → Prop) : Prop :=
 opt (convInt .u64 x0) fun v1 =>
 E.call (E.fid i.f15) [v1] H fun v2 H1 =>
 opt (binInt .shl (.int .u64 1) v2) fun v3 =>
 Q v3 H1

/-- (*slices.xorshift).Next -/
def F.f45 (E : Sy) (x0 : Value) (H : AH) (Q : Value → AH → Prop) : Prop :=
 opt (nilCk x0) fun v1 =>
 opt (load1 v1 H) fun v2 =>
 opt (nilCk x0) fun v3 =>
 opt (load1 v3 H) fun v4 =>
 opt (binInt .shl v4 (.int .u64 13)) fun v5 =>
 opt (binInt .xor v2 v5) fun v6 =>
 opt (nilCk x0) fun v7 =>
 opt (store1 v7 v6 H) fun H1 =>
 opt (nilCk x0) fun v8 =>
 opt (load1 v8 H1) fun v9 =>
 opt (nilCk x0) fun v10 =>
 opt (load1 v10 H1) fun v11 =>
 opt (binInt .shr v11 (.int .u64 7)) fun v12 =>
 opt (binInt .xor v9 v12) fun v13 =>
 opt (nilCk x0) fun v14 =>
 opt (store1 v14 v13 H1) fun H2 =>
 opt (nilCk x0) fun v15 =>
 opt (load1 v15 H2) fun v16 =>
 opt (nilCk x0) fun v17 =>
 opt (load1 v17 H2) fun v18 =>
 opt (binInt .shl v18 (.int .u64 17)) fun v19 =>
 opt (binInt .xor v16 v19) fun v20 =>
 opt (nilCk x0) fun v21 =>
 opt (store1 v21 v20 H2) fun H3 =>
 opt (nilCk x0) fun v22 =>
 opt (load1 v22 H3) fun v23 =>
 Q v23 H3

/-- slices.medianAdjacentOrdered[string] -/
def F.f35 (E : Sy) (x0 x1 x2 : Value) (H : AH) (Q : Value → AH → Prop) : Prop :=
 opt (binInt .sub x1 (.int .i64 1)) fun v1 =>
 opt (binInt .add x1 (.int .i64 1)) fun v2 =>
 E.call (E.fid i.f36) [x0, v1, x1, v2, x2] H fun v3 H1 =>
 Q v3 H1

/-- slices.medianOrdered[string] -/
def F.f36 (E : Sy) (x0 x1 x2 x3 x4 : Value) (H : AH) (Q : Value → AH → Prop) : Prop :=
 E.call (E.fid i.f38) [x0, x1, x2, x4] H fun v1 H1 =>
 opt (ext v1 0) fun v2 =>
 opt (ext v1 1) fun v3 =>
 E.call (E.fid i.f38) [x0, v3, x3, x4] H1 fun v4 H2 =>
 opt (ext v4 0) fun v5 =>
 opt (ext v4 1) fun v6 =>
 E.call (E.fid i.f38) [x0, v2, v5, x4] H2 fun v7 H3 =>
 opt (ext v7 0) fun v8 =>
 opt (ext v7 1) fun v9 =>
 Q v9 H3

/-- cmp.isNaN[string] -/
def F.f1 (E : Sy) (x0 : Value) (H : AH) (Q : Value → AH → Prop) : Prop :=
 opt (binStr .neq x0 x0) fun v1 =>
 Q v1 H

/-- slices.order2Ordered[string] -/
def F.f38 (E : Sy) (x0 x1 x2 x3 : Value) (H : AH) (Q : Value → AH → Prop) : Prop :=
 opt (ixSlc 1 x0 x2) fun v1 =>
 opt (load1 v1 H) fun v2 =>
 opt (ixSlc 1 x0 x1) fun v3 =>
 opt (load1 v3 H) fun v4 =>
 E.call (E.fid i.f0) [v2, v4] H fun v5 H1 =>
 ifB v5 (
 opt (nilCk x3) fun v6 =>
 opt (load1 v6 H1) fun v7 =>
 opt (binInt .add v7 (.int .i64 1)) fun v8 =>
 opt (nilCk x3) fun v9 =>
 opt (store1 v9 v8 H1) fun H2 =>
 Q (.tuple #[x2, x1]) H2) (
 Q (.tuple #[x1, x2]) H1)
/-- Calls that may be answered by what the functions do. -/
structure Fold (E : Sy) : Prop where
  mono : MonoC E.call
  f19 : ∀ (x0 x1 : Value) (H : AH) (Q : Value → AH → Prop), F.f19 E x0 x1 H Q → E.call (E.fid i.f19) [x0, x1] H Q
  f18 : ∀ (H : AH) (Q : Value → AH → Prop), F.f18 E H Q → E.call (E.fid i.f18) [] H Q
  f4 : ∀ (x0 : Value) (H : AH) (Q : Value → AH → Prop), F.f4 E x0 H Q → E.call (E.fid i.f4) [x0] H Q
  f21 : ∀ (x0 : Value) (H : AH) (Q : Value → AH → Prop), F.f21 E x0 H Q → E.call (E.fid i.f21) [x0] H Q
  f10 : ∀ (x0 x1 x2 x3 x4 : Value) (H : AH) (Q : Value → AH → Prop), F.f10 E x0 x1 x2 x3 x4 H Q → E.call (E.fid i.f10) [x0, x1, x2, x3, x4] H Q
  f23 : ∀ (x0 x1 x2 x3 x4 : Value) (H : AH) (Q : Value → AH → Prop), F.f23 E x0 x1 x2 x3 x4 H Q → E.call (E.fid i.f23) [x0, x1, x2, x3, x4] H Q
  f7 : ∀ (x0 x1 : Value) (H : AH) (Q : Value → AH → Prop), F.f7 E x0 x1 H Q → E.call (E.fid i.f7) [x0, x1] H Q
  f2 : ∀ (x0 : Value) (H : AH) (Q : Value → AH → Prop), F.f2 E x0 H Q → E.call (E.fid i.f2) [x0] H Q
  f20 : ∀ (x0 : Value) (H : AH) (Q : Value → AH → Prop), F.f20 E x0 H Q → E.call (E.fid i.f20) [x0] H Q
  f5 : ∀ (x0 x1 x2 x3 : Value) (H : AH) (Q : Value → AH → Prop), F.f5 E x0 x1 x2 x3 H Q → E.call (E.fid i.f5) [x0, x1, x2, x3] H Q
  f6 : ∀ (x0 x1 x2 x3 : Value) (H : AH) (Q : Value → AH → Prop), F.f6 E x0 x1 x2 x3 H Q → E.call (E.fid i.f6) [x0, x1, x2, x3] H Q
  f8 : ∀ (x0 x1 : Value) (H : AH) (Q : Value → AH → Prop), F.f8 E x0 x1 H Q → E.call (E.fid i.f8) [x0, x1] H Q
  f13 : ∀ (x0 x1 x2 : Value) (H : AH) (Q : Value → AH → Prop), F.f13 E x0 x1 x2 H Q → E.call (E.fid i.f13) [x0, x1, x2] H Q
  f11 : ∀ (x0 x1 : Value) (H : AH) (Q : Value → AH → Prop), F.f11 E x0 x1 H Q → E.call (E.fid i.f11) [x0, x1] H Q
  f49 : ∀ (x0 x1 : Value) (H : AH) (Q : Value → AH → Prop), F.f49 E x0 x1 H Q → E.call (E.fid i.f49) [x0, x1] H Q
  f27 : ∀ (x0 x1 x2 : Value) (H : AH) (Q : Value → AH → Prop), F.f27 E x0 x1 x2 H Q → E.call (E.fid i.f27) [x0, x1, x2] H Q
  f22 : ∀ (x0 : Value) (H : AH) (Q : Value → AH → Prop), F.f22 E x0 H Q → E.call (E.fid i.f22) [x0] H Q
  f25 : ∀ (x0 x1 : Value) (H : AH) (Q : Value → AH → Prop), F.f25 E x0 x1 H Q → E.call (E.fid i.f25) [x0, x1] H Q
  f29 : ∀ (x0 x1 : Value) (H : AH) (Q : Value → AH → Prop), F.f29 E x0 x1 H Q → E.call (E.fid i.f29) [x0, x1] H Q
  f12 : ∀ (x0 x1 : Value) (H : AH) (Q : Value → AH → Prop), F.f12 E x0 x1 H Q → E.call (E.fid i.f12) [x0, x1] H Q
  f30 : ∀ (x0 : Value) (H : AH) (Q : Value → AH → Prop), F.f30 E x0 H Q → E.call (E.fid i.f30) [x0] H Q
  f46 : ∀ (x0 x1 : Value) (H : AH) (Q : Value → AH → Prop), F.f46 E x0 x1 H Q → E.call (E.fid i.f46) [x0, x1] H Q
  f3 : ∀ (x0 : Value) (H : AH) (Q : Value → AH → Prop), F.f3 E x0 H Q → E.call (E.fid i.f3) [x0] H Q
  f9 : ∀ (x0 x1 x2 : Value) (H : AH) (Q : Value → AH → Prop), F.f9 E x0 x1 x2 H Q → E.call (E.fid i.f9) [x0, x1, x2] H Q
  f14 : ∀ (x0 x1 : Value) (H : AH) (Q : Value → AH → Prop), F.f14 E x0 x1 H Q → E.call (E.fid i.f14) [x0, x1] H Q
  f26 : ∀ (x0 x1 : Value) (H : AH) (Q : Value → AH → Prop), F.f26 E x0 x1 H Q → E.call (E.fid i.f26) [x0, x1] H Q
  f24 : ∀ (x0 x1 : Value) (H : AH) (Q : Value → AH → Prop), F.f24 E x0 x1 H Q → E.call (E.fid i.f24) [x0, x1] H Q
  f28 : ∀ (x0 x1 : Value) (H : AH) (Q : Value → AH → Prop), F.f28 E x0 x1 H Q → E.call (E.fid i.f28) [x0, x1] H Q
  f15 : ∀ (x0 : Value) (H : AH) (Q : Value → AH → Prop), F.f15 E x0 H Q → E.call (E.fid i.f15) [x0] H Q
  f42 : ∀ (x0 x1 x2 x3 : Value) (H : AH) (Q : Value → AH → Prop), F.f42 E x0 x1 x2 x3 H Q → E.call (E.fid i.f42) [x0, x1, x2, x3] H Q
  f47 : ∀ (x0 x1 x2 : Value) (H : AH) (Q : Value → AH → Prop), F.f47 E x0 x1 x2 H Q → E.call (E.fid i.f47) [x0, x1, x2] H Q
  f16 : ∀ (x0 : Value) (H : AH) (Q : Value → AH → Prop), F.f16 E x0 H Q → E.call (E.fid i.f16) [x0] H Q
  f17 : ∀ (x0 : Value) (H : AH) (Q : Value → AH → Prop), F.f17 E x0 H Q → E.call (E.fid i.f17) [x0] H Q
  f34 : ∀ (x0 x1 x2 : Value) (H : AH) (Q : Value → AH → Prop), F.f34 E x0 x1 x2 H Q → E.call (E.fid i.f34) [x0, x1, x2] H Q
  f33 : ∀ (x0 x1 x2 : Value) (H : AH) (Q : Value → AH → Prop), F.f33 E x0 x1 x2 H Q → E.call (E.fid i.f33) [x0, x1, x2] H Q
  f31 : ∀ (x0 x1 x2 : Value) (H : AH) (Q : Value → AH → Prop), F.f31 E x0 x1 x2 H Q → E.call (E.fid i.f31) [x0, x1, x2] H Q
  f32 : ∀ (x0 x1 x2 : Value) (H : AH) (Q : Value → AH → Prop), F.f32 E x0 x1 x2 H Q → E.call (E.fid i.f32) [x0, x1, x2] H Q
  f43 : ∀ (x0 x1 x2 : Value) (H : AH) (Q : Value → AH → Prop), F.f43 E x0 x1 x2 H Q → E.call (E.fid i.f43) [x0, x1, x2] H Q
  f39 : ∀ (x0 x1 x2 : Value) (H : AH) (Q : Value → AH → Prop), F.f39 E x0 x1 x2 H Q → E.call (E.fid i.f39) [x0, x1, x2] H Q
  f0 : ∀ (x0 x1 : Value) (H : AH) (Q : Value → AH → Prop), F.f0 E x0 x1 H Q → E.call (E.fid i.f0) [x0, x1] H Q
  f40 : ∀ (x0 x1 x2 x3 : Value) (H : AH) (Q : Value → AH → Prop), F.f40 E x0 x1 x2 x3 H Q → E.call (E.fid i.f40) [x0, x1, x2, x3] H Q
  f41 : ∀ (x0 x1 x2 x3 : Value) (H : AH) (Q : Value → AH → Prop), F.f41 E x0 x1 x2 x3 H Q → E.call (E.fid i.f41) [x0, x1, x2, x3] H Q
  f44 : ∀ (x0 x1 x2 x3 : Value) (H : AH) (Q : Value → AH → Prop), F.f44 E x0 x1 x2 x3 H Q → E.call (E.fid i.f44) [x0, x1, x2, x3] H Q
  f37 : ∀ (x0 : Value) (H : AH) (Q : Value → AH → Prop), F.f37 E x0 H Q → E.call (E.fid i.f37) [x0] H Q
  f45 : ∀ (x0 : Value) (H : AH) (Q : Value → AH → Prop), F.f45 E x0 H Q → E.call (E.fid i.f45) [x0] H Q
  f35 : ∀ (x0 x1 x2 : Value) (H : AH) (Q : Value → AH → Prop), F.f35 E x0 x1 x2 H Q → E.call (E.fid i.f35) [x0, x1, x2] H Q
  f36 : ∀ (x0 x1 x2 x3 x4 : Value) (H : AH) (Q : Value → AH → Prop), F.f36 E x0 x1 x2 x3 x4 H Q → E.call (E.fid i.f36) [x0, x1, x2, x3, x4] H Q
  f1 : ∀ (x0 : Value) (H : AH) (Q : Value → AH → Prop), F.f1 E x0 H Q → E.call (E.fid i.f1) [x0] H Q
  f38 : ∀ (x0 x1 x2 x3 : Value) (H : AH) (Q : Value → AH → Prop), F.f38 E x0 x1 x2 x3 H Q → E.call (E.fid i.f38) [x0, x1, x2, x3] H Q
  f48 : ∀ (x0 x1 : Value) (H : AH) (Q : Value → AH → Prop), atomicAdd x0 x1 H Q → E.call (E.fid i.f48) [x0, x1] H Q
end Go.AM
