/- THE FUNCTIONS, HELD AGAINST THE PROGRAM: written by program (gen2.py). -/
import Derived.Test.YtakplbkhbalfoaaF
import Derived.Test.YtakplbkhbalfoaaProg
import Derived.KernelRfl
set_option linter.all false
set_option linter.unusedVariables false
set_option maxRecDepth 100000
set_option maxHeartbeats 4000000
namespace Go.Proofs.Ytakplbkhbalfoaa
open Go.AM
attribute [local irreducible] evD obls
def fidL : List Nat := [0, 0, 0, 0, 0, 0, 0, 0, 0, 0, 0, 0, 0, 0, 0, 0, 0, 0, 0, 0, 0, 0, 0, 0, 0, 0, 0, 0, 0, 0, 0, 0, 0, 0, 0, 0, 0, 0, 0, 0, 0, 0, 0, 0, 0, 0, 0, 0, 0, 0, 0, 0, 0, 0, 0, 0, 0, 0, 0, 0, 0, 0, 0, 0, 0, 0, 0, 0, 0, 0, 0, 0, 0, 0, 0, 0, 0, 0, 18, 0, 0, 0, 0, 0, 0, 0, 0, 0, 0, 0, 0, 0, 0, 0, 0, 0, 0, 0, 3, 9, 10, 11, 12, 14, 15, 13, 4, 16, 17, 5, 19, 20, 21, 22, 6, 23, 24, 25, 26, 27, 7, 28, 29, 30, 31, 32, 8, 33, 34, 35, 36, 37, 38, 39, 40, 41, 42, 43, 44, 47, 46, 48, 49, 50, 51, 52, 54, 53, 56, 57, 58, 59, 60, 61, 62, 63, 45, 65, 64, 66, 67, 55, 68, 69, 79, 80, 70, 71, 73, 76, 77, 78, 75, 74, 72, 81, 82, 84, 87, 88, 89, 86, 85, 83, 90, 91, 92, 94, 93, 95, 96, 98, 97, 99, 100, 101]
def tidL : List Nat := []
def sy (c : CallT) : Sy := { call := c, fid := fun n => fidL.getD n 0, tid := fun n => tidL.getD n 0 }
def kp.pinfoldlaw16_InodeHeld : Keep := { keep := fun n => [[0, 1, 2, 3], [0, 1, 2, 3], [], [0, 1, 2, 3], [], [0, 1, 2, 3], [0, 1, 2, 3, 9], [0, 1, 2, 3, 9, 10], [0, 1, 2, 3, 9], [0, 1, 2, 3, 9, 10], [0, 1, 2, 3, 9, 11, 12], [1, 2, 3, 9, 11, 12, 13], [1, 2, 3, 9, 11, 12, 13, 37, 38], [1, 2, 3, 9, 11, 12, 13, 37, 38], [1, 2, 3, 9, 11, 12, 13, 37, 38], [1, 2, 3, 9, 11, 12, 13], [1, 2, 3, 9, 11, 12, 13], [1, 2, 3, 9, 11, 12, 13], [1, 2, 3, 9, 11, 12, 13, 14], [1, 2, 3, 9, 11, 12, 13, 14, 15], [], [1, 2, 3, 9, 11, 13, 15], [1, 2, 3, 9, 11, 13, 15, 17], [], [9, 11, 13], [9, 11, 13, 124, 125], [9, 11, 13, 124, 125], [9, 11, 13, 18, 124, 125], [], [9, 11, 13, 124, 125], [9, 11], [9, 11, 19, 20]].getD n [], order := fun n => [[], [], [], [], [], [], [], [], [], [], [], [], [], [], [], [], [], [], [], [], [], [], [(0, 0), (1, 1), (2, 3), (3, 7), (4, 15), (5, 31), (6, 63), (7, 127), (8, 255), (9, 511), (10, 1023), (11, 2047), (12, 4095), (13, 511), (14, 16383), (15, 32767), (16, 65535), (17, 131071), (18, 262143), (19, 524287), (20, 1048575), (21, 2097151), (22, 4194303), (23, 8388607), (24, 16777215), (25, 33554431), (26, 67108863), (27, 134217727), (28, 268435455), (29, 16777215), (30, 553648127), (31, 1627389951), (32, 16777215), (33, 8069840895), (34, 16659775487), (35, 34359738367), (36, 68719476735), (37, 137438953471), (38, 274877906943), (39, 549755813887), (40, 1099511627775), (41, 2199023255551), (42, 4398046511103), (43, 8796093022207), (44, 17592186044415), (45, 35184372088831), (46, 70368744177663)]].getD n [] }
def pl.pinfoldlaw16_InodeHeld (c : CallT) (Q : Value → AH → Prop) : Plan := [
  (524282, fun S T H => F.pinfoldlaw16_InodeHeld_l2 (sy c) Q (T 9) (T 11) (T 13) (T 124) (T 125) H (S 0)),
  (2047, fun S T H => F.pinfoldlaw16_InodeHeld_j2 (sy c) Q (T 1) (T 2) (T 3) (T 9) (T 11) (T 12) (T 13) H),
  (4090, fun S T H => F.pinfoldlaw16_InodeHeld_l1 (sy c) Q (T 1) (T 2) (T 3) (T 9) (T 11) (T 12) (T 13) (T 37) (T 38) H (S 0)),
  (127, fun S T H => F.pinfoldlaw16_InodeHeld_j1 (sy c) Q (T 0) (T 1) (T 2) (T 3) (T 9) (T 10) H)]
theorem L.pinfoldlaw16_InodeHeld (c : CallT) (x0 x1 x2 x3 : Value) (H : AH) (Q : Value → AH → Prop) (h : F.pinfoldlaw16_InodeHeld (sy c) x0 x1 x2 x3 H Q) : evBody Try.prog c kp.pinfoldlaw16_InodeHeld Try.f3 [x0, x1, x2, x3] H Q :=
  evBody_of (pl := pl.pinfoldlaw16_InodeHeld c Q) Try.f3 _ H Q (bodyOf Try.f3) (by kernel_rfl) (by kernel_rfl) (by kernel_rfl) h

def kp.pinfoldlaw16_InodeFull : Keep := { keep := fun n => [[0], [0], [], [0], [0, 5], [0, 5, 6], [0, 5, 6, 8], [5, 6, 8, 10], [5, 6, 8, 10, 36, 37], [5, 6, 8, 10, 36, 37], [5, 6, 8, 10, 11, 36, 37], [5, 6, 8, 10, 11, 13, 36, 37], [], [5, 6, 8, 10, 36, 37], [5, 6, 8, 10], [5, 6, 8, 10, 14], [5, 6, 8, 10, 14, 15], [5, 6, 10, 14, 15, 16], [5, 6, 10, 14, 15, 16, 17], [10, 14, 15, 16, 17, 18], [15, 16, 17, 18], [10, 15, 16, 17, 18]].getD n [], order := fun n => [].getD n [] }
def pl.pinfoldlaw16_InodeFull (c : CallT) (Q : Value → AH → Prop) : Plan := [
  (1018, fun S T H => F.pinfoldlaw16_InodeFull_l1 (sy c) Q (T 5) (T 6) (T 8) (T 10) (T 36) (T 37) H (S 0))]
theorem L.pinfoldlaw16_InodeFull (c : CallT) (x0 x1 : Value) (H : AH) (Q : Value → AH → Prop) (h : F.pinfoldlaw16_InodeFull (sy c) x0 x1 H Q) : evBody Try.prog c kp.pinfoldlaw16_InodeFull Try.f4 [x0, x1] H Q :=
  evBody_of (pl := pl.pinfoldlaw16_InodeFull c Q) Try.f4 _ H Q (bodyOf Try.f4) (by kernel_rfl) (by kernel_rfl) (by kernel_rfl) h

def kp.pinfoldlaw16_InodeNames : Keep := { keep := fun n => [[0, 1], [0, 1], [], [0, 1], [], [0, 1], [0, 1, 5], [0, 1, 5, 6], [0, 5, 6, 28, 29, 30], [0, 5, 6, 28, 29, 30], [0, 5, 6, 8, 28, 29, 30], [0, 5, 6, 8, 9, 10, 28, 29, 30], [0, 5, 6, 9, 10, 11, 12, 28, 29, 30], [], [0, 5, 6, 28, 29, 30], [0, 5, 6], [0, 5, 6, 13, 14], [], [0, 5, 6, 13], [0, 5, 6, 13, 76, 77, 78], [0, 5, 6, 13, 76, 77, 78], [0, 5, 6, 13, 15, 16, 76, 77, 78], [], [0, 5, 6, 13, 76, 77, 78], [0, 5, 13], [0, 5, 13, 18], [0, 13, 18, 20]].getD n [], order := fun n => [].getD n [] }
def pl.pinfoldlaw16_InodeNames (c : CallT) (Q : Value → AH → Prop) : Plan := [
  (4090, fun S T H => F.pinfoldlaw16_InodeNames_l2 (sy c) Q (T 0) (T 5) (T 6) (T 13) (T 76) (T 77) (T 78) H (S 0)),
  (506, fun S T H => F.pinfoldlaw16_InodeNames_l1 (sy c) Q (T 0) (T 5) (T 6) (T 28) (T 29) (T 30) H (S 0))]
theorem L.pinfoldlaw16_InodeNames (c : CallT) (x0 x1 : Value) (H : AH) (Q : Value → AH → Prop) (h : F.pinfoldlaw16_InodeNames (sy c) x0 x1 H Q) : evBody Try.prog c kp.pinfoldlaw16_InodeNames Try.f5 [x0, x1] H Q :=
  evBody_of (pl := pl.pinfoldlaw16_InodeNames c Q) Try.f5 _ H Q (bodyOf Try.f5) (by kernel_rfl) (by kernel_rfl) (by kernel_rfl) h

def kp.pinfoldlaw16_InodeDeep : Keep := { keep := fun n => [[0, 1, 2], [0, 1, 2], [], [0, 1, 2], [0, 1, 2, 7, 8], [0, 1, 2, 7, 8, 9], [1, 2, 7, 8, 9, 31, 32], [1, 2, 7, 8, 9, 31, 32], [1, 2, 7, 8, 9, 10, 11, 31, 32], [1, 2, 7, 8, 10, 11, 12, 13, 31, 32], [], [1, 2, 7, 8, 11, 12, 31, 32], [1, 2, 7, 8, 12, 31, 32], [1, 2, 7, 8, 9, 31, 32], [1, 2, 7, 8], [1, 2, 7, 8, 14], [1, 2, 7, 8, 14, 60], [1, 2, 7, 8, 14, 60], [1, 2, 7, 8, 14, 15, 16, 60], [1, 2, 7, 8, 15, 16, 17, 18, 60], [], [1, 2, 7, 8, 17, 60], [1, 2, 7, 8, 14, 60], [1, 2, 7, 8], [7, 8, 19, 20], [7, 8, 19, 20, 108, 109, 110], [7, 8, 19, 20, 108, 109, 110], [7, 8, 19, 20, 22, 108, 109, 110], [], [7, 8, 19, 20, 108, 109, 110], [7, 8, 19, 20], [7, 8, 19, 20, 130, 131, 132], [7, 8, 19, 20, 130, 131, 132], [7, 8, 19, 20, 24, 130, 131, 132], [], [7, 8, 19, 20, 130, 131, 132], []].getD n [], order := fun n => [[], [], [], [], [], [], [], [], [], [], [], [], [], [], [], [], [], [], [], [], [], [], [], [(0, 0), (1, 1), (2, 0), (6, 0), (7, 64), (8, 0), (3, 4), (4, 15), (5, 31), (9, 268), (10, 972), (11, 1996), (12, 831), (13, 8191)], [], [], [], [(0, 0), (1, 0), (2, 2), (3, 6), (4, 0), (5, 16), (6, 48), (8, 0), (9, 0), (10, 512), (11, 0), (12, 2048), (7, 127), (13, 8191), (14, 16383)]].getD n [] }
def pl.pinfoldlaw16_InodeDeep (c : CallT) (Q : Value → AH → Prop) : Plan := [
  (8186, fun S T H => F.pinfoldlaw16_InodeDeep_l3 (sy c) Q (T 7) (T 8) (T 19) (T 20) (T 130) (T 131) (T 132) H (S 0)),
  (4090, fun S T H => F.pinfoldlaw16_InodeDeep_l2 (sy c) Q (T 7) (T 8) (T 19) (T 20) (T 108) (T 109) (T 110) H (S 0)),
  (1018, fun S T H => F.pinfoldlaw16_InodeDeep_l1 (sy c) Q (T 1) (T 2) (T 7) (T 8) (T 14) (T 60) H (S 0)),
  (63, fun S T H => F.pinfoldlaw16_InodeDeep_j1 (sy c) Q (T 1) (T 2) (T 7) (T 8) H),
  (250, fun S T H => F.pinfoldlaw16_InodeDeep_l4 (sy c) Q (T 1) (T 2) (T 7) (T 8) (T 9) (T 31) (T 32) H (S 0))]
theorem L.pinfoldlaw16_InodeDeep (c : CallT) (x0 x1 x2 : Value) (H : AH) (Q : Value → AH → Prop) (h : F.pinfoldlaw16_InodeDeep (sy c) x0 x1 x2 H Q) : evBody Try.prog c kp.pinfoldlaw16_InodeDeep Try.f6 [x0, x1, x2] H Q :=
  evBody_of (pl := pl.pinfoldlaw16_InodeDeep c Q) Try.f6 _ H Q (bodyOf Try.f6) (by kernel_rfl) (by kernel_rfl) (by kernel_rfl) h

def kp.pinfoldlaw16_InodeNone : Keep := { keep := fun n => [[0, 1, 2, 3, 4], [0, 1, 2, 3, 4], [], [0, 1, 2, 3, 4], [0, 1, 2, 3, 4, 11], [1, 2, 3, 4, 11, 12], [1, 2, 3, 4, 11, 12, 14], [1, 2, 3, 4, 11, 12, 14, 16], [1, 2, 3, 4, 11, 12, 14, 16, 18]].getD n [], order := fun n => [].getD n [] }
theorem L.pinfoldlaw16_InodeNone (c : CallT) (x0 x1 x2 x3 x4 : Value) (H : AH) (Q : Value → AH → Prop) (h : F.pinfoldlaw16_InodeNone (sy c) x0 x1 x2 x3 x4 H Q) : evBody Try.prog c kp.pinfoldlaw16_InodeNone Try.f7 [x0, x1, x2, x3, x4] H Q :=
  evBody_of (pl := []) Try.f7 _ H Q (bodyOf Try.f7) (by kernel_rfl) (by kernel_rfl) (by kernel_rfl) h

def kp.pinfoldlaw16_InodeSpots : Keep := { keep := fun n => [[0], [0], [], [0], [], [0], [0, 3, 4], [3, 4, 21, 22, 23], [3, 4, 21, 22, 23], [3, 4, 5, 6, 21, 22, 23], [3, 4, 6, 21, 22, 23], [3, 4, 6, 21, 22, 23], [3, 4, 21, 22, 23], [3, 4], [3, 4, 36], [3, 4, 36], [3, 4, 7, 36], [3, 4, 7, 8, 36], [3, 4, 7, 8, 9, 36], [3, 4, 7, 8, 9, 36, 47, 48], [3, 4, 7, 8, 9, 36, 47, 48], [3, 4, 7, 8, 9, 10, 36, 47, 48], [3, 4, 7, 8, 9, 10, 36, 47, 48, 58, 59, 60], [3, 4, 7, 8, 9, 10, 36, 47, 48, 58, 59, 60], [3, 4, 7, 8, 9, 10, 12, 36, 47, 48, 58, 59, 60], [3, 4, 7, 8, 9, 10, 12, 36, 47, 48, 58, 59, 60], [], [3, 4, 7, 8, 9, 10, 36, 47, 48, 58, 59, 60], [3, 4, 7, 8, 9, 10, 36, 47, 48, 58, 59, 60], [3, 4, 7, 8, 9, 36, 47, 48], [3, 4, 7, 8, 9, 36], [3, 4, 7, 8, 9, 13, 36], [], [3, 4, 36], []].getD n [], order := fun n => [[], [], [], [], [], [], [], [], [], [], [], [], [], [], [], [], [], [], [], [], [], [], [], [], [], [(0, 0), (1, 0), (2, 2), (3, 7), (4, 15), (5, 31), (6, 31), (7, 127), (8, 255), (9, 511), (10, 1023), (11, 31), (12, 4095), (13, 8191), (14, 16383), (15, 32767), (16, 32767), (17, 131071), (18, 262143), (19, 524287), (20, 32767), (21, 1081343), (22, 4194303), (23, 8388607)]].getD n [] }
def pl.pinfoldlaw16_InodeSpots (c : CallT) (Q : Value → AH → Prop) : Plan := [
  (265501286, fun S T H => F.pinfoldlaw16_InodeSpots_l4 (sy c) Q (S 2) (S 1) (T 3) (T 4) (T 7) (T 8) (T 9) (T 10) (T 36) (T 47) (T 48) (T 58) (T 59) (T 60) H (S 0)),
  (1037114, fun S T H => F.pinfoldlaw16_InodeSpots_l3 (sy c) Q (S 1) (T 3) (T 4) (T 7) (T 8) (T 9) (T 36) (T 47) (T 48) H (S 0)),
  (506, fun S T H => F.pinfoldlaw16_InodeSpots_l2 (sy c) Q (T 3) (T 4) (T 36) H (S 0)),
  (250, fun S T H => F.pinfoldlaw16_InodeSpots_l1 (sy c) Q (T 3) (T 4) (T 21) (T 22) (T 23) H (S 0))]
theorem L.pinfoldlaw16_InodeSpots (c : CallT) (x0 : Value) (H : AH) (Q : Value → AH → Prop) (h : F.pinfoldlaw16_InodeSpots (sy c) x0 H Q) : evBody Try.prog c kp.pinfoldlaw16_InodeSpots Try.f8 [x0] H Q :=
  evBody_of (pl := pl.pinfoldlaw16_InodeSpots c Q) Try.f8 _ H Q (bodyOf Try.f8) (by kernel_rfl) (by kernel_rfl) (by kernel_rfl) h

def kp.pinfoldlaw16_Awake : Keep := { keep := fun n => [[], [], [1], [1, 2, 3], [1, 2, 3, 4], [1, 2, 3, 4, 5], [2, 3, 4, 5, 6]].getD n [], order := fun n => [].getD n [] }
theorem L.pinfoldlaw16_Awake (c : CallT) (H : AH) (Q : Value → AH → Prop) (h : F.pinfoldlaw16_Awake (sy c) H Q) : evBody Try.prog c kp.pinfoldlaw16_Awake Try.f9 [] H Q :=
  evBody_of (pl := []) Try.f9 _ H Q (bodyOf Try.f9) (by kernel_rfl) (by kernel_rfl) (by kernel_rfl) h

def kp.inode_New : Keep := { keep := fun n => [[0], [0], [3], [3]].getD n [], order := fun n => [].getD n [] }
theorem L.inode_New (c : CallT) (x0 : Value) (H : AH) (Q : Value → AH → Prop) (h : F.inode_New (sy c) x0 H Q) : evBody Try.prog c kp.inode_New Try.f10 [x0] H Q :=
  evBody_of (pl := []) Try.f10 _ H Q (bodyOf Try.f10) (by kernel_rfl) (by kernel_rfl) (by kernel_rfl) h

def kp.inode_Table_Make : Keep := { keep := fun n => [[0, 1, 2, 3, 4], [0, 1, 2, 3, 4], [0, 1, 2, 3, 4, 12, 13], [13], [0, 1, 2, 3, 4, 12], [], [0, 1, 2, 3, 4, 12], [], [0, 1, 2, 3, 4, 12], [], [0, 1, 2, 3, 4, 12], [], [0, 1, 2, 3, 4, 12], [0, 1, 2, 3, 4, 12, 14], [0, 1, 2, 3, 4, 12, 14], [0, 1, 2, 3, 4, 12, 14], [0, 1, 2, 3, 4, 12, 14, 15], [0, 1, 2, 4, 12, 14, 15, 80], [0, 1, 2, 12, 14, 15], [0, 2, 4, 12, 14, 15, 80], [0, 2, 4, 12, 14, 15], [0, 2, 12, 14, 15], [0, 2, 12, 14], [0, 14], [14]].getD n [], order := fun n => [[], [], [], [], [], [], [], [], [(0, 0), (1, 1), (2, 3), (3, 7), (4, 15), (5, 0), (6, 32), (7, 96), (8, 224), (9, 511), (10, 1023)]].getD n [] }
def pl.inode_Table_Make (c : CallT) (Q : Value → AH → Prop) : Plan := [
  (255, fun S T H => F.inode_Table_Make_j1 (sy c) Q (T 0) (T 2) (T 12) (T 14) (T 15) H),
  (124, fun S T H => F.inode_Table_Make_l1 (sy c) Q (T 0) (T 1) (T 2) (T 3) (T 4) (T 12) (T 14) H (S 0))]
theorem L.inode_Table_Make (c : CallT) (x0 x1 x2 x3 x4 : Value) (H : AH) (Q : Value → AH → Prop) (h : F.inode_Table_Make (sy c) x0 x1 x2 x3 x4 H Q) : evBody Try.prog c kp.inode_Table_Make Try.f11 [x0, x1, x2, x3, x4] H Q :=
  evBody_of (pl := pl.inode_Table_Make c Q) Try.f11 _ H Q (bodyOf Try.f11) (by kernel_rfl) (by kernel_rfl) (by kernel_rfl) h

def kp.inode_Table_Hold : Keep := { keep := fun n => [[0, 1, 2], [0, 1, 2], [0, 1, 2, 7], [], [0, 1, 2, 7], [], [0, 1, 2, 7], [7], [], [0, 1, 7], [0, 1], []].getD n [], order := fun n => [].getD n [] }
theorem L.inode_Table_Hold (c : CallT) (x0 x1 x2 : Value) (H : AH) (Q : Value → AH → Prop) (h : F.inode_Table_Hold (sy c) x0 x1 x2 H Q) : evBody Try.prog c kp.inode_Table_Hold Try.f12 [x0, x1, x2] H Q :=
  evBody_of (pl := []) Try.f12 _ H Q (bodyOf Try.f12) (by kernel_rfl) (by kernel_rfl) (by kernel_rfl) h

def kp.inode_Table_Write : Keep := { keep := fun n => [[0, 1, 2, 3], [0, 1, 2, 3], [0, 2, 3, 9], [], [0, 2, 3, 9], [], [0, 2, 3, 9], [], [0, 2, 3, 9], [], [0, 2, 3, 9], [0, 2, 3, 9, 10], [0, 2, 3, 9, 10], [0, 9, 10], [0], []].getD n [], order := fun n => [].getD n [] }
theorem L.inode_Table_Write (c : CallT) (x0 x1 x2 x3 : Value) (H : AH) (Q : Value → AH → Prop) (h : F.inode_Table_Write (sy c) x0 x1 x2 x3 H Q) : evBody Try.prog c kp.inode_Table_Write Try.f13 [x0, x1, x2, x3] H Q :=
  evBody_of (pl := []) Try.f13 _ H Q (bodyOf Try.f13) (by kernel_rfl) (by kernel_rfl) (by kernel_rfl) h

def kp.inode_Table_Drop : Keep := { keep := fun n => [[0, 1, 2, 3], [0, 1, 2, 3], [0, 1, 2, 3, 9, 10], [10], [0, 1, 2, 3, 9], [0, 1, 2, 3, 9, 11], [], [0, 1, 2, 3, 9, 11], [], [0, 1, 2, 3, 9, 11], [], [0, 1, 2, 9, 11], [0, 9, 11], [0, 9], [0, 9], []].getD n [], order := fun n => [].getD n [] }
theorem L.inode_Table_Drop (c : CallT) (x0 x1 x2 x3 : Value) (H : AH) (Q : Value → AH → Prop) (h : F.inode_Table_Drop (sy c) x0 x1 x2 x3 H Q) : evBody Try.prog c kp.inode_Table_Drop Try.f14 [x0, x1, x2, x3] H Q :=
  evBody_of (pl := []) Try.f14 _ H Q (bodyOf Try.f14) (by kernel_rfl) (by kernel_rfl) (by kernel_rfl) h

def kp.inode_Table_Get : Keep := { keep := fun n => [[0, 1], [0, 1], [], [0, 1]].getD n [], order := fun n => [].getD n [] }
theorem L.inode_Table_Get (c : CallT) (x0 x1 : Value) (H : AH) (Q : Value → AH → Prop) (h : F.inode_Table_Get (sy c) x0 x1 H Q) : evBody Try.prog c kp.inode_Table_Get Try.f15 [x0, x1] H Q :=
  evBody_of (pl := []) Try.f15 _ H Q (bodyOf Try.f15) (by kernel_rfl) (by kernel_rfl) (by kernel_rfl) h

def kp.inode_Table_Move : Keep := { keep := fun n => [[0, 1, 2, 3, 4], [0, 1, 2, 3, 4], [0, 1, 2, 3, 4, 11, 12], [12], [0, 1, 2, 3, 4, 11], [0, 1, 2, 3, 4, 11, 12, 13], [12], [0, 1, 2, 3, 4, 11, 13], [0, 1, 2, 3, 4, 11, 13, 14], [0, 1, 2, 3, 4, 11, 13, 14, 15, 16], [], [0, 1, 2, 3, 4, 11, 13, 14, 15, 16], [], [0, 1, 2, 3, 4, 11, 13, 14, 15, 16], [0, 1, 2, 3, 4, 11, 13, 14, 16, 17], [17], [0, 1, 2, 3, 4, 11, 13, 14, 16], [0, 1, 2, 3, 4, 11, 13, 14], [0, 1, 2, 3, 4, 11, 13, 14, 18], [18], [0, 1, 2, 3, 4, 11, 13, 14], [0, 3, 4, 11, 13, 14], [0, 3, 14], [0, 3, 14], [0], []].getD n [], order := fun n => [].getD n [] }
def pl.inode_Table_Move (c : CallT) (Q : Value → AH → Prop) : Plan := [
  (32767, fun S T H => F.inode_Table_Move_j2 (sy c) Q (T 0) H),
  (4095, fun S T H => F.inode_Table_Move_j1 (sy c) Q (T 0) (T 1) (T 2) (T 3) (T 4) (T 11) (T 13) (T 14) H)]
theorem L.inode_Table_Move (c : CallT) (x0 x1 x2 x3 x4 : Value) (H : AH) (Q : Value → AH → Prop) (h : F.inode_Table_Move (sy c) x0 x1 x2 x3 x4 H Q) : evBody Try.prog c kp.inode_Table_Move Try.f16 [x0, x1, x2, x3, x4] H Q :=
  evBody_of (pl := pl.inode_Table_Move c Q) Try.f16 _ H Q (bodyOf Try.f16) (by kernel_rfl) (by kernel_rfl) (by kernel_rfl) h

def kp.inode_Table_Add : Keep := { keep := fun n => [[0, 1, 2, 3], [0, 1, 2, 3], [0, 1, 2, 3, 9], [0, 2, 3, 9, 10, 11], [], [0, 2, 3, 9, 10, 11], [], [0, 2, 3, 9, 10, 11], [11], [0, 2, 3, 9, 10], [], [0, 2, 3, 9, 10], [], [0, 2, 3, 9, 10], [0, 9], [0], []].getD n [], order := fun n => [].getD n [] }
theorem L.inode_Table_Add (c : CallT) (x0 x1 x2 x3 : Value) (H : AH) (Q : Value → AH → Prop) (h : F.inode_Table_Add (sy c) x0 x1 x2 x3 H Q) : evBody Try.prog c kp.inode_Table_Add Try.f17 [x0, x1, x2, x3] H Q :=
  evBody_of (pl := []) Try.f17 _ H Q (bodyOf Try.f17) (by kernel_rfl) (by kernel_rfl) (by kernel_rfl) h

def kp.pinfoldref16_New : Keep := { keep := fun n => [[0], [0]].getD n [], order := fun n => [].getD n [] }
theorem L.pinfoldref16_New (c : CallT) (x0 : Value) (H : AH) (Q : Value → AH → Prop) (h : F.pinfoldref16_New (sy c) x0 H Q) : evBody Try.prog c kp.pinfoldref16_New Try.f18 [x0] H Q :=
  evBody_of (pl := []) Try.f18 _ H Q (bodyOf Try.f18) (by kernel_rfl) (by kernel_rfl) (by kernel_rfl) h

def kp.pinfoldref16_Tree_Make : Keep := { keep := fun n => [[0, 1, 2, 3, 4], [0, 1, 2, 3, 4], [0, 1, 2, 3, 4, 12], [12], [0, 1, 2, 3, 4], [], [0, 1, 2, 3, 4], [], [0, 1, 2, 3, 4], [0, 1, 2, 3, 4, 13], [0, 1, 2, 3, 4, 13], [0, 1, 2, 3, 4, 13], [0, 1, 2, 3, 4, 13], [0, 1, 2, 3, 4, 13], [0, 1, 2, 3, 4, 13, 14], [0, 1, 2, 3, 4, 13, 14], [0, 1, 2, 3, 4, 13, 14], [0, 1, 2, 4, 13, 14], [0, 1, 2, 13, 14], [0, 1, 2, 13], [0, 13], [13]].getD n [], order := fun n => [[], [], [], [], [], [], [(0, 0), (2, 0), (3, 4), (4, 12), (5, 28), (1, 1), (6, 63), (7, 127), (8, 255), (9, 511), (10, 1023), (11, 2047), (12, 2047), (13, 8191), (14, 16383), (15, 32767), (16, 65535)], [], [], [], [], [], [], [], [], [], [], [], [(0, 0), (1, 1), (2, 3), (3, 7), (4, 0), (5, 0), (6, 63), (7, 127)], [(0, 0), (1, 1), (2, 3), (3, 7), (4, 0), (5, 0), (6, 32), (7, 96), (8, 224), (9, 0), (10, 992), (11, 2016), (12, 4064), (13, 0), (14, 0), (15, 24576), (16, 65504), (17, 131071), (18, 262143), (19, 524287)]].getD n [] }
def pl.pinfoldref16_Tree_Make (c : CallT) (Q : Value → AH → Prop) : Plan := [
  (2047, fun S T H => F.pinfoldref16_Tree_Make_j3 (sy c) Q (T 0) (T 1) (T 2) (T 13) (T 14) H),
  (1023, fun S T H => F.pinfoldref16_Tree_Make_j2 (sy c) Q (T 0) (T 1) (T 2) (T 3) (T 4) (T 13) (T 14) H),
  (255, fun S T H => F.pinfoldref16_Tree_Make_j1 (sy c) Q (T 0) (T 1) (T 2) (T 3) (T 4) (T 13) H),
  (252, fun S T H => F.pinfoldref16_Tree_Make_l1 (sy c) Q (T 0) (T 1) (T 2) (T 3) (T 4) (T 13) H (S 0))]
theorem L.pinfoldref16_Tree_Make (c : CallT) (x0 x1 x2 x3 x4 : Value) (H : AH) (Q : Value → AH → Prop) (h : F.pinfoldref16_Tree_Make (sy c) x0 x1 x2 x3 x4 H Q) : evBody Try.prog c kp.pinfoldref16_Tree_Make Try.f19 [x0, x1, x2, x3, x4] H Q :=
  evBody_of (pl := pl.pinfoldref16_Tree_Make c Q) Try.f19 _ H Q (bodyOf Try.f19) (by kernel_rfl) (by kernel_rfl) (by kernel_rfl) h

def kp.inode_Table_Entries : Keep := { keep := fun n => [[0, 1], [0, 1], [6, 7], [7], [6], [6, 8], [8, 23], [8, 23], [8, 9, 23], [8], [8]].getD n [], order := fun n => [].getD n [] }
def pl.inode_Table_Entries (c : CallT) (Q : Value → AH → Prop) : Plan := [
  (250, fun S T H => F.inode_Table_Entries_l1 (sy c) Q (T 8) (T 23) H (S 0))]
theorem L.inode_Table_Entries (c : CallT) (x0 x1 : Value) (H : AH) (Q : Value → AH → Prop) (h : F.inode_Table_Entries (sy c) x0 x1 H Q) : evBody Try.prog c kp.inode_Table_Entries Try.f20 [x0, x1] H Q :=
  evBody_of (pl := pl.inode_Table_Entries c Q) Try.f20 _ H Q (bodyOf Try.f20) (by kernel_rfl) (by kernel_rfl) (by kernel_rfl) h

def kp.inode_Name : Keep := { keep := fun n => [[0], [0], [], [0]].getD n [], order := fun n => [].getD n [] }
theorem L.inode_Name (c : CallT) (x0 : Value) (H : AH) (Q : Value → AH → Prop) (h : F.inode_Name (sy c) x0 H Q) : evBody Try.prog c kp.inode_Name Try.f21 [x0] H Q :=
  evBody_of (pl := []) Try.f21 _ H Q (bodyOf Try.f21) (by kernel_rfl) (by kernel_rfl) (by kernel_rfl) h

def kp.pinfoldref16_Name : Keep := { keep := fun n => [[0], [0], [0, 3], [0, 3], [0, 3], [], [0]].getD n [], order := fun n => [].getD n [] }
def pl.pinfoldref16_Name (c : CallT) (Q : Value → AH → Prop) : Plan := [
  (26, fun S T H => F.pinfoldref16_Name_l1 (sy c) Q (T 0) (T 3) H (S 0))]
theorem L.pinfoldref16_Name (c : CallT) (x0 : Value) (H : AH) (Q : Value → AH → Prop) (h : F.pinfoldref16_Name (sy c) x0 H Q) : evBody Try.prog c kp.pinfoldref16_Name Try.f22 [x0] H Q :=
  evBody_of (pl := pl.pinfoldref16_Name c Q) Try.f22 _ H Q (bodyOf Try.f22) (by kernel_rfl) (by kernel_rfl) (by kernel_rfl) h

def kp.pinfoldref16_Tree_Len : Keep := { keep := fun n => [[0], [0], [0, 3], [0, 3, 4], [0, 3, 4], [0, 3, 4], [0, 3, 4], [3]].getD n [], order := fun n => [].getD n [] }
def pl.pinfoldref16_Tree_Len (c : CallT) (Q : Value → AH → Prop) : Plan := [
  (58, fun S T H => F.pinfoldref16_Tree_Len_l1 (sy c) Q (T 0) (T 3) (T 4) H (S 0))]
theorem L.pinfoldref16_Tree_Len (c : CallT) (x0 : Value) (H : AH) (Q : Value → AH → Prop) (h : F.pinfoldref16_Tree_Len (sy c) x0 H Q) : evBody Try.prog c kp.pinfoldref16_Tree_Len Try.f23 [x0] H Q :=
  evBody_of (pl := pl.pinfoldref16_Tree_Len c Q) Try.f23 _ H Q (bodyOf Try.f23) (by kernel_rfl) (by kernel_rfl) (by kernel_rfl) h

def kp.inode_Table_Within : Keep := { keep := fun n => [[0, 1, 2], [0, 1, 2], [0, 2, 7], [0, 2, 7, 11], [0, 2, 7, 11], [], [0, 2, 7, 11], [], [0, 2, 7, 11], [], [0, 2, 7, 11], [0, 2, 7, 11], []].getD n [], order := fun n => [[], [], [], [], [], [], [], [], [(0, 0), (1, 1), (2, 3), (3, 7), (4, 0), (5, 16), (6, 48), (7, 112), (8, 255)], [], [(0, 0), (1, 1), (2, 3), (3, 7), (4, 0), (5, 16), (6, 48), (7, 112), (8, 255), (9, 511)]].getD n [] }
def pl.inode_Table_Within (c : CallT) (Q : Value → AH → Prop) : Plan := [
  (58, fun S T H => F.inode_Table_Within_l1 (sy c) Q (T 0) (T 2) (T 7) (T 11) H (S 0))]
theorem L.inode_Table_Within (c : CallT) (x0 x1 x2 : Value) (H : AH) (Q : Value → AH → Prop) (h : F.inode_Table_Within (sy c) x0 x1 x2 H Q) : evBody Try.prog c kp.inode_Table_Within Try.f24 [x0, x1, x2] H Q :=
  evBody_of (pl := pl.inode_Table_Within c Q) Try.f24 _ H Q (bodyOf Try.f24) (by kernel_rfl) (by kernel_rfl) (by kernel_rfl) h

def kp.pinfoldref16_Tree_Within : Keep := { keep := fun n => [[0, 1, 2], [0, 1, 2], [0, 1, 2, 7], [0, 1, 2, 7], [0, 1, 2, 7], [], [0, 1, 2, 7], [], [0, 1, 2, 7], [], [0, 1, 2, 7], []].getD n [], order := fun n => [].getD n [] }
def pl.pinfoldref16_Tree_Within (c : CallT) (Q : Value → AH → Prop) : Plan := [
  (26, fun S T H => F.pinfoldref16_Tree_Within_l1 (sy c) Q (T 0) (T 1) (T 2) (T 7) H (S 0))]
theorem L.pinfoldref16_Tree_Within (c : CallT) (x0 x1 x2 : Value) (H : AH) (Q : Value → AH → Prop) (h : F.pinfoldref16_Tree_Within (sy c) x0 x1 x2 H Q) : evBody Try.prog c kp.pinfoldref16_Tree_Within Try.f25 [x0, x1, x2] H Q :=
  evBody_of (pl := pl.pinfoldref16_Tree_Within c Q) Try.f25 _ H Q (bodyOf Try.f25) (by kernel_rfl) (by kernel_rfl) (by kernel_rfl) h

def kp.pinfoldref16_Tree_Move : Keep := { keep := fun n => [[0, 1, 2, 3, 4], [0, 1, 2, 3, 4], [0, 1, 2, 3, 4, 11, 12], [12], [0, 1, 2, 3, 4, 11], [0, 1, 2, 3, 4, 11, 13], [13], [0, 1, 2, 3, 4, 11], [0, 1, 2, 3, 4, 11, 14], [], [0, 1, 2, 3, 4, 11, 14], [], [0, 1, 2, 3, 4, 11, 14], [], [0, 1, 2, 3, 4, 11, 14], [], [0, 1, 2, 3, 4, 11, 14], [0, 1, 2, 3, 4, 11, 14, 15], [], [0, 1, 2, 3, 4, 11, 14, 15], [], [0, 1, 2, 3, 4, 11, 14, 15], [0, 1, 2, 3, 4, 11, 14, 15], [0, 1, 2, 3, 4, 11, 15, 16], [], [0, 1, 2, 3, 4, 11, 15, 16], [], [0, 1, 2, 3, 4, 11, 15, 16], [], [0, 1, 2, 3, 4, 11, 15], [0, 1, 2, 3, 4, 11, 15], [0, 3, 4, 11, 15], [0, 3, 11, 15], [0, 3, 11], [0], []].getD n [], order := fun n => [[], [], [], [], [], [], [], [], [], [], [], [], [], [], [], [], [], [], [], [], [], [], [], [], [], [], [], [], [], [], [(0, 0), (1, 1), (2, 3), (3, 7), (4, 0), (5, 0), (6, 32), (7, 96), (8, 224), (9, 0), (10, 992), (11, 2016), (12, 4064), (13, 0), (14, 0), (16, 0), (15, 24576), (17, 122880), (18, 262112), (19, 524287), (20, 1048575), (21, 2097151)], [(0, 0), (1, 1), (2, 3), (3, 7), (4, 0), (5, 0), (6, 32), (7, 96), (8, 224), (9, 0), (10, 992), (11, 2016), (12, 4064), (13, 0), (14, 0), (15, 24576), (16, 65504), (17, 131071), (18, 262143), (19, 524287)]].getD n [] }
def pl.pinfoldref16_Tree_Move (c : CallT) (Q : Value → AH → Prop) : Plan := [
  (131071, fun S T H => F.pinfoldref16_Tree_Move_j2 (sy c) Q (T 0) H),
  (16383, fun S T H => F.pinfoldref16_Tree_Move_j1 (sy c) Q (T 0) (T 1) (T 2) (T 3) (T 4) (T 11) (T 15) H)]
theorem L.pinfoldref16_Tree_Move (c : CallT) (x0 x1 x2 x3 x4 : Value) (H : AH) (Q : Value → AH → Prop) (h : F.pinfoldref16_Tree_Move (sy c) x0 x1 x2 x3 x4 H Q) : evBody Try.prog c kp.pinfoldref16_Tree_Move Try.f26 [x0, x1, x2, x3, x4] H Q :=
  evBody_of (pl := pl.pinfoldref16_Tree_Move c Q) Try.f26 _ H Q (bodyOf Try.f26) (by kernel_rfl) (by kernel_rfl) (by kernel_rfl) h

def kp.pinfoldlaw16_Same : Keep := { keep := fun n => [[0, 1], [0, 1], [0, 1, 5], [0, 1, 5, 17, 18], [0, 1, 5, 17, 18], [0, 1, 5, 6, 17, 18], [0, 1, 5, 6, 7, 8, 17, 18], [], [0, 1, 5, 6, 7, 8, 17, 18], [0, 1, 5, 6, 7, 8, 17, 18], [0, 1, 5, 6, 7, 8, 17, 18], [], [0, 1, 5, 7, 8, 17, 18], [0, 1, 5, 7, 17, 18, 119, 120, 121], [0, 1, 5, 7, 17, 18, 119, 120, 121], [0, 1, 5, 7, 10, 17, 18, 119, 120, 121], [0, 1, 5, 7, 10, 11, 12, 17, 18, 119, 120, 121], [], [0, 1, 5, 7, 17, 18, 119, 120, 121], [0, 1, 5, 17, 18], [0, 1, 5]].getD n [], order := fun n => [[], [], [], [], [], [(0, 0), (1, 0), (2, 2), (4, 0), (5, 16), (6, 48), (7, 112), (8, 0), (9, 496), (10, 1008), (11, 0), (3, 7), (12, 2063), (13, 8191)], [], [], [], [], [(0, 0), (1, 1), (2, 3), (3, 7), (4, 15), (5, 0), (6, 63), (7, 127), (8, 255), (9, 511), (10, 1023), (11, 2047), (12, 4095), (13, 255), (14, 8447), (15, 32767), (16, 65535), (17, 131071), (18, 262143), (19, 524287), (20, 1048575), (21, 2097151), (22, 4194303), (23, 262143), (24, 8650751), (25, 25427967), (26, 67108863), (27, 134217727), (28, 268435455), (29, 536870911), (30, 1073741823), (31, 2147483647), (32, 4294967295), (33, 536870911), (34, 9126805503), (35, 34359738367), (36, 68719476735), (37, 137438953471), (38, 274877906943), (39, 549755813887), (40, 1099511627775), (41, 2199023255551), (42, 274877906943), (43, 4672924418047), (44, 17592186044415), (45, 35184372088831), (46, 70368744177663), (47, 140737488355327), (48, 281474976710655), (49, 562949953421311), (50, 1125899906842623), (51, 140737488355327), (52, 2392537302040575), (53, 9007199254740991), (54, 18014398509481983), (55, 36028797018963967), (56, 72057594037927935), (57, 144115188075855871), (58, 288230376151711743), (59, 576460752303423487), (60, 1152921504606846975), (61, 72057594037927935), (62, 2377900603251621887), (63, 9223372036854775807), (64, 18446744073709551615), (65, 36893488147419103231), (66, 73786976294838206463), (67, 147573952589676412927), (68, 295147905179352825855), (69, 590295810358705651711), (70, 1180591620717411303423), (71, 73786976294838206463), (72, 2434970217729660813311), (73, 7157336700599306027007), (74, 18889465931478580854783), (75, 37778931862957161709567)], [], [], [], [], [(0, 0), (1, 1), (2, 3), (3, 7), (4, 0), (5, 16), (6, 63), (7, 127), (8, 255), (9, 255), (10, 511), (11, 2047)], [], [], [], [], [(0, 0), (2, 0), (1, 1), (3, 7), (4, 15), (5, 31), (8, 31), (6, 63), (7, 127), (9, 511), (10, 1023), (11, 2047), (12, 4095), (14, 4095), (15, 20479), (16, 53247), (17, 118783), (13, 8191), (18, 262143), (19, 524287), (20, 1048575)]].getD n [] }
def pl.pinfoldlaw16_Same (c : CallT) (Q : Value → AH → Prop) : Plan := [
  (478462, fun S T H => F.pinfoldlaw16_Same_l2 (sy c) Q (S 1) (T 0) (T 1) (T 5) (T 7) (T 17) (T 18) (T 119) (T 120) (T 121) H (S 0)),
  (58, fun S T H => F.pinfoldlaw16_Same_l1 (sy c) Q (T 0) (T 1) (T 5) (T 17) (T 18) H (S 0))]
theorem L.pinfoldlaw16_Same (c : CallT) (x0 x1 : Value) (H : AH) (Q : Value → AH → Prop) (h : F.pinfoldlaw16_Same (sy c) x0 x1 H Q) : evBody Try.prog c kp.pinfoldlaw16_Same Try.f27 [x0, x1] H Q :=
  evBody_of (pl := pl.pinfoldlaw16_Same c Q) Try.f27 _ H Q (bodyOf Try.f27) (by kernel_rfl) (by kernel_rfl) (by kernel_rfl) h

def kp.inode_Table_Look : Keep := { keep := fun n => [[0, 1, 2], [0, 1, 2], [2, 8, 9], [9], [2, 8], [10, 11], [], [10]].getD n [], order := fun n => [].getD n [] }
theorem L.inode_Table_Look (c : CallT) (x0 x1 x2 : Value) (H : AH) (Q : Value → AH → Prop) (h : F.inode_Table_Look (sy c) x0 x1 x2 H Q) : evBody Try.prog c kp.inode_Table_Look Try.f28 [x0, x1, x2] H Q :=
  evBody_of (pl := []) Try.f28 _ H Q (bodyOf Try.f28) (by kernel_rfl) (by kernel_rfl) (by kernel_rfl) h

def kp.inode_Table_Len : Keep := { keep := fun n => [[0], [0], [], [0]].getD n [], order := fun n => [].getD n [] }
theorem L.inode_Table_Len (c : CallT) (x0 : Value) (H : AH) (Q : Value → AH → Prop) (h : F.inode_Table_Len (sy c) x0 H Q) : evBody Try.prog c kp.inode_Table_Len Try.f29 [x0] H Q :=
  evBody_of (pl := []) Try.f29 _ H Q (bodyOf Try.f29) (by kernel_rfl) (by kernel_rfl) (by kernel_rfl) h

def kp.inode_Table_Numbers : Keep := { keep := fun n => [[0], [0], [], [0], [0, 3], [3, 11], [3, 11], [3, 4, 11], [3], [3]].getD n [], order := fun n => [].getD n [] }
def pl.inode_Table_Numbers (c : CallT) (Q : Value → AH → Prop) : Plan := [
  (122, fun S T H => F.inode_Table_Numbers_l1 (sy c) Q (T 3) (T 11) H (S 0))]
theorem L.inode_Table_Numbers (c : CallT) (x0 : Value) (H : AH) (Q : Value → AH → Prop) (h : F.inode_Table_Numbers (sy c) x0 H Q) : evBody Try.prog c kp.inode_Table_Numbers Try.f30 [x0] H Q :=
  evBody_of (pl := pl.inode_Table_Numbers c Q) Try.f30 _ H Q (bodyOf Try.f30) (by kernel_rfl) (by kernel_rfl) (by kernel_rfl) h

def kp.inode_Table_Changes : Keep := { keep := fun n => [[0], [0], [], [0]].getD n [], order := fun n => [].getD n [] }
theorem L.inode_Table_Changes (c : CallT) (x0 : Value) (H : AH) (Q : Value → AH → Prop) (h : F.inode_Table_Changes (sy c) x0 H Q) : evBody Try.prog c kp.inode_Table_Changes Try.f31 [x0] H Q :=
  evBody_of (pl := []) Try.f31 _ H Q (bodyOf Try.f31) (by kernel_rfl) (by kernel_rfl) (by kernel_rfl) h

def kp.inode_Table_Cut : Keep := { keep := fun n => [[0, 1, 2], [0, 1, 2], [0, 2, 7], [], [0, 2, 7], [], [0, 2, 7], [], [0, 2, 7], [], [0, 2, 7], [0, 7, 8], [0, 7, 8], [0], []].getD n [], order := fun n => [].getD n [] }
theorem L.inode_Table_Cut (c : CallT) (x0 x1 x2 : Value) (H : AH) (Q : Value → AH → Prop) (h : F.inode_Table_Cut (sy c) x0 x1 x2 H Q) : evBody Try.prog c kp.inode_Table_Cut Try.f32 [x0, x1, x2] H Q :=
  evBody_of (pl := []) Try.f32 _ H Q (bodyOf Try.f32) (by kernel_rfl) (by kernel_rfl) (by kernel_rfl) h

def kp.pinfoldlaw16_Light : Keep := { keep := fun n => [[0], [0], [0, 5, 6, 7], [0, 5, 6, 7], [0, 4, 5, 6, 7], [], [0, 5, 6, 7], [0]].getD n [], order := fun n => [].getD n [] }
def pl.pinfoldlaw16_Light (c : CallT) (Q : Value → AH → Prop) : Plan := [
  (26, fun S T H => F.pinfoldlaw16_Light_l1 (sy c) Q (T 0) (T 5) (T 6) (T 7) H (S 0))]
theorem L.pinfoldlaw16_Light (c : CallT) (x0 : Value) (H : AH) (Q : Value → AH → Prop) (h : F.pinfoldlaw16_Light (sy c) x0 H Q) : evBody Try.prog c kp.pinfoldlaw16_Light Try.f33 [x0] H Q :=
  evBody_of (pl := pl.pinfoldlaw16_Light c Q) Try.f33 _ H Q (bodyOf Try.f33) (by kernel_rfl) (by kernel_rfl) (by kernel_rfl) h

def kp.pinfoldlaw16_Do : Keep := { keep := fun n => [[0, 1, 2], [0, 1, 5], [0, 1, 5, 7, 8], [0, 1, 5, 7, 8, 9, 10], [0, 1, 5, 8, 10], [0, 1, 5, 7, 8, 9, 10], [0, 1, 5, 7, 8, 9, 10, 11, 12], [0, 1, 5, 7, 8, 9, 10, 11, 12, 13], [0, 1, 5, 7, 9, 11, 13], [0, 1, 5, 7, 9, 11, 14], [1, 5, 7, 9, 14, 15, 16], [15, 16, 17, 18], [0, 1, 5, 7, 8, 9, 10, 11, 12, 13], [0, 1, 7, 8, 9, 11, 12], [0, 1, 5, 7, 8, 9, 10, 11, 12, 13], [0, 1, 5, 7, 9, 11], [0, 1, 5, 7, 8, 9, 10, 11, 12, 13], [0, 1, 7, 8, 9, 10, 11, 12], [0, 1, 5, 7, 9, 11, 13], [0, 1, 5, 7, 11], [0, 1, 5, 7, 9, 11, 13], [0, 1, 5, 7, 11], [0, 1, 5, 7, 9, 11, 13], [0, 1, 5, 7, 11], [0, 1, 7, 9, 11], [1, 7, 9, 19, 20], [19, 20, 21, 22]].getD n [], order := fun n => [[], [(0, 0), (1, 1), (2, 3), (3, 7), (4, 0), (5, 16), (6, 48), (7, 112), (8, 15), (9, 511)], [(1, 0), (2, 2), (3, 6), (10, 0), (11, 1024), (12, 3072), (0, 0), (4, 1), (5, 17), (6, 63), (7, 127), (8, 255), (9, 17), (13, 529), (14, 8721), (15, 32273), (16, 65041), (17, 130577), (18, 9215), (19, 524287)], [], [(0, 0), (1, 1), (2, 0), (3, 4), (4, 12), (5, 3), (6, 63)], [], [], [], [], [], [], [], [], [], [], [(0, 0), (1, 0), (2, 0), (3, 0), (4, 8), (6, 0), (7, 0), (8, 0), (9, 0), (10, 512), (5, 31), (11, 2047), (12, 4095), (13, 8191)], [], [], [], [(0, 0), (1, 0), (2, 0), (3, 4), (5, 0), (6, 0), (7, 0), (8, 128), (4, 15), (9, 511), (10, 1023), (11, 2047)], [], [(0, 0), (1, 0), (2, 0), (3, 4), (4, 0), (5, 16), (7, 0), (8, 0), (9, 0), (10, 512), (11, 0), (12, 2048), (6, 63), (13, 8191), (14, 16383), (15, 32767)], [], [(0, 0), (1, 0), (2, 0), (3, 4), (5, 0), (6, 0), (7, 0), (8, 128), (4, 15), (9, 511), (10, 1023), (11, 2047)]].getD n [] }
def pl.pinfoldlaw16_Do (c : CallT) (Q : Value → AH → Prop) : Plan := [
  (31, fun S T H => F.pinfoldlaw16_Do_j1 (sy c) Q (T 0) (T 1) (T 5) (T 7) (T 8) (T 9) (T 10) H)]
theorem L.pinfoldlaw16_Do (c : CallT) (x0 x1 x2 : Value) (H : AH) (Q : Value → AH → Prop) (h : F.pinfoldlaw16_Do (sy c) x0 x1 x2 H Q) : evBody Try.prog c kp.pinfoldlaw16_Do Try.f34 [x0, x1, x2] H Q :=
  evBody_of (pl := pl.pinfoldlaw16_Do c Q) Try.f34 _ H Q (bodyOf Try.f34) (by kernel_rfl) (by kernel_rfl) (by kernel_rfl) h

def kp.inode_Table_Spots : Keep := { keep := fun n => [[0, 1], [0, 1], [0, 1, 5], [0, 1, 5, 14, 15, 16], [0, 1, 5, 14, 15, 16], [0, 1, 5, 7, 14, 15, 16], [0, 1, 5, 7, 8, 14, 15, 16], [0, 1, 5, 7, 8, 14, 15, 16], [0, 1, 5, 7, 8, 9, 14, 15, 16], [0, 1, 5, 7, 8, 14, 15, 16, 37, 38, 39], [0, 1, 5, 7, 8, 14, 15, 16, 37, 38, 39], [0, 1, 5, 7, 8, 12, 14, 15, 16, 37, 38, 39], [0, 1, 5, 7, 8, 12, 14, 15, 16, 37, 38, 39], [0, 1, 5, 7, 8, 14, 15, 16, 37, 38, 39], [0, 1, 5, 14, 15, 16], [5]].getD n [], order := fun n => [].getD n [] }
def pl.inode_Table_Spots (c : CallT) (Q : Value → AH → Prop) : Plan := [
  (119614, fun S T H => F.inode_Table_Spots_l2 (sy c) Q (S 1) (T 0) (T 1) (T 5) (T 7) (T 8) (T 14) (T 15) (T 16) (T 37) (T 38) (T 39) H (S 0)),
  (58, fun S T H => F.inode_Table_Spots_l1 (sy c) Q (T 0) (T 1) (T 5) (T 14) (T 15) (T 16) H (S 0))]
theorem L.inode_Table_Spots (c : CallT) (x0 x1 : Value) (H : AH) (Q : Value → AH → Prop) (h : F.inode_Table_Spots (sy c) x0 x1 H Q) : evBody Try.prog c kp.inode_Table_Spots Try.f35 [x0, x1] H Q :=
  evBody_of (pl := pl.inode_Table_Spots c Q) Try.f35 _ H Q (bodyOf Try.f35) (by kernel_rfl) (by kernel_rfl) (by kernel_rfl) h

def kp.inode_Table_room : Keep := { keep := fun n => [[0, 1, 2], [0, 1, 2], [2, 8, 9], [9], [2, 8], [], [2, 8], [8, 11], [], [8], [], [8], [], [8]].getD n [], order := fun n => [].getD n [] }
theorem L.inode_Table_room (c : CallT) (x0 x1 x2 : Value) (H : AH) (Q : Value → AH → Prop) (h : F.inode_Table_room (sy c) x0 x1 x2 H Q) : evBody Try.prog c kp.inode_Table_room Try.f36 [x0, x1, x2] H Q :=
  evBody_of (pl := []) Try.f36 _ H Q (bodyOf Try.f36) (by kernel_rfl) (by kernel_rfl) (by kernel_rfl) h

def kp.inode_Table_depth : Keep := { keep := fun n => [[0, 1], [0, 1], [0, 1, 5], [0, 1, 5], [0, 1, 5], [5]].getD n [], order := fun n => [].getD n [] }
def pl.inode_Table_depth (c : CallT) (Q : Value → AH → Prop) : Plan := [
  (28, fun S T H => F.inode_Table_depth_l1 (sy c) Q (T 0) (T 1) (T 5) H (S 0))]
theorem L.inode_Table_depth (c : CallT) (x0 x1 : Value) (H : AH) (Q : Value → AH → Prop) (h : F.inode_Table_depth (sy c) x0 x1 H Q) : evBody Try.prog c kp.inode_Table_depth Try.f37 [x0, x1] H Q :=
  evBody_of (pl := pl.inode_Table_depth c Q) Try.f37 _ H Q (bodyOf Try.f37) (by kernel_rfl) (by kernel_rfl) (by kernel_rfl) h

def kp.sync_atomic_Int64_Add : Keep := { keep := fun n => [[0, 1], [0, 1]].getD n [], order := fun n => [].getD n [] }
theorem L.sync_atomic_Int64_Add (c : CallT) (x0 x1 : Value) (H : AH) (Q : Value → AH → Prop) (h : F.sync_atomic_Int64_Add (sy c) x0 x1 H Q) : evBody Try.prog c kp.sync_atomic_Int64_Add Try.f38 [x0, x1] H Q :=
  evBody_of (pl := []) Try.f38 _ H Q (bodyOf Try.f38) (by kernel_rfl) (by kernel_rfl) (by kernel_rfl) h

def kp.inode_Table_tidy : Keep := { keep := fun n => [[0, 1], [0, 1, 4], [0, 1]].getD n [], order := fun n => [].getD n [] }
theorem L.inode_Table_tidy (c : CallT) (x0 x1 : Value) (H : AH) (Q : Value → AH → Prop) (h : F.inode_Table_tidy (sy c) x0 x1 H Q) : evBody Try.prog c kp.inode_Table_tidy Try.f39 [x0, x1] H Q :=
  evBody_of (pl := []) Try.f39 _ H Q (bodyOf Try.f39) (by kernel_rfl) (by kernel_rfl) (by kernel_rfl) h

def kp.inode_Table_dir : Keep := { keep := fun n => [[0, 1], [0, 1], [6], [], [6], [], [6]].getD n [], order := fun n => [].getD n [] }
theorem L.inode_Table_dir (c : CallT) (x0 x1 : Value) (H : AH) (Q : Value → AH → Prop) (h : F.inode_Table_dir (sy c) x0 x1 H Q) : evBody Try.prog c kp.inode_Table_dir Try.f40 [x0, x1] H Q :=
  evBody_of (pl := []) Try.f40 _ H Q (bodyOf Try.f40) (by kernel_rfl) (by kernel_rfl) (by kernel_rfl) h

def kp.inode_Table_may : Keep := { keep := fun n => [[0, 1, 2, 3, 4, 5], [0, 1, 2, 3, 4, 5], [], [0, 1, 2, 4, 5], [], [0, 1, 2, 4, 5], [], [0, 1, 2, 4, 5], [], [0, 1, 4, 5], [], [0, 1, 5], [1, 13], [], [1, 13], [], [13], [], []].getD n [], order := fun n => [[], [], [], [], [], [(0, 0), (1, 1), (2, 3), (3, 7), (4, 15), (5, 31), (6, 63), (7, 63), (8, 191), (9, 447), (10, 959), (11, 63), (12, 2111), (13, 6207), (14, 14399), (15, 32767), (16, 65535), (17, 131071)], [], [(0, 0), (1, 1), (2, 3), (3, 7), (4, 15), (5, 31), (6, 63), (7, 63), (8, 191), (9, 447), (10, 959), (12, 63), (13, 63), (14, 8255), (15, 24639), (16, 57407), (11, 2047), (17, 131071), (18, 262143), (19, 524287), (20, 1048575), (21, 2097151)]].getD n [] }
theorem L.inode_Table_may (c : CallT) (x0 x1 x2 x3 x4 x5 : Value) (H : AH) (Q : Value → AH → Prop) (h : F.inode_Table_may (sy c) x0 x1 x2 x3 x4 x5 H Q) : evBody Try.prog c kp.inode_Table_may Try.f41 [x0, x1, x2, x3, x4, x5] H Q :=
  evBody_of (pl := []) Try.f41 _ H Q (bodyOf Try.f41) (by kernel_rfl) (by kernel_rfl) (by kernel_rfl) h

def kp.pinfoldref16_Tree_room : Keep := { keep := fun n => [[0, 1, 2], [0, 1, 2], [0, 1, 2, 7], [7], [0, 1, 2], [2, 8], [], [2, 8], [], [8], [], [8], [], []].getD n [], order := fun n => [].getD n [] }
theorem L.pinfoldref16_Tree_room (c : CallT) (x0 x1 x2 : Value) (H : AH) (Q : Value → AH → Prop) (h : F.pinfoldref16_Tree_room (sy c) x0 x1 x2 H Q) : evBody Try.prog c kp.pinfoldref16_Tree_room Try.f42 [x0, x1, x2] H Q :=
  evBody_of (pl := []) Try.f42 _ H Q (bodyOf Try.f42) (by kernel_rfl) (by kernel_rfl) (by kernel_rfl) h

def kp.pinfoldref16_Tree_deep : Keep := { keep := fun n => [[0, 1], [0, 1], [0, 1, 5], [0, 1, 5], [0, 1, 5], [5]].getD n [], order := fun n => [].getD n [] }
def pl.pinfoldref16_Tree_deep (c : CallT) (Q : Value → AH → Prop) : Plan := [
  (28, fun S T H => F.pinfoldref16_Tree_deep_l1 (sy c) Q (T 0) (T 1) (T 5) H (S 0))]
theorem L.pinfoldref16_Tree_deep (c : CallT) (x0 x1 : Value) (H : AH) (Q : Value → AH → Prop) (h : F.pinfoldref16_Tree_deep (sy c) x0 x1 H Q) : evBody Try.prog c kp.pinfoldref16_Tree_deep Try.f43 [x0, x1] H Q :=
  evBody_of (pl := pl.pinfoldref16_Tree_deep c Q) Try.f43 _ H Q (bodyOf Try.f43) (by kernel_rfl) (by kernel_rfl) (by kernel_rfl) h

def kp.pinfoldref16_insert : Keep := { keep := fun n => [[0, 1], [0, 3], [0, 3, 5], [0, 3, 5], [0, 3, 5]].getD n [], order := fun n => [[], [], [(0, 0), (1, 0), (2, 2), (3, 7), (4, 15), (5, 31), (6, 31), (7, 127), (8, 255), (9, 511), (10, 31), (11, 1055), (12, 4095), (13, 8191)], [], [(0, 0), (1, 0), (2, 0), (3, 6), (5, 0), (6, 32), (8, 0), (9, 0), (10, 768), (4, 15), (7, 127), (11, 2047), (12, 4095)]].getD n [] }
def pl.pinfoldref16_insert (c : CallT) (Q : Value → AH → Prop) : Plan := [
  (28, fun S T H => F.pinfoldref16_insert_l1 (sy c) Q (T 0) (T 3) (T 5) H (S 0))]
theorem L.pinfoldref16_insert (c : CallT) (x0 x1 : Value) (H : AH) (Q : Value → AH → Prop) (h : F.pinfoldref16_insert (sy c) x0 x1 H Q) : evBody Try.prog c kp.pinfoldref16_insert Try.f44 [x0, x1] H Q :=
  evBody_of (pl := pl.pinfoldref16_insert c Q) Try.f44 _ H Q (bodyOf Try.f44) (by kernel_rfl) (by kernel_rfl) (by kernel_rfl) h

def kp.slices_Sort_string : Keep := { keep := fun n => [[0], [0, 2]].getD n [], order := fun n => [].getD n [] }
theorem L.slices_Sort_string (c : CallT) (x0 : Value) (H : AH) (Q : Value → AH → Prop) (h : F.slices_Sort_string (sy c) x0 H Q) : evBody Try.prog c kp.slices_Sort_string Try.f45 [x0] H Q :=
  evBody_of (pl := []) Try.f45 _ H Q (bodyOf Try.f45) (by kernel_rfl) (by kernel_rfl) (by kernel_rfl) h

def kp.strings_IndexFunc : Keep := { keep := fun n => [[0, 1], [0, 1]].getD n [], order := fun n => [].getD n [] }
theorem L.strings_IndexFunc (c : CallT) (x0 x1 : Value) (H : AH) (Q : Value → AH → Prop) (h : F.strings_IndexFunc (sy c) x0 x1 H Q) : evBody Try.prog c kp.strings_IndexFunc Try.f46 [x0, x1] H Q :=
  evBody_of (pl := []) Try.f46 _ H Q (bodyOf Try.f46) (by kernel_rfl) (by kernel_rfl) (by kernel_rfl) h

def kp.inode_Name_1 : Keep := { keep := fun n => [[0], [0]].getD n [], order := fun n => [].getD n [] }
theorem L.inode_Name_1 (c : CallT) (x0 : Value) (H : AH) (Q : Value → AH → Prop) (h : F.inode_Name_1 (sy c) x0 H Q) : evBody Try.prog c kp.inode_Name_1 Try.f47 [x0] H Q :=
  evBody_of (pl := []) Try.f47 _ H Q (bodyOf Try.f47) (by kernel_rfl) (by kernel_rfl) (by kernel_rfl) h

def kp.pinfoldref16_Tree_Node : Keep := { keep := fun n => [[0, 1], [0, 1], [], [0, 1]].getD n [], order := fun n => [].getD n [] }
theorem L.pinfoldref16_Tree_Node (c : CallT) (x0 x1 : Value) (H : AH) (Q : Value → AH → Prop) (h : F.pinfoldref16_Tree_Node (sy c) x0 x1 H Q) : evBody Try.prog c kp.pinfoldref16_Tree_Node Try.f48 [x0, x1] H Q :=
  evBody_of (pl := []) Try.f48 _ H Q (bodyOf Try.f48) (by kernel_rfl) (by kernel_rfl) (by kernel_rfl) h

def kp.pinfoldref16_Tree_Look : Keep := { keep := fun n => [[0, 1, 2], [0, 1, 2], [0, 1, 2, 8], [8], [0, 1, 2], [2, 9], [9, 10], [], [9, 10]].getD n [], order := fun n => [].getD n [] }
theorem L.pinfoldref16_Tree_Look (c : CallT) (x0 x1 x2 : Value) (H : AH) (Q : Value → AH → Prop) (h : F.pinfoldref16_Tree_Look (sy c) x0 x1 x2 H Q) : evBody Try.prog c kp.pinfoldref16_Tree_Look Try.f49 [x0, x1, x2] H Q :=
  evBody_of (pl := []) Try.f49 _ H Q (bodyOf Try.f49) (by kernel_rfl) (by kernel_rfl) (by kernel_rfl) h

def kp.pinfoldref16_Tree_dir : Keep := { keep := fun n => [[0, 1], [0, 1], [10], [], [10], [], []].getD n [], order := fun n => [].getD n [] }
theorem L.pinfoldref16_Tree_dir (c : CallT) (x0 x1 : Value) (H : AH) (Q : Value → AH → Prop) (h : F.pinfoldref16_Tree_dir (sy c) x0 x1 H Q) : evBody Try.prog c kp.pinfoldref16_Tree_dir Try.f50 [x0, x1] H Q :=
  evBody_of (pl := []) Try.f50 _ H Q (bodyOf Try.f50) (by kernel_rfl) (by kernel_rfl) (by kernel_rfl) h

def kp.pinfoldref16_at : Keep := { keep := fun n => [[0, 1], [0, 1], [0, 1, 5], [0, 1, 5], [0, 1, 5], [5], []].getD n [], order := fun n => [].getD n [] }
def pl.pinfoldref16_at (c : CallT) (Q : Value → AH → Prop) : Plan := [
  (26, fun S T H => F.pinfoldref16_at_l1 (sy c) Q (T 0) (T 1) (T 5) H (S 0))]
theorem L.pinfoldref16_at (c : CallT) (x0 x1 : Value) (H : AH) (Q : Value → AH → Prop) (h : F.pinfoldref16_at (sy c) x0 x1 H Q) : evBody Try.prog c kp.pinfoldref16_at Try.f51 [x0, x1] H Q :=
  evBody_of (pl := pl.pinfoldref16_at c Q) Try.f51 _ H Q (bodyOf Try.f51) (by kernel_rfl) (by kernel_rfl) (by kernel_rfl) h

def kp.pinfoldref16_Tree_tall : Keep := { keep := fun n => [[0, 1], [0, 1], [0, 1, 5], [0, 5, 6], [0, 5, 6, 7], [0, 5, 6, 7], [0, 5, 6, 7], [0, 5, 6, 7, 8], [0, 5, 6, 7, 8], [5]].getD n [], order := fun n => [].getD n [] }
def pl.pinfoldref16_Tree_tall (c : CallT) (Q : Value → AH → Prop) : Plan := [
  (122, fun S T H => F.pinfoldref16_Tree_tall_l1 (sy c) Q (T 0) (T 5) (T 6) (T 7) H (S 0))]
theorem L.pinfoldref16_Tree_tall (c : CallT) (x0 x1 : Value) (H : AH) (Q : Value → AH → Prop) (h : F.pinfoldref16_Tree_tall (sy c) x0 x1 H Q) : evBody Try.prog c kp.pinfoldref16_Tree_tall Try.f52 [x0, x1] H Q :=
  evBody_of (pl := pl.pinfoldref16_Tree_tall c Q) Try.f52 _ H Q (bodyOf Try.f52) (by kernel_rfl) (by kernel_rfl) (by kernel_rfl) h

def kp.pinfoldref16_Tree_Drop : Keep := { keep := fun n => [[0, 1, 2, 3], [0, 1, 2, 3], [0, 1, 2, 3, 9, 10], [10], [0, 1, 2, 3, 9], [0, 1, 2, 3, 9, 11], [], [0, 1, 2, 3, 9, 11], [], [0, 1, 2, 3, 9, 11], [], [0, 1, 2, 9, 11], [0, 9, 11], [0, 9], [0, 9], []].getD n [], order := fun n => [[], [], [], [], [], [], [], [], [], [], [], [(0, 0), (1, 1), (2, 3), (3, 7), (4, 0), (5, 0), (6, 32), (7, 96), (8, 224), (9, 0), (10, 992), (11, 2016), (12, 4064), (13, 0), (14, 0), (16, 0), (15, 24576), (17, 122880), (18, 262112), (19, 524287), (20, 1048575), (21, 2097151)]].getD n [] }
theorem L.pinfoldref16_Tree_Drop (c : CallT) (x0 x1 x2 x3 : Value) (H : AH) (Q : Value → AH → Prop) (h : F.pinfoldref16_Tree_Drop (sy c) x0 x1 x2 x3 H Q) : evBody Try.prog c kp.pinfoldref16_Tree_Drop Try.f53 [x0, x1, x2, x3] H Q :=
  evBody_of (pl := []) Try.f53 _ H Q (bodyOf Try.f53) (by kernel_rfl) (by kernel_rfl) (by kernel_rfl) h

def kp.pinfoldref16_without : Keep := { keep := fun n => [[0, 1], [0, 1]].getD n [], order := fun n => [[], [(0, 0), (1, 0), (2, 0), (3, 6), (5, 0), (6, 0), (7, 64), (8, 224), (4, 15), (9, 511), (10, 1023)]].getD n [] }
theorem L.pinfoldref16_without (c : CallT) (x0 x1 : Value) (H : AH) (Q : Value → AH → Prop) (h : F.pinfoldref16_without (sy c) x0 x1 H Q) : evBody Try.prog c kp.pinfoldref16_without Try.f54 [x0, x1] H Q :=
  evBody_of (pl := []) Try.f54 _ H Q (bodyOf Try.f54) (by kernel_rfl) (by kernel_rfl) (by kernel_rfl) h

def kp.slices_Sort_inode_Number : Keep := { keep := fun n => [[0], [0, 2]].getD n [], order := fun n => [].getD n [] }
theorem L.slices_Sort_inode_Number (c : CallT) (x0 : Value) (H : AH) (Q : Value → AH → Prop) (h : F.slices_Sort_inode_Number (sy c) x0 H Q) : evBody Try.prog c kp.slices_Sort_inode_Number Try.f55 [x0] H Q :=
  evBody_of (pl := []) Try.f55 _ H Q (bodyOf Try.f55) (by kernel_rfl) (by kernel_rfl) (by kernel_rfl) h

def kp.sync_atomic_Int64_Load : Keep := { keep := fun n => [[0], [0]].getD n [], order := fun n => [].getD n [] }
theorem L.sync_atomic_Int64_Load (c : CallT) (x0 : Value) (H : AH) (Q : Value → AH → Prop) (h : F.sync_atomic_Int64_Load (sy c) x0 H Q) : evBody Try.prog c kp.sync_atomic_Int64_Load Try.f56 [x0] H Q :=
  evBody_of (pl := []) Try.f56 _ H Q (bodyOf Try.f56) (by kernel_rfl) (by kernel_rfl) (by kernel_rfl) h

def kp.pinfoldlaw16_names : Keep := { keep := fun n => [[], []].getD n [], order := fun n => [].getD n [] }
theorem L.pinfoldlaw16_names (c : CallT) (H : AH) (Q : Value → AH → Prop) (h : F.pinfoldlaw16_names (sy c) H Q) : evBody Try.prog c kp.pinfoldlaw16_names Try.f57 [] H Q :=
  evBody_of (pl := []) Try.f57 _ H Q (bodyOf Try.f57) (by kernel_rfl) (by kernel_rfl) (by kernel_rfl) h

def kp.pinfoldref16_Tree_Add : Keep := { keep := fun n => [[0, 1, 2, 3], [0, 1, 2, 3], [0, 1, 2, 3, 9], [], [0, 1, 2, 3, 9], [], [0, 1, 2, 3, 9], [0, 1, 2, 3, 9, 10], [10], [0, 1, 2, 3, 9], [], [0, 1, 2, 3, 9], [], [0, 1, 2, 3, 9], [0, 9], [0], []].getD n [], order := fun n => [[], [], [], [], [], [], [], [], [], [], [], [], [], [(0, 0), (1, 1), (2, 3), (3, 7), (4, 0), (5, 0), (6, 32), (7, 96), (8, 224), (9, 0), (10, 992), (11, 2016), (12, 4064), (13, 0), (14, 0), (15, 24576), (16, 65504), (17, 131071), (18, 262143), (19, 524287)]].getD n [] }
theorem L.pinfoldref16_Tree_Add (c : CallT) (x0 x1 x2 x3 : Value) (H : AH) (Q : Value → AH → Prop) (h : F.pinfoldref16_Tree_Add (sy c) x0 x1 x2 x3 H Q) : evBody Try.prog c kp.pinfoldref16_Tree_Add Try.f58 [x0, x1, x2, x3] H Q :=
  evBody_of (pl := []) Try.f58 _ H Q (bodyOf Try.f58) (by kernel_rfl) (by kernel_rfl) (by kernel_rfl) h

def kp.pinfoldref16_Tree_Hold : Keep := { keep := fun n => [[0, 1, 2], [0, 1, 2], [0, 1, 2, 7], [], [0, 1, 2, 7], [7], [], [0, 1, 7], [], [0, 1, 7], [0, 1], []].getD n [], order := fun n => [].getD n [] }
theorem L.pinfoldref16_Tree_Hold (c : CallT) (x0 x1 x2 : Value) (H : AH) (Q : Value → AH → Prop) (h : F.pinfoldref16_Tree_Hold (sy c) x0 x1 x2 H Q) : evBody Try.prog c kp.pinfoldref16_Tree_Hold Try.f59 [x0, x1, x2] H Q :=
  evBody_of (pl := []) Try.f59 _ H Q (bodyOf Try.f59) (by kernel_rfl) (by kernel_rfl) (by kernel_rfl) h

def kp.pinfoldref16_Tree_Write : Keep := { keep := fun n => [[0, 1, 2, 3], [0, 1, 2, 3], [0, 2, 3, 9], [], [0, 2, 3, 9], [], [0, 2, 3, 9], [], [0, 2, 3, 9], [], [0, 2, 3, 9], [0, 2, 3, 9, 10], [0, 2, 3, 9, 10], [0, 2, 3, 9, 10], [0, 2, 3, 9, 10, 11], [0, 2, 3, 9, 10, 11], [0, 2, 3, 9, 10, 11], [0, 9, 10], [0], []].getD n [], order := fun n => [].getD n [] }
def pl.pinfoldref16_Tree_Write (c : CallT) (Q : Value → AH → Prop) : Plan := [
  (4090, fun S T H => F.pinfoldref16_Tree_Write_l2 (sy c) Q (T 0) (T 2) (T 3) (T 9) (T 10) (T 11) H (S 0)),
  (1020, fun S T H => F.pinfoldref16_Tree_Write_l1 (sy c) Q (T 0) (T 2) (T 3) (T 9) (T 10) H (S 0))]
theorem L.pinfoldref16_Tree_Write (c : CallT) (x0 x1 x2 x3 : Value) (H : AH) (Q : Value → AH → Prop) (h : F.pinfoldref16_Tree_Write (sy c) x0 x1 x2 x3 H Q) : evBody Try.prog c kp.pinfoldref16_Tree_Write Try.f60 [x0, x1, x2, x3] H Q :=
  evBody_of (pl := pl.pinfoldref16_Tree_Write c Q) Try.f60 _ H Q (bodyOf Try.f60) (by kernel_rfl) (by kernel_rfl) (by kernel_rfl) h

def kp.pinfoldref16_Tree_Cut : Keep := { keep := fun n => [[0, 1, 2], [0, 1, 2], [0, 2, 7], [], [0, 2, 7], [], [0, 2, 7], [], [0, 2, 7], [], [0, 2, 7], [0, 2, 7, 8], [0, 2, 7, 8], [0, 2, 7, 8], [0], []].getD n [], order := fun n => [].getD n [] }
def pl.pinfoldref16_Tree_Cut (c : CallT) (Q : Value → AH → Prop) : Plan := [
  (1020, fun S T H => F.pinfoldref16_Tree_Cut_l1 (sy c) Q (T 0) (T 2) (T 7) (T 8) H (S 0))]
theorem L.pinfoldref16_Tree_Cut (c : CallT) (x0 x1 x2 : Value) (H : AH) (Q : Value → AH → Prop) (h : F.pinfoldref16_Tree_Cut (sy c) x0 x1 x2 H Q) : evBody Try.prog c kp.pinfoldref16_Tree_Cut Try.f61 [x0, x1, x2] H Q :=
  evBody_of (pl := pl.pinfoldref16_Tree_Cut c Q) Try.f61 _ H Q (bodyOf Try.f61) (by kernel_rfl) (by kernel_rfl) (by kernel_rfl) h

def kp.inode_Table_tall : Keep := { keep := fun n => [[0, 1], [0, 1], [0, 1, 5], [0, 5, 17], [0, 5, 17], [0, 5, 7, 17], [0, 5, 7, 17], [5]].getD n [], order := fun n => [].getD n [] }
def pl.inode_Table_tall (c : CallT) (Q : Value → AH → Prop) : Plan := [
  (58, fun S T H => F.inode_Table_tall_l1 (sy c) Q (T 0) (T 5) (T 17) H (S 0))]
theorem L.inode_Table_tall (c : CallT) (x0 x1 : Value) (H : AH) (Q : Value → AH → Prop) (h : F.inode_Table_tall (sy c) x0 x1 H Q) : evBody Try.prog c kp.inode_Table_tall Try.f63 [x0, x1] H Q :=
  evBody_of (pl := pl.inode_Table_tall c Q) Try.f63 _ H Q (bodyOf Try.f63) (by kernel_rfl) (by kernel_rfl) (by kernel_rfl) h

def kp.math_bits_Len : Keep := { keep := fun n => [[0], [0], [0]].getD n [], order := fun n => [].getD n [] }
theorem L.math_bits_Len (c : CallT) (x0 : Value) (H : AH) (Q : Value → AH → Prop) (h : F.math_bits_Len (sy c) x0 H Q) : evBody Try.prog c kp.math_bits_Len Try.f65 [x0] H Q :=
  evBody_of (pl := []) Try.f65 _ H Q (bodyOf Try.f65) (by kernel_rfl) (by kernel_rfl) (by kernel_rfl) h

def kp.slices_pdqsortOrdered_string : Keep := { keep := fun n => [[0, 1, 2, 3], [0, 1, 2, 3, 8], [0, 1, 2, 3, 8, 9], [0, 1, 2, 3, 8, 9, 10], [0, 1, 2], [0, 1, 2, 3, 8, 9, 10], [0, 1, 2], [0, 1, 2, 3, 8, 9, 10], [0, 1, 2, 3, 8, 9, 10], [0, 1, 2, 3, 8, 9, 10], [0, 1, 2, 3, 8, 9, 10], [0, 1, 2, 3, 8, 9, 10, 11, 12], [0, 1, 2, 3, 8, 9, 10, 11], [0, 1, 2, 3, 8, 9, 10, 11], [0, 1, 2, 3, 8, 9, 10, 11], [0, 1, 2, 3, 8, 9, 10, 11, 12], [0, 1, 2, 3, 8, 9, 10, 11], [0, 1, 2, 3, 8, 9, 10, 11], [0, 1, 2, 3, 8, 9, 11], [0, 2, 3, 8, 9, 13], [0, 1, 2, 3, 10, 11], [0, 1, 2, 3, 10, 14, 15], [0, 1, 2, 3, 9, 10, 14], [0, 1, 2, 3, 9, 10, 14, 16, 17], [0, 1, 2, 3, 9, 14, 16, 17, 18], [0, 1, 2, 3, 9, 14, 16, 18], [0, 1, 2, 3, 8, 9, 14], [0, 2, 3, 8, 9, 14], [0, 1, 2, 3, 9, 14, 17, 18], [0, 1, 2, 3, 8, 9, 14], [0, 1, 3, 8, 9, 14]].getD n [], order := fun n => [[], [], [], [], [], [], [], [], [], [], [], [], [], [], [], [], [], [(0, 0), (1, 1), (2, 3), (3, 7), (4, 7), (5, 23), (6, 63), (7, 127), (8, 7), (9, 7), (10, 775), (11, 1799), (12, 4095), (13, 8191), (14, 16383)]].getD n [] }
def pl.slices_pdqsortOrdered_string (c : CallT) (Q : Value → AH → Prop) : Plan := [
  (7295, fun S T H => F.slices_pdqsortOrdered_string_j3 (sy c) Q (S 0) (T 0) (T 1) (T 2) (T 3) (T 8) (T 9) (T 10) (T 11) H),
  (3647, fun S T H => F.slices_pdqsortOrdered_string_j2 (sy c) Q (S 0) (T 0) (T 1) (T 2) (T 3) (T 8) (T 9) (T 10) (T 11) (T 12) H),
  (911, fun S T H => F.slices_pdqsortOrdered_string_j1 (sy c) Q (S 0) (T 0) (T 1) (T 2) (T 3) (T 8) (T 9) (T 10) H),
  (14, fun S T H => F.slices_pdqsortOrdered_string_l1 (sy c) Q (T 0) (T 1) (T 2) (T 3) (T 8) (T 9) H (S 0))]
theorem L.slices_pdqsortOrdered_string (c : CallT) (x0 x1 x2 x3 : Value) (H : AH) (Q : Value → AH → Prop) (h : F.slices_pdqsortOrdered_string (sy c) x0 x1 x2 x3 H Q) : evBody Try.prog c kp.slices_pdqsortOrdered_string Try.f64 [x0, x1, x2, x3] H Q :=
  evBody_of (pl := pl.slices_pdqsortOrdered_string c Q) Try.f64 _ H Q (bodyOf Try.f64) (by kernel_rfl) (by kernel_rfl) (by kernel_rfl) h

def kp.strings_indexFunc : Keep := { keep := fun n => [[0, 1, 2], [0, 1, 2], [1, 2, 10], [1, 2, 10, 11], [1, 2, 7, 8, 10], [7], []].getD n [], order := fun n => [].getD n [] }
def pl.strings_indexFunc (c : CallT) (Q : Value → AH → Prop) : Plan := [
  (26, fun S T H => F.strings_indexFunc_l1 (sy c) Q (T 1) (T 2) (T 10) H (S 0))]
theorem L.strings_indexFunc (c : CallT) (x0 x1 x2 : Value) (H : AH) (Q : Value → AH → Prop) (h : F.strings_indexFunc (sy c) x0 x1 x2 H Q) : evBody Try.prog c kp.strings_indexFunc Try.f66 [x0, x1, x2] H Q :=
  evBody_of (pl := pl.strings_indexFunc c Q) Try.f66 _ H Q (bodyOf Try.f66) (by kernel_rfl) (by kernel_rfl) (by kernel_rfl) h

def kp.pinfoldref16_Tree_tidy : Keep := { keep := fun n => [[0, 1], [0, 1]].getD n [], order := fun n => [].getD n [] }
theorem L.pinfoldref16_Tree_tidy (c : CallT) (x0 x1 : Value) (H : AH) (Q : Value → AH → Prop) (h : F.pinfoldref16_Tree_tidy (sy c) x0 x1 H Q) : evBody Try.prog c kp.pinfoldref16_Tree_tidy Try.f67 [x0, x1] H Q :=
  evBody_of (pl := []) Try.f67 _ H Q (bodyOf Try.f67) (by kernel_rfl) (by kernel_rfl) (by kernel_rfl) h

def kp.slices_pdqsortOrdered_inode_Number : Keep := { keep := fun n => [[0, 1, 2, 3], [0, 1, 2, 3, 8], [0, 1, 2, 3, 8, 9], [0, 1, 2, 3, 8, 9, 10], [0, 1, 2], [0, 1, 2, 3, 8, 9, 10], [0, 1, 2], [0, 1, 2, 3, 8, 9, 10], [0, 1, 2, 3, 8, 9, 10], [0, 1, 2, 3, 8, 9, 10], [0, 1, 2, 3, 8, 9, 10], [0, 1, 2, 3, 8, 9, 10, 11, 12], [0, 1, 2, 3, 8, 9, 10, 11], [0, 1, 2, 3, 8, 9, 10, 11], [0, 1, 2, 3, 8, 9, 10, 11], [0, 1, 2, 3, 8, 9, 10, 11, 12], [0, 1, 2, 3, 8, 9, 10, 11], [0, 1, 2, 3, 8, 9, 10, 11], [0, 1, 2, 3, 8, 9, 11], [0, 2, 3, 8, 9, 13], [0, 1, 2, 3, 10, 11], [0, 1, 2, 3, 10, 14, 15], [0, 1, 2, 3, 9, 10, 14], [0, 1, 2, 3, 9, 10, 14, 16, 17], [0, 1, 2, 3, 9, 14, 16, 17, 18], [0, 1, 2, 3, 9, 14, 16, 18], [0, 1, 2, 3, 8, 9, 14], [0, 2, 3, 8, 9, 14], [0, 1, 2, 3, 9, 14, 17, 18], [0, 1, 2, 3, 8, 9, 14], [0, 1, 3, 8, 9, 14]].getD n [], order := fun n => [[], [], [], [], [], [], [], [], [], [], [], [], [], [], [], [], [], [(0, 0), (1, 1), (2, 3), (3, 7), (4, 7), (5, 23), (6, 63), (7, 127), (8, 7), (9, 7), (10, 775), (11, 1799), (12, 4095), (13, 8191), (14, 16383)]].getD n [] }
def pl.slices_pdqsortOrdered_inode_Number (c : CallT) (Q : Value → AH → Prop) : Plan := [
  (7295, fun S T H => F.slices_pdqsortOrdered_inode_Number_j3 (sy c) Q (S 0) (T 0) (T 1) (T 2) (T 3) (T 8) (T 9) (T 10) (T 11) H),
  (3647, fun S T H => F.slices_pdqsortOrdered_inode_Number_j2 (sy c) Q (S 0) (T 0) (T 1) (T 2) (T 3) (T 8) (T 9) (T 10) (T 11) (T 12) H),
  (911, fun S T H => F.slices_pdqsortOrdered_inode_Number_j1 (sy c) Q (S 0) (T 0) (T 1) (T 2) (T 3) (T 8) (T 9) (T 10) H),
  (14, fun S T H => F.slices_pdqsortOrdered_inode_Number_l1 (sy c) Q (T 0) (T 1) (T 2) (T 3) (T 8) (T 9) H (S 0))]
theorem L.slices_pdqsortOrdered_inode_Number (c : CallT) (x0 x1 x2 x3 : Value) (H : AH) (Q : Value → AH → Prop) (h : F.slices_pdqsortOrdered_inode_Number (sy c) x0 x1 x2 x3 H Q) : evBody Try.prog c kp.slices_pdqsortOrdered_inode_Number Try.f68 [x0, x1, x2, x3] H Q :=
  evBody_of (pl := pl.slices_pdqsortOrdered_inode_Number c Q) Try.f68 _ H Q (bodyOf Try.f68) (by kernel_rfl) (by kernel_rfl) (by kernel_rfl) h

def kp.math_bits_Len32 : Keep := { keep := fun n => [[0], [0, 2], [0], [0], [0, 2], [0, 2], [0, 2], [0, 2]].getD n [], order := fun n => [].getD n [] }
def pl.math_bits_Len32 (c : CallT) (Q : Value → AH → Prop) : Plan := [
  (15, fun S T H => F.math_bits_Len32_j2 (sy c) Q (T 0) (T 2) H),
  (7, fun S T H => F.math_bits_Len32_j1 (sy c) Q (T 0) (T 2) H)]
theorem L.math_bits_Len32 (c : CallT) (x0 : Value) (H : AH) (Q : Value → AH → Prop) (h : F.math_bits_Len32 (sy c) x0 H Q) : evBody Try.prog c kp.math_bits_Len32 Try.f79 [x0] H Q :=
  evBody_of (pl := pl.math_bits_Len32 c Q) Try.f79 _ H Q (bodyOf Try.f79) (by kernel_rfl) (by kernel_rfl) (by kernel_rfl) h

def kp.math_bits_Len64 : Keep := { keep := fun n => [[0], [0, 2], [0], [0], [0, 2], [0, 2], [0, 2], [0, 2], [0, 2], [0, 2], [0, 2]].getD n [], order := fun n => [].getD n [] }
def pl.math_bits_Len64 (c : CallT) (Q : Value → AH → Prop) : Plan := [
  (31, fun S T H => F.math_bits_Len64_j3 (sy c) Q (T 0) (T 2) H),
  (15, fun S T H => F.math_bits_Len64_j2 (sy c) Q (T 0) (T 2) H),
  (7, fun S T H => F.math_bits_Len64_j1 (sy c) Q (T 0) (T 2) H)]
theorem L.math_bits_Len64 (c : CallT) (x0 : Value) (H : AH) (Q : Value → AH → Prop) (h : F.math_bits_Len64 (sy c) x0 H Q) : evBody Try.prog c kp.math_bits_Len64 Try.f80 [x0] H Q :=
  evBody_of (pl := pl.math_bits_Len64 c Q) Try.f80 _ H Q (bodyOf Try.f80) (by kernel_rfl) (by kernel_rfl) (by kernel_rfl) h

def kp.slices_insertionSortOrdered_string : Keep := { keep := fun n => [[0, 1, 2], [0, 1, 2, 6], [0, 1, 2, 6], [0, 1, 2, 6], [0, 1, 2, 6, 7], [0, 1, 2, 6, 7], [0, 1, 2, 6, 7]].getD n [], order := fun n => [[], [], [], [], [(0, 0), (1, 0), (2, 3), (3, 7), (4, 15), (5, 15), (6, 63), (7, 127), (8, 15), (9, 15), (10, 527), (11, 1807), (12, 3855), (13, 8191), (14, 16383)], [], [(0, 0), (1, 0), (2, 0), (3, 0), (4, 8), (5, 0), (6, 0), (7, 64), (8, 224), (9, 480), (10, 0), (11, 0), (12, 3072), (13, 7168), (14, 16355), (15, 32739), (16, 65535), (17, 131071)]].getD n [] }
def pl.slices_insertionSortOrdered_string (c : CallT) (Q : Value → AH → Prop) : Plan := [
  (402, fun S T H => F.slices_insertionSortOrdered_string_l2 (sy c) Q (S 1) (T 0) (T 1) (T 2) (T 6) (T 7) H (S 0)),
  (6, fun S T H => F.slices_insertionSortOrdered_string_l1 (sy c) Q (T 0) (T 1) (T 2) (T 6) H (S 0))]
theorem L.slices_insertionSortOrdered_string (c : CallT) (x0 x1 x2 : Value) (H : AH) (Q : Value → AH → Prop) (h : F.slices_insertionSortOrdered_string (sy c) x0 x1 x2 H Q) : evBody Try.prog c kp.slices_insertionSortOrdered_string Try.f70 [x0, x1, x2] H Q :=
  evBody_of (pl := pl.slices_insertionSortOrdered_string c Q) Try.f70 _ H Q (bodyOf Try.f70) (by kernel_rfl) (by kernel_rfl) (by kernel_rfl) h

def kp.slices_heapSortOrdered_string : Keep := { keep := fun n => [[0, 1, 2], [0, 1, 2, 6], [0, 1, 2, 6, 7], [0, 6, 7, 8], [0, 6, 7, 8, 9], [0, 6, 7, 8, 9], [0, 6, 7, 8, 9], [0, 6, 7, 8], [0, 6, 7, 10], [0, 6, 7, 10], [0, 6, 7, 10], [0, 6, 7, 10]].getD n [], order := fun n => [[], [], [], [], [], [], [], [], [], [], [(0, 0), (1, 0), (2, 0), (3, 0), (4, 0), (5, 24), (6, 0), (7, 0), (8, 0), (9, 384), (10, 960), (11, 1984), (12, 0), (13, 0), (14, 12288), (15, 28672), (16, 65475), (17, 131011), (18, 262143), (19, 524287)]].getD n [] }
def pl.slices_heapSortOrdered_string (c : CallT) (Q : Value → AH → Prop) : Plan := [
  (126, fun S T H => F.slices_heapSortOrdered_string_l2 (sy c) Q (T 0) (T 6) (T 7) (T 10) H (S 0)),
  (122, fun S T H => F.slices_heapSortOrdered_string_l1 (sy c) Q (T 0) (T 6) (T 7) (T 8) (T 9) H (S 0))]
theorem L.slices_heapSortOrdered_string (c : CallT) (x0 x1 x2 : Value) (H : AH) (Q : Value → AH → Prop) (h : F.slices_heapSortOrdered_string (sy c) x0 x1 x2 H Q) : evBody Try.prog c kp.slices_heapSortOrdered_string Try.f71 [x0, x1, x2] H Q :=
  evBody_of (pl := pl.slices_heapSortOrdered_string c Q) Try.f71 _ H Q (bodyOf Try.f71) (by kernel_rfl) (by kernel_rfl) (by kernel_rfl) h

def kp.slices_breakPatternsOrdered_string : Keep := { keep := fun n => [[0, 1, 2], [0, 1, 6], [0, 1, 6], [0, 1, 6, 7], [0, 1, 6, 7, 8], [0, 1, 6, 7, 8, 9], [0, 1, 6, 7, 8, 9], [0, 1, 6, 7, 8, 9], [0, 1, 6, 7, 8, 9, 10], [0, 1, 6, 7, 8, 9, 10], [0, 1, 6, 7, 8, 9, 10]].getD n [], order := fun n => [[], [], [], [], [], [], [], [], [], [], [(0, 0), (1, 0), (2, 0), (3, 0), (4, 0), (5, 24), (6, 0), (7, 0), (8, 0), (9, 384), (10, 960), (11, 1984), (12, 0), (13, 0), (14, 12288), (15, 28672), (16, 65475), (17, 131011), (18, 262143), (19, 524287)]].getD n [] }
def pl.slices_breakPatternsOrdered_string (c : CallT) (Q : Value → AH → Prop) : Plan := [
  (15251, fun S T H => F.slices_breakPatternsOrdered_string_j1 (sy c) Q (S 0) (T 0) (T 1) (T 6) (T 7) (T 8) (T 9) (T 10) H),
  (238, fun S T H => F.slices_breakPatternsOrdered_string_l1 (sy c) Q (T 0) (T 1) (T 6) (T 7) (T 8) (T 9) H (S 0))]
theorem L.slices_breakPatternsOrdered_string (c : CallT) (x0 x1 x2 : Value) (H : AH) (Q : Value → AH → Prop) (h : F.slices_breakPatternsOrdered_string (sy c) x0 x1 x2 H Q) : evBody Try.prog c kp.slices_breakPatternsOrdered_string Try.f72 [x0, x1, x2] H Q :=
  evBody_of (pl := pl.slices_breakPatternsOrdered_string c Q) Try.f72 _ H Q (bodyOf Try.f72) (by kernel_rfl) (by kernel_rfl) (by kernel_rfl) h

def kp.slices_choosePivotOrdered_string : Keep := { keep := fun n => [[0, 1, 2], [0, 1, 2], [0, 1, 8], [0, 1, 8, 9], [0, 1, 8, 9, 10], [0, 1, 8, 9, 10, 11], [0, 8, 9, 10, 11, 12], [0, 8, 9, 10, 11, 12], [0, 9, 10, 11, 12], [0, 9, 10, 11, 12], [0, 9, 10, 11, 12], [0, 9, 10, 11, 12], [9, 11], [11], [11, 49], [11], [11, 49], [11]].getD n [], order := fun n => [].getD n [] }
def pl.slices_choosePivotOrdered_string (c : CallT) (Q : Value → AH → Prop) : Plan := [
  (255, fun S T H => F.slices_choosePivotOrdered_string_j1 (sy c) Q (T 9) (T 11) H),
  (2037, fun S T H => F.slices_choosePivotOrdered_string_j2 (sy c) Q (T 0) (T 9) (T 10) (T 11) (T 12) H)]
theorem L.slices_choosePivotOrdered_string (c : CallT) (x0 x1 x2 : Value) (H : AH) (Q : Value → AH → Prop) (h : F.slices_choosePivotOrdered_string (sy c) x0 x1 x2 H Q) : evBody Try.prog c kp.slices_choosePivotOrdered_string Try.f73 [x0, x1, x2] H Q :=
  evBody_of (pl := pl.slices_choosePivotOrdered_string c Q) Try.f73 _ H Q (bodyOf Try.f73) (by kernel_rfl) (by kernel_rfl) (by kernel_rfl) h

def kp.slices_reverseRangeOrdered_string : Keep := { keep := fun n => [[0, 1, 2], [0, 2, 6], [0, 6, 7], [0, 6, 7], [0, 6, 7], [0, 6, 7]].getD n [], order := fun n => [[], [], [], [(0, 0), (1, 0), (2, 0), (3, 0), (4, 0), (5, 0), (6, 48), (7, 112), (8, 0), (9, 0), (10, 768), (11, 1792), (12, 4083), (13, 8179), (14, 16383), (15, 32767)]].getD n [] }
def pl.slices_reverseRangeOrdered_string (c : CallT) (Q : Value → AH → Prop) : Plan := [
  (14, fun S T H => F.slices_reverseRangeOrdered_string_l1 (sy c) Q (T 0) (T 6) (T 7) H (S 0))]
theorem L.slices_reverseRangeOrdered_string (c : CallT) (x0 x1 x2 : Value) (H : AH) (Q : Value → AH → Prop) (h : F.slices_reverseRangeOrdered_string (sy c) x0 x1 x2 H Q) : evBody Try.prog c kp.slices_reverseRangeOrdered_string Try.f74 [x0, x1, x2] H Q :=
  evBody_of (pl := pl.slices_reverseRangeOrdered_string c Q) Try.f74 _ H Q (bodyOf Try.f74) (by kernel_rfl) (by kernel_rfl) (by kernel_rfl) h

def kp.slices_partialInsertionSortOrdered_string : Keep := { keep := fun n => [[0, 1, 2], [0, 1, 2], [0, 1, 2, 7], [0, 1, 2, 7, 8], [0, 1, 2, 7, 8], [0, 1, 2, 7, 8], [0, 1, 2, 7, 8], [0, 1, 2, 7, 8], [], [0, 1, 2, 7, 8], [], [0, 1, 2, 7, 8], [0, 1, 2, 7, 8], [0, 1, 2, 7, 8], [0, 1, 2, 7, 8, 9], [0, 1, 2, 7, 8, 9], [0, 1, 2, 7, 8, 9], [0, 1, 2, 7, 8, 9], [0, 1, 2, 7, 8], [0, 1, 2, 7, 8], [0, 1, 2, 7, 8, 10], [0, 1, 2, 7, 8, 10], [0, 1, 2, 7, 8, 10], [0, 1, 2, 7, 8, 10], []].getD n [], order := fun n => [[], [], [], [], [], [(0, 0), (1, 0), (2, 3), (3, 7), (4, 15), (5, 15), (6, 63), (7, 127), (8, 15), (9, 15), (10, 527), (11, 1807), (12, 3855), (13, 8191), (14, 16383), (15, 32767)], [], [], [], [], [], [(0, 0), (1, 0), (2, 0), (3, 0), (4, 8), (5, 0), (6, 0), (7, 64), (8, 224), (9, 480), (10, 0), (11, 0), (12, 3072), (13, 7168), (14, 16355), (15, 32739), (16, 65535), (17, 131071)], [], [], [], [], [(0, 0), (1, 0), (2, 3), (3, 7), (4, 0), (5, 0), (6, 32), (7, 112), (8, 240), (9, 511), (10, 1023)], [(0, 0), (1, 0), (2, 0), (3, 0), (4, 8), (5, 0), (6, 0), (7, 64), (8, 224), (9, 480), (10, 0), (11, 0), (12, 3072), (13, 7168), (14, 16355), (15, 32739), (16, 65535), (17, 131071)], [], [], [], [], [(0, 0), (1, 0), (2, 3), (3, 7), (4, 0), (5, 0), (6, 32), (7, 112), (8, 240), (9, 511), (10, 1023)], [(0, 0), (1, 0), (2, 0), (3, 0), (4, 8), (5, 0), (6, 0), (7, 64), (8, 224), (9, 480), (10, 0), (11, 0), (12, 3072), (13, 7168), (14, 16355), (15, 32739), (16, 65535), (17, 131071)]].getD n [] }
def pl.slices_partialInsertionSortOrdered_string (c : CallT) (Q : Value → AH → Prop) : Plan := [
  (477690, fun S T H => F.slices_partialInsertionSortOrdered_string_l3 (sy c) Q (S 1) (T 0) (T 1) (T 2) (T 7) (T 8) (T 10) H (S 0)),
  (29855, fun S T H => F.slices_partialInsertionSortOrdered_string_j1 (sy c) Q (S 0) (T 0) (T 1) (T 2) (T 7) (T 8) H),
  (477674, fun S T H => F.slices_partialInsertionSortOrdered_string_l4 (sy c) Q (S 1) (T 0) (T 1) (T 2) (T 7) (T 8) (T 9) H (S 0)),
  (3728, fun S T H => F.slices_partialInsertionSortOrdered_string_l2 (sy c) Q (S 1) (T 0) (T 1) (T 2) (T 7) (T 8) H (S 0)),
  (58, fun S T H => F.slices_partialInsertionSortOrdered_string_l1 (sy c) Q (T 0) (T 1) (T 2) (T 7) (T 8) H (S 0))]
theorem L.slices_partialInsertionSortOrdered_string (c : CallT) (x0 x1 x2 : Value) (H : AH) (Q : Value → AH → Prop) (h : F.slices_partialInsertionSortOrdered_string (sy c) x0 x1 x2 H Q) : evBody Try.prog c kp.slices_partialInsertionSortOrdered_string Try.f75 [x0, x1, x2] H Q :=
  evBody_of (pl := pl.slices_partialInsertionSortOrdered_string c Q) Try.f75 _ H Q (bodyOf Try.f75) (by kernel_rfl) (by kernel_rfl) (by kernel_rfl) h

def kp.cmp_Less_string : Keep := { keep := fun n => [[0, 1], [0, 1]].getD n [], order := fun n => [].getD n [] }
theorem L.cmp_Less_string (c : CallT) (x0 x1 : Value) (H : AH) (Q : Value → AH → Prop) (h : F.cmp_Less_string (sy c) x0 x1 H Q) : evBody Try.prog c kp.cmp_Less_string Try.f76 [x0, x1] H Q :=
  evBody_of (pl := []) Try.f76 _ H Q (bodyOf Try.f76) (by kernel_rfl) (by kernel_rfl) (by kernel_rfl) h

def kp.slices_partitionEqualOrdered_string : Keep := { keep := fun n => [[0, 1, 2, 3], [0, 1, 2, 3], [0, 1, 2], [0, 1, 9, 10], [0, 1, 9, 10], [0, 1, 9, 10], [0, 1, 9, 10], [0, 1, 9, 10], [0, 1, 9, 10], [0, 1, 9, 10], [0, 1, 9, 10], [9]].getD n [], order := fun n => [[], [(0, 0), (1, 0), (2, 0), (3, 0), (4, 0), (5, 0), (6, 48), (7, 112), (8, 0), (9, 0), (10, 768), (11, 1792), (12, 4083), (13, 8179), (14, 16383), (15, 32767)], [], [(0, 0), (1, 0), (2, 3), (3, 7), (4, 15), (5, 15), (6, 63), (7, 127), (8, 15), (9, 15), (10, 783), (11, 1807), (12, 4095), (13, 8191), (14, 16383)], [], [(0, 0), (1, 0), (2, 3), (3, 7), (4, 15), (5, 15), (6, 63), (7, 127), (8, 15), (9, 15), (10, 783), (11, 1807), (12, 4095), (13, 8191)], [], [], [(0, 0), (1, 0), (2, 0), (3, 0), (4, 0), (5, 0), (6, 48), (7, 112), (8, 0), (9, 0), (10, 768), (11, 1792), (12, 4083), (13, 8179), (14, 16383), (15, 32767)]].getD n [] }
def pl.slices_partitionEqualOrdered_string (c : CallT) (Q : Value → AH → Prop) : Plan := [
  (1924, fun S T H => F.slices_partitionEqualOrdered_string_l3 (sy c) Q (S 1) (T 0) (T 1) (T 9) (T 10) H (S 0)),
  (960, fun S T H => F.slices_partitionEqualOrdered_string_l2 (sy c) Q (S 1) (T 0) (T 1) (T 9) (T 10) H (S 0)),
  (60, fun S T H => F.slices_partitionEqualOrdered_string_l1 (sy c) Q (T 0) (T 1) (T 9) (T 10) H (S 0))]
theorem L.slices_partitionEqualOrdered_string (c : CallT) (x0 x1 x2 x3 : Value) (H : AH) (Q : Value → AH → Prop) (h : F.slices_partitionEqualOrdered_string (sy c) x0 x1 x2 x3 H Q) : evBody Try.prog c kp.slices_partitionEqualOrdered_string Try.f77 [x0, x1, x2, x3] H Q :=
  evBody_of (pl := pl.slices_partitionEqualOrdered_string c Q) Try.f77 _ H Q (bodyOf Try.f77) (by kernel_rfl) (by kernel_rfl) (by kernel_rfl) h

def kp.slices_partitionOrdered_string : Keep := { keep := fun n => [[0, 1, 2, 3], [0, 1, 2, 3], [0, 1, 2], [0, 1, 10, 11], [0, 1, 10, 11], [0, 1, 10, 11], [0, 1, 10, 11], [0, 1, 10, 11], [0, 1, 11], [11], [0, 1, 10, 11], [0, 1, 10, 11], [0, 1, 10, 11], [0, 1, 10, 11], [0, 1, 10, 11], [0, 1, 10, 11], [0, 1, 10, 11], [0, 1, 10, 11], [0, 1, 10, 11], [0, 1, 10, 11], [0, 1, 10, 11], [0, 1, 11], [11]].getD n [], order := fun n => [[], [(0, 0), (1, 0), (2, 0), (3, 0), (4, 0), (5, 0), (6, 48), (7, 112), (8, 0), (9, 0), (10, 768), (11, 1792), (12, 4083), (13, 8179), (14, 16383), (15, 32767)], [], [(0, 0), (1, 0), (2, 3), (3, 7), (4, 15), (5, 15), (6, 63), (7, 127), (8, 15), (9, 15), (10, 783), (11, 1807), (12, 4095), (13, 8191)], [], [(0, 0), (1, 0), (2, 3), (3, 7), (4, 15), (5, 15), (6, 63), (7, 127), (8, 15), (9, 15), (10, 783), (11, 1807), (12, 4095), (13, 8191), (14, 16383)], [], [], [(0, 0), (1, 0), (2, 0), (3, 0), (4, 0), (5, 0), (6, 48), (7, 112), (8, 0), (9, 0), (10, 768), (11, 1792), (12, 4083), (13, 8179), (14, 16383), (15, 32767)], [], [(0, 0), (1, 0), (2, 0), (3, 0), (4, 0), (5, 0), (6, 48), (7, 112), (8, 0), (9, 0), (10, 768), (11, 1792), (12, 4083), (13, 8179), (14, 16383), (15, 32767)], [], [], [(0, 0), (1, 0), (2, 3), (3, 7), (4, 15), (5, 15), (6, 63), (7, 127), (8, 15), (9, 15), (10, 783), (11, 1807), (12, 4095), (13, 8191)], [], [(0, 0), (1, 0), (2, 3), (3, 7), (4, 15), (5, 15), (6, 63), (7, 127), (8, 15), (9, 15), (10, 783), (11, 1807), (12, 4095), (13, 8191), (14, 16383)], [], [], [(0, 0), (1, 0), (2, 0), (3, 0), (4, 0), (5, 0), (6, 48), (7, 112), (8, 0), (9, 0), (10, 768), (11, 1792), (12, 4083), (13, 8179), (14, 16383), (15, 32767)], [], [], [(0, 0), (1, 0), (2, 0), (3, 0), (4, 0), (5, 0), (6, 48), (7, 112), (8, 0), (9, 0), (10, 768), (11, 1792), (12, 4083), (13, 8179), (14, 16383), (15, 32767)]].getD n [] }
def pl.slices_partitionOrdered_string (c : CallT) (Q : Value → AH → Prop) : Plan := [
  (130948, fun S T H => F.slices_partitionOrdered_string_l5 (sy c) Q (S 1) (T 0) (T 1) (T 10) (T 11) H (S 0)),
  (65472, fun S T H => F.slices_partitionOrdered_string_l4 (sy c) Q (S 1) (T 0) (T 1) (T 10) (T 11) H (S 0)),
  (4092, fun S T H => F.slices_partitionOrdered_string_l3 (sy c) Q (T 0) (T 1) (T 10) (T 11) H (S 0)),
  (124, fun S T H => F.slices_partitionOrdered_string_l2 (sy c) Q (T 0) (T 1) (T 10) (T 11) H (S 0)),
  (60, fun S T H => F.slices_partitionOrdered_string_l1 (sy c) Q (T 0) (T 1) (T 10) (T 11) H (S 0))]
theorem L.slices_partitionOrdered_string (c : CallT) (x0 x1 x2 x3 : Value) (H : AH) (Q : Value → AH → Prop) (h : F.slices_partitionOrdered_string (sy c) x0 x1 x2 x3 H Q) : evBody Try.prog c kp.slices_partitionOrdered_string Try.f78 [x0, x1, x2, x3] H Q :=
  evBody_of (pl := pl.slices_partitionOrdered_string c Q) Try.f78 _ H Q (bodyOf Try.f78) (by kernel_rfl) (by kernel_rfl) (by kernel_rfl) h

def kp.slices_insertionSortOrdered_inode_Number : Keep := { keep := fun n => [[0, 1, 2], [0, 1, 2, 6], [0, 1, 2, 6], [0, 1, 2, 6], [0, 1, 2, 6, 7], [0, 1, 2, 6, 7], [0, 1, 2, 6, 7]].getD n [], order := fun n => [[], [], [], [], [(0, 0), (1, 0), (2, 3), (3, 7), (4, 15), (5, 15), (6, 63), (7, 127), (8, 15), (9, 15), (10, 527), (11, 1807), (12, 3855), (13, 8191), (14, 16383)], [], [(0, 0), (1, 0), (2, 0), (3, 0), (4, 8), (5, 0), (6, 0), (7, 64), (8, 224), (9, 480), (10, 0), (11, 0), (12, 3072), (13, 7168), (14, 16355), (15, 32739), (16, 65535), (17, 131071)]].getD n [] }
def pl.slices_insertionSortOrdered_inode_Number (c : CallT) (Q : Value → AH → Prop) : Plan := [
  (402, fun S T H => F.slices_insertionSortOrdered_inode_Number_l2 (sy c) Q (S 1) (T 0) (T 1) (T 2) (T 6) (T 7) H (S 0)),
  (6, fun S T H => F.slices_insertionSortOrdered_inode_Number_l1 (sy c) Q (T 0) (T 1) (T 2) (T 6) H (S 0))]
theorem L.slices_insertionSortOrdered_inode_Number (c : CallT) (x0 x1 x2 : Value) (H : AH) (Q : Value → AH → Prop) (h : F.slices_insertionSortOrdered_inode_Number (sy c) x0 x1 x2 H Q) : evBody Try.prog c kp.slices_insertionSortOrdered_inode_Number Try.f81 [x0, x1, x2] H Q :=
  evBody_of (pl := pl.slices_insertionSortOrdered_inode_Number c Q) Try.f81 _ H Q (bodyOf Try.f81) (by kernel_rfl) (by kernel_rfl) (by kernel_rfl) h

def kp.slices_heapSortOrdered_inode_Number : Keep := { keep := fun n => [[0, 1, 2], [0, 1, 2, 6], [0, 1, 2, 6, 7], [0, 6, 7, 8], [0, 6, 7, 8, 9], [0, 6, 7, 8, 9], [0, 6, 7, 8, 9], [0, 6, 7, 8], [0, 6, 7, 10], [0, 6, 7, 10], [0, 6, 7, 10], [0, 6, 7, 10]].getD n [], order := fun n => [[], [], [], [], [], [], [], [], [], [], [(0, 0), (1, 0), (2, 0), (3, 0), (4, 0), (5, 24), (6, 0), (7, 0), (8, 0), (9, 384), (10, 960), (11, 1984), (12, 0), (13, 0), (14, 12288), (15, 28672), (16, 65475), (17, 131011), (18, 262143), (19, 524287)]].getD n [] }
def pl.slices_heapSortOrdered_inode_Number (c : CallT) (Q : Value → AH → Prop) : Plan := [
  (126, fun S T H => F.slices_heapSortOrdered_inode_Number_l2 (sy c) Q (T 0) (T 6) (T 7) (T 10) H (S 0)),
  (122, fun S T H => F.slices_heapSortOrdered_inode_Number_l1 (sy c) Q (T 0) (T 6) (T 7) (T 8) (T 9) H (S 0))]
theorem L.slices_heapSortOrdered_inode_Number (c : CallT) (x0 x1 x2 : Value) (H : AH) (Q : Value → AH → Prop) (h : F.slices_heapSortOrdered_inode_Number (sy c) x0 x1 x2 H Q) : evBody Try.prog c kp.slices_heapSortOrdered_inode_Number Try.f82 [x0, x1, x2] H Q :=
  evBody_of (pl := pl.slices_heapSortOrdered_inode_Number c Q) Try.f82 _ H Q (bodyOf Try.f82) (by kernel_rfl) (by kernel_rfl) (by kernel_rfl) h

def kp.slices_breakPatternsOrdered_inode_Number : Keep := { keep := fun n => [[0, 1, 2], [0, 1, 6], [0, 1, 6], [0, 1, 6, 7], [0, 1, 6, 7, 8], [0, 1, 6, 7, 8, 9], [0, 1, 6, 7, 8, 9], [0, 1, 6, 7, 8, 9], [0, 1, 6, 7, 8, 9, 10], [0, 1, 6, 7, 8, 9, 10], [0, 1, 6, 7, 8, 9, 10]].getD n [], order := fun n => [[], [], [], [], [], [], [], [], [], [], [(0, 0), (1, 0), (2, 0), (3, 0), (4, 0), (5, 24), (6, 0), (7, 0), (8, 0), (9, 384), (10, 960), (11, 1984), (12, 0), (13, 0), (14, 12288), (15, 28672), (16, 65475), (17, 131011), (18, 262143), (19, 524287)]].getD n [] }
def pl.slices_breakPatternsOrdered_inode_Number (c : CallT) (Q : Value → AH → Prop) : Plan := [
  (15251, fun S T H => F.slices_breakPatternsOrdered_inode_Number_j1 (sy c) Q (S 0) (T 0) (T 1) (T 6) (T 7) (T 8) (T 9) (T 10) H),
  (238, fun S T H => F.slices_breakPatternsOrdered_inode_Number_l1 (sy c) Q (T 0) (T 1) (T 6) (T 7) (T 8) (T 9) H (S 0))]
theorem L.slices_breakPatternsOrdered_inode_Number (c : CallT) (x0 x1 x2 : Value) (H : AH) (Q : Value → AH → Prop) (h : F.slices_breakPatternsOrdered_inode_Number (sy c) x0 x1 x2 H Q) : evBody Try.prog c kp.slices_breakPatternsOrdered_inode_Number Try.f83 [x0, x1, x2] H Q :=
  evBody_of (pl := pl.slices_breakPatternsOrdered_inode_Number c Q) Try.f83 _ H Q (bodyOf Try.f83) (by kernel_rfl) (by kernel_rfl) (by kernel_rfl) h

def kp.slices_choosePivotOrdered_inode_Number : Keep := { keep := fun n => [[0, 1, 2], [0, 1, 2], [0, 1, 8], [0, 1, 8, 9], [0, 1, 8, 9, 10], [0, 1, 8, 9, 10, 11], [0, 8, 9, 10, 11, 12], [0, 8, 9, 10, 11, 12], [0, 9, 10, 11, 12], [0, 9, 10, 11, 12], [0, 9, 10, 11, 12], [0, 9, 10, 11, 12], [9, 11], [11], [11, 49], [11], [11, 49], [11]].getD n [], order := fun n => [].getD n [] }
def pl.slices_choosePivotOrdered_inode_Number (c : CallT) (Q : Value → AH → Prop) : Plan := [
  (255, fun S T H => F.slices_choosePivotOrdered_inode_Number_j1 (sy c) Q (T 9) (T 11) H),
  (2037, fun S T H => F.slices_choosePivotOrdered_inode_Number_j2 (sy c) Q (T 0) (T 9) (T 10) (T 11) (T 12) H)]
theorem L.slices_choosePivotOrdered_inode_Number (c : CallT) (x0 x1 x2 : Value) (H : AH) (Q : Value → AH → Prop) (h : F.slices_choosePivotOrdered_inode_Number (sy c) x0 x1 x2 H Q) : evBody Try.prog c kp.slices_choosePivotOrdered_inode_Number Try.f84 [x0, x1, x2] H Q :=
  evBody_of (pl := pl.slices_choosePivotOrdered_inode_Number c Q) Try.f84 _ H Q (bodyOf Try.f84) (by kernel_rfl) (by kernel_rfl) (by kernel_rfl) h

def kp.slices_reverseRangeOrdered_inode_Number : Keep := { keep := fun n => [[0, 1, 2], [0, 2, 6], [0, 6, 7], [0, 6, 7], [0, 6, 7], [0, 6, 7]].getD n [], order := fun n => [[], [], [], [(0, 0), (1, 0), (2, 0), (3, 0), (4, 0), (5, 0), (6, 48), (7, 112), (8, 0), (9, 0), (10, 768), (11, 1792), (12, 4083), (13, 8179), (14, 16383), (15, 32767)]].getD n [] }
def pl.slices_reverseRangeOrdered_inode_Number (c : CallT) (Q : Value → AH → Prop) : Plan := [
  (14, fun S T H => F.slices_reverseRangeOrdered_inode_Number_l1 (sy c) Q (T 0) (T 6) (T 7) H (S 0))]
theorem L.slices_reverseRangeOrdered_inode_Number (c : CallT) (x0 x1 x2 : Value) (H : AH) (Q : Value → AH → Prop) (h : F.slices_reverseRangeOrdered_inode_Number (sy c) x0 x1 x2 H Q) : evBody Try.prog c kp.slices_reverseRangeOrdered_inode_Number Try.f85 [x0, x1, x2] H Q :=
  evBody_of (pl := pl.slices_reverseRangeOrdered_inode_Number c Q) Try.f85 _ H Q (bodyOf Try.f85) (by kernel_rfl) (by kernel_rfl) (by kernel_rfl) h

def kp.slices_partialInsertionSortOrdered_inode_Number : Keep := { keep := fun n => [[0, 1, 2], [0, 1, 2], [0, 1, 2, 7], [0, 1, 2, 7, 8], [0, 1, 2, 7, 8], [0, 1, 2, 7, 8], [0, 1, 2, 7, 8], [0, 1, 2, 7, 8], [], [0, 1, 2, 7, 8], [], [0, 1, 2, 7, 8], [0, 1, 2, 7, 8], [0, 1, 2, 7, 8], [0, 1, 2, 7, 8, 9], [0, 1, 2, 7, 8, 9], [0, 1, 2, 7, 8, 9], [0, 1, 2, 7, 8, 9], [0, 1, 2, 7, 8], [0, 1, 2, 7, 8], [0, 1, 2, 7, 8, 10], [0, 1, 2, 7, 8, 10], [0, 1, 2, 7, 8, 10], [0, 1, 2, 7, 8, 10], []].getD n [], order := fun n => [[], [], [], [], [], [(0, 0), (1, 0), (2, 3), (3, 7), (4, 15), (5, 15), (6, 63), (7, 127), (8, 15), (9, 15), (10, 527), (11, 1807), (12, 3855), (13, 8191), (14, 16383), (15, 32767)], [], [], [], [], [], [(0, 0), (1, 0), (2, 0), (3, 0), (4, 8), (5, 0), (6, 0), (7, 64), (8, 224), (9, 480), (10, 0), (11, 0), (12, 3072), (13, 7168), (14, 16355), (15, 32739), (16, 65535), (17, 131071)], [], [], [], [], [(0, 0), (1, 0), (2, 3), (3, 7), (4, 0), (5, 0), (6, 32), (7, 112), (8, 240), (9, 511), (10, 1023)], [(0, 0), (1, 0), (2, 0), (3, 0), (4, 8), (5, 0), (6, 0), (7, 64), (8, 224), (9, 480), (10, 0), (11, 0), (12, 3072), (13, 7168), (14, 16355), (15, 32739), (16, 65535), (17, 131071)], [], [], [], [], [(0, 0), (1, 0), (2, 3), (3, 7), (4, 0), (5, 0), (6, 32), (7, 112), (8, 240), (9, 511), (10, 1023)], [(0, 0), (1, 0), (2, 0), (3, 0), (4, 8), (5, 0), (6, 0), (7, 64), (8, 224), (9, 480), (10, 0), (11, 0), (12, 3072), (13, 7168), (14, 16355), (15, 32739), (16, 65535), (17, 131071)]].getD n [] }
def pl.slices_partialInsertionSortOrdered_inode_Number (c : CallT) (Q : Value → AH → Prop) : Plan := [
  (477690, fun S T H => F.slices_partialInsertionSortOrdered_inode_Number_l3 (sy c) Q (S 1) (T 0) (T 1) (T 2) (T 7) (T 8) (T 10) H (S 0)),
  (29855, fun S T H => F.slices_partialInsertionSortOrdered_inode_Number_j1 (sy c) Q (S 0) (T 0) (T 1) (T 2) (T 7) (T 8) H),
  (477674, fun S T H => F.slices_partialInsertionSortOrdered_inode_Number_l4 (sy c) Q (S 1) (T 0) (T 1) (T 2) (T 7) (T 8) (T 9) H (S 0)),
  (3728, fun S T H => F.slices_partialInsertionSortOrdered_inode_Number_l2 (sy c) Q (S 1) (T 0) (T 1) (T 2) (T 7) (T 8) H (S 0)),
  (58, fun S T H => F.slices_partialInsertionSortOrdered_inode_Number_l1 (sy c) Q (T 0) (T 1) (T 2) (T 7) (T 8) H (S 0))]
theorem L.slices_partialInsertionSortOrdered_inode_Number (c : CallT) (x0 x1 x2 : Value) (H : AH) (Q : Value → AH → Prop) (h : F.slices_partialInsertionSortOrdered_inode_Number (sy c) x0 x1 x2 H Q) : evBody Try.prog c kp.slices_partialInsertionSortOrdered_inode_Number Try.f86 [x0, x1, x2] H Q :=
  evBody_of (pl := pl.slices_partialInsertionSortOrdered_inode_Number c Q) Try.f86 _ H Q (bodyOf Try.f86) (by kernel_rfl) (by kernel_rfl) (by kernel_rfl) h

def kp.cmp_Less_inode_Number : Keep := { keep := fun n => [[0, 1], [0, 1]].getD n [], order := fun n => [].getD n [] }
theorem L.cmp_Less_inode_Number (c : CallT) (x0 x1 : Value) (H : AH) (Q : Value → AH → Prop) (h : F.cmp_Less_inode_Number (sy c) x0 x1 H Q) : evBody Try.prog c kp.cmp_Less_inode_Number Try.f87 [x0, x1] H Q :=
  evBody_of (pl := []) Try.f87 _ H Q (bodyOf Try.f87) (by kernel_rfl) (by kernel_rfl) (by kernel_rfl) h

def kp.slices_partitionEqualOrdered_inode_Number : Keep := { keep := fun n => [[0, 1, 2, 3], [0, 1, 2, 3], [0, 1, 2], [0, 1, 9, 10], [0, 1, 9, 10], [0, 1, 9, 10], [0, 1, 9, 10], [0, 1, 9, 10], [0, 1, 9, 10], [0, 1, 9, 10], [0, 1, 9, 10], [9]].getD n [], order := fun n => [[], [(0, 0), (1, 0), (2, 0), (3, 0), (4, 0), (5, 0), (6, 48), (7, 112), (8, 0), (9, 0), (10, 768), (11, 1792), (12, 4083), (13, 8179), (14, 16383), (15, 32767)], [], [(0, 0), (1, 0), (2, 3), (3, 7), (4, 15), (5, 15), (6, 63), (7, 127), (8, 15), (9, 15), (10, 783), (11, 1807), (12, 4095), (13, 8191), (14, 16383)], [], [(0, 0), (1, 0), (2, 3), (3, 7), (4, 15), (5, 15), (6, 63), (7, 127), (8, 15), (9, 15), (10, 783), (11, 1807), (12, 4095), (13, 8191)], [], [], [(0, 0), (1, 0), (2, 0), (3, 0), (4, 0), (5, 0), (6, 48), (7, 112), (8, 0), (9, 0), (10, 768), (11, 1792), (12, 4083), (13, 8179), (14, 16383), (15, 32767)]].getD n [] }
def pl.slices_partitionEqualOrdered_inode_Number (c : CallT) (Q : Value → AH → Prop) : Plan := [
  (1924, fun S T H => F.slices_partitionEqualOrdered_inode_Number_l3 (sy c) Q (S 1) (T 0) (T 1) (T 9) (T 10) H (S 0)),
  (960, fun S T H => F.slices_partitionEqualOrdered_inode_Number_l2 (sy c) Q (S 1) (T 0) (T 1) (T 9) (T 10) H (S 0)),
  (60, fun S T H => F.slices_partitionEqualOrdered_inode_Number_l1 (sy c) Q (T 0) (T 1) (T 9) (T 10) H (S 0))]
theorem L.slices_partitionEqualOrdered_inode_Number (c : CallT) (x0 x1 x2 x3 : Value) (H : AH) (Q : Value → AH → Prop) (h : F.slices_partitionEqualOrdered_inode_Number (sy c) x0 x1 x2 x3 H Q) : evBody Try.prog c kp.slices_partitionEqualOrdered_inode_Number Try.f88 [x0, x1, x2, x3] H Q :=
  evBody_of (pl := pl.slices_partitionEqualOrdered_inode_Number c Q) Try.f88 _ H Q (bodyOf Try.f88) (by kernel_rfl) (by kernel_rfl) (by kernel_rfl) h

def kp.slices_partitionOrdered_inode_Number : Keep := { keep := fun n => [[0, 1, 2, 3], [0, 1, 2, 3], [0, 1, 2], [0, 1, 10, 11], [0, 1, 10, 11], [0, 1, 10, 11], [0, 1, 10, 11], [0, 1, 10, 11], [0, 1, 11], [11], [0, 1, 10, 11], [0, 1, 10, 11], [0, 1, 10, 11], [0, 1, 10, 11], [0, 1, 10, 11], [0, 1, 10, 11], [0, 1, 10, 11], [0, 1, 10, 11], [0, 1, 10, 11], [0, 1, 10, 11], [0, 1, 10, 11], [0, 1, 11], [11]].getD n [], order := fun n => [[], [(0, 0), (1, 0), (2, 0), (3, 0), (4, 0), (5, 0), (6, 48), (7, 112), (8, 0), (9, 0), (10, 768), (11, 1792), (12, 4083), (13, 8179), (14, 16383), (15, 32767)], [], [(0, 0), (1, 0), (2, 3), (3, 7), (4, 15), (5, 15), (6, 63), (7, 127), (8, 15), (9, 15), (10, 783), (11, 1807), (12, 4095), (13, 8191)], [], [(0, 0), (1, 0), (2, 3), (3, 7), (4, 15), (5, 15), (6, 63), (7, 127), (8, 15), (9, 15), (10, 783), (11, 1807), (12, 4095), (13, 8191), (14, 16383)], [], [], [(0, 0), (1, 0), (2, 0), (3, 0), (4, 0), (5, 0), (6, 48), (7, 112), (8, 0), (9, 0), (10, 768), (11, 1792), (12, 4083), (13, 8179), (14, 16383), (15, 32767)], [], [(0, 0), (1, 0), (2, 0), (3, 0), (4, 0), (5, 0), (6, 48), (7, 112), (8, 0), (9, 0), (10, 768), (11, 1792), (12, 4083), (13, 8179), (14, 16383), (15, 32767)], [], [], [(0, 0), (1, 0), (2, 3), (3, 7), (4, 15), (5, 15), (6, 63), (7, 127), (8, 15), (9, 15), (10, 783), (11, 1807), (12, 4095), (13, 8191)], [], [(0, 0), (1, 0), (2, 3), (3, 7), (4, 15), (5, 15), (6, 63), (7, 127), (8, 15), (9, 15), (10, 783), (11, 1807), (12, 4095), (13, 8191), (14, 16383)], [], [], [(0, 0), (1, 0), (2, 0), (3, 0), (4, 0), (5, 0), (6, 48), (7, 112), (8, 0), (9, 0), (10, 768), (11, 1792), (12, 4083), (13, 8179), (14, 16383), (15, 32767)], [], [], [(0, 0), (1, 0), (2, 0), (3, 0), (4, 0), (5, 0), (6, 48), (7, 112), (8, 0), (9, 0), (10, 768), (11, 1792), (12, 4083), (13, 8179), (14, 16383), (15, 32767)]].getD n [] }
def pl.slices_partitionOrdered_inode_Number (c : CallT) (Q : Value → AH → Prop) : Plan := [
  (130948, fun S T H => F.slices_partitionOrdered_inode_Number_l5 (sy c) Q (S 1) (T 0) (T 1) (T 10) (T 11) H (S 0)),
  (65472, fun S T H => F.slices_partitionOrdered_inode_Number_l4 (sy c) Q (S 1) (T 0) (T 1) (T 10) (T 11) H (S 0)),
  (4092, fun S T H => F.slices_partitionOrdered_inode_Number_l3 (sy c) Q (T 0) (T 1) (T 10) (T 11) H (S 0)),
  (124, fun S T H => F.slices_partitionOrdered_inode_Number_l2 (sy c) Q (T 0) (T 1) (T 10) (T 11) H (S 0)),
  (60, fun S T H => F.slices_partitionOrdered_inode_Number_l1 (sy c) Q (T 0) (T 1) (T 10) (T 11) H (S 0))]
theorem L.slices_partitionOrdered_inode_Number (c : CallT) (x0 x1 x2 x3 : Value) (H : AH) (Q : Value → AH → Prop) (h : F.slices_partitionOrdered_inode_Number (sy c) x0 x1 x2 x3 H Q) : evBody Try.prog c kp.slices_partitionOrdered_inode_Number Try.f89 [x0, x1, x2, x3] H Q :=
  evBody_of (pl := pl.slices_partitionOrdered_inode_Number c Q) Try.f89 _ H Q (bodyOf Try.f89) (by kernel_rfl) (by kernel_rfl) (by kernel_rfl) h

def kp.slices_siftDownOrdered_string : Keep := { keep := fun n => [[0, 1, 2, 3], [0, 2, 3, 8], [0, 2, 3, 8, 9], [0, 2, 3, 8, 9], [0, 2, 3, 8, 9], [0, 2, 3, 8, 9], [0, 2, 3, 8, 9], [0, 2, 3, 9]].getD n [], order := fun n => [[], [], [], [(0, 0), (1, 1), (2, 0), (3, 7), (4, 15), (5, 31), (6, 31), (7, 31), (8, 223), (9, 511), (10, 1023), (11, 31), (12, 31), (13, 31), (14, 12319), (15, 28703), (16, 63519), (17, 129055), (18, 262143), (19, 524287)], [], [(0, 0), (1, 0), (2, 0), (3, 6), (4, 15), (5, 31), (6, 0), (7, 0), (8, 0), (9, 384), (10, 960), (11, 1984), (12, 4095), (13, 8191)], [(0, 0), (1, 0), (2, 0), (3, 6), (4, 0), (5, 0), (6, 0), (7, 96), (8, 0), (9, 0), (10, 0), (11, 1536), (12, 3840), (13, 7936), (14, 0), (15, 0), (16, 0), (17, 98304), (18, 245760), (19, 507904), (20, 1048335), (21, 2096911), (22, 4194303), (23, 8388607)]].getD n [] }
def pl.slices_siftDownOrdered_string (c : CallT) (Q : Value → AH → Prop) : Plan := [
  (199, fun S T H => F.slices_siftDownOrdered_string_j1 (sy c) Q (S 0) (T 0) (T 2) (T 3) (T 8) (T 9) H),
  (6, fun S T H => F.slices_siftDownOrdered_string_l1 (sy c) Q (T 0) (T 2) (T 3) (T 8) H (S 0))]
theorem L.slices_siftDownOrdered_string (c : CallT) (x0 x1 x2 x3 : Value) (H : AH) (Q : Value → AH → Prop) (h : F.slices_siftDownOrdered_string (sy c) x0 x1 x2 x3 H Q) : evBody Try.prog c kp.slices_siftDownOrdered_string Try.f90 [x0, x1, x2, x3] H Q :=
  evBody_of (pl := pl.slices_siftDownOrdered_string c Q) Try.f90 _ H Q (bodyOf Try.f90) (by kernel_rfl) (by kernel_rfl) (by kernel_rfl) h

def kp.slices_nextPowerOfTwo : Keep := { keep := fun n => [[0], [0]].getD n [], order := fun n => [].getD n [] }
theorem L.slices_nextPowerOfTwo (c : CallT) (x0 : Value) (H : AH) (Q : Value → AH → Prop) (h : F.slices_nextPowerOfTwo (sy c) x0 H Q) : evBody Try.prog c kp.slices_nextPowerOfTwo Try.f91 [x0] H Q :=
  evBody_of (pl := []) Try.f91 _ H Q (bodyOf Try.f91) (by kernel_rfl) (by kernel_rfl) (by kernel_rfl) h

def kp.slices_xorshift_Next : Keep := { keep := fun n => [[0], [0], [0], [0], [0]].getD n [], order := fun n => [[], [(0, 0), (1, 1), (2, 3), (3, 0), (4, 8), (5, 24), (6, 56), (7, 127), (8, 255), (9, 511)], [(0, 0), (1, 1), (2, 3), (3, 0), (4, 8), (5, 24), (6, 56), (7, 127), (8, 255), (9, 511)], [(0, 0), (1, 1), (2, 3), (3, 0), (4, 8), (5, 24), (6, 56), (7, 127), (8, 255), (9, 511)]].getD n [] }
theorem L.slices_xorshift_Next (c : CallT) (x0 : Value) (H : AH) (Q : Value → AH → Prop) (h : F.slices_xorshift_Next (sy c) x0 H Q) : evBody Try.prog c kp.slices_xorshift_Next Try.f92 [x0] H Q :=
  evBody_of (pl := []) Try.f92 _ H Q (bodyOf Try.f92) (by kernel_rfl) (by kernel_rfl) (by kernel_rfl) h

def kp.slices_medianAdjacentOrdered_string : Keep := { keep := fun n => [[0, 1, 2], [0, 1, 2]].getD n [], order := fun n => [].getD n [] }
theorem L.slices_medianAdjacentOrdered_string (c : CallT) (x0 x1 x2 : Value) (H : AH) (Q : Value → AH → Prop) (h : F.slices_medianAdjacentOrdered_string (sy c) x0 x1 x2 H Q) : evBody Try.prog c kp.slices_medianAdjacentOrdered_string Try.f93 [x0, x1, x2] H Q :=
  evBody_of (pl := []) Try.f93 _ H Q (bodyOf Try.f93) (by kernel_rfl) (by kernel_rfl) (by kernel_rfl) h

def kp.slices_medianOrdered_string : Keep := { keep := fun n => [[0, 1, 2, 3, 4], [0, 1, 2, 3, 4], [0, 1, 2, 3, 4], [0, 1, 2, 4], [2]].getD n [], order := fun n => [].getD n [] }
theorem L.slices_medianOrdered_string (c : CallT) (x0 x1 x2 x3 x4 : Value) (H : AH) (Q : Value → AH → Prop) (h : F.slices_medianOrdered_string (sy c) x0 x1 x2 x3 x4 H Q) : evBody Try.prog c kp.slices_medianOrdered_string Try.f94 [x0, x1, x2, x3, x4] H Q :=
  evBody_of (pl := []) Try.f94 _ H Q (bodyOf Try.f94) (by kernel_rfl) (by kernel_rfl) (by kernel_rfl) h

def kp.cmp_isNaN_string : Keep := { keep := fun n => [[0], [0]].getD n [], order := fun n => [].getD n [] }
theorem L.cmp_isNaN_string (c : CallT) (x0 : Value) (H : AH) (Q : Value → AH → Prop) (h : F.cmp_isNaN_string (sy c) x0 H Q) : evBody Try.prog c kp.cmp_isNaN_string Try.f95 [x0] H Q :=
  evBody_of (pl := []) Try.f95 _ H Q (bodyOf Try.f95) (by kernel_rfl) (by kernel_rfl) (by kernel_rfl) h

def kp.slices_siftDownOrdered_inode_Number : Keep := { keep := fun n => [[0, 1, 2, 3], [0, 2, 3, 8], [0, 2, 3, 8, 9], [0, 2, 3, 8, 9], [0, 2, 3, 8, 9], [0, 2, 3, 8, 9], [0, 2, 3, 8, 9], [0, 2, 3, 9]].getD n [], order := fun n => [[], [], [], [(0, 0), (1, 1), (2, 0), (3, 7), (4, 15), (5, 31), (6, 31), (7, 31), (8, 223), (9, 511), (10, 1023), (11, 31), (12, 31), (13, 31), (14, 12319), (15, 28703), (16, 63519), (17, 129055), (18, 262143), (19, 524287)], [], [(0, 0), (1, 0), (2, 0), (3, 6), (4, 15), (5, 31), (6, 0), (7, 0), (8, 0), (9, 384), (10, 960), (11, 1984), (12, 4095), (13, 8191)], [(0, 0), (1, 0), (2, 0), (3, 6), (4, 0), (5, 0), (6, 0), (7, 96), (8, 0), (9, 0), (10, 0), (11, 1536), (12, 3840), (13, 7936), (14, 0), (15, 0), (16, 0), (17, 98304), (18, 245760), (19, 507904), (20, 1048335), (21, 2096911), (22, 4194303), (23, 8388607)]].getD n [] }
def pl.slices_siftDownOrdered_inode_Number (c : CallT) (Q : Value → AH → Prop) : Plan := [
  (199, fun S T H => F.slices_siftDownOrdered_inode_Number_j1 (sy c) Q (S 0) (T 0) (T 2) (T 3) (T 8) (T 9) H),
  (6, fun S T H => F.slices_siftDownOrdered_inode_Number_l1 (sy c) Q (T 0) (T 2) (T 3) (T 8) H (S 0))]
theorem L.slices_siftDownOrdered_inode_Number (c : CallT) (x0 x1 x2 x3 : Value) (H : AH) (Q : Value → AH → Prop) (h : F.slices_siftDownOrdered_inode_Number (sy c) x0 x1 x2 x3 H Q) : evBody Try.prog c kp.slices_siftDownOrdered_inode_Number Try.f96 [x0, x1, x2, x3] H Q :=
  evBody_of (pl := pl.slices_siftDownOrdered_inode_Number c Q) Try.f96 _ H Q (bodyOf Try.f96) (by kernel_rfl) (by kernel_rfl) (by kernel_rfl) h

def kp.slices_medianAdjacentOrdered_inode_Number : Keep := { keep := fun n => [[0, 1, 2], [0, 1, 2]].getD n [], order := fun n => [].getD n [] }
theorem L.slices_medianAdjacentOrdered_inode_Number (c : CallT) (x0 x1 x2 : Value) (H : AH) (Q : Value → AH → Prop) (h : F.slices_medianAdjacentOrdered_inode_Number (sy c) x0 x1 x2 H Q) : evBody Try.prog c kp.slices_medianAdjacentOrdered_inode_Number Try.f97 [x0, x1, x2] H Q :=
  evBody_of (pl := []) Try.f97 _ H Q (bodyOf Try.f97) (by kernel_rfl) (by kernel_rfl) (by kernel_rfl) h

def kp.slices_medianOrdered_inode_Number : Keep := { keep := fun n => [[0, 1, 2, 3, 4], [0, 1, 2, 3, 4], [0, 1, 2, 3, 4], [0, 1, 2, 4], [2]].getD n [], order := fun n => [].getD n [] }
theorem L.slices_medianOrdered_inode_Number (c : CallT) (x0 x1 x2 x3 x4 : Value) (H : AH) (Q : Value → AH → Prop) (h : F.slices_medianOrdered_inode_Number (sy c) x0 x1 x2 x3 x4 H Q) : evBody Try.prog c kp.slices_medianOrdered_inode_Number Try.f98 [x0, x1, x2, x3, x4] H Q :=
  evBody_of (pl := []) Try.f98 _ H Q (bodyOf Try.f98) (by kernel_rfl) (by kernel_rfl) (by kernel_rfl) h

def kp.cmp_isNaN_inode_Number : Keep := { keep := fun n => [[0], [0]].getD n [], order := fun n => [].getD n [] }
theorem L.cmp_isNaN_inode_Number (c : CallT) (x0 : Value) (H : AH) (Q : Value → AH → Prop) (h : F.cmp_isNaN_inode_Number (sy c) x0 H Q) : evBody Try.prog c kp.cmp_isNaN_inode_Number Try.f99 [x0] H Q :=
  evBody_of (pl := []) Try.f99 _ H Q (bodyOf Try.f99) (by kernel_rfl) (by kernel_rfl) (by kernel_rfl) h

def kp.slices_order2Ordered_string : Keep := { keep := fun n => [[0, 1, 2, 3], [0, 1, 2, 3], [1, 2, 3], [1, 2], [1, 2]].getD n [], order := fun n => [[], [(0, 0), (1, 0), (2, 3), (3, 7), (4, 0), (5, 0), (6, 48), (7, 112), (8, 255)]].getD n [] }
theorem L.slices_order2Ordered_string (c : CallT) (x0 x1 x2 x3 : Value) (H : AH) (Q : Value → AH → Prop) (h : F.slices_order2Ordered_string (sy c) x0 x1 x2 x3 H Q) : evBody Try.prog c kp.slices_order2Ordered_string Try.f100 [x0, x1, x2, x3] H Q :=
  evBody_of (pl := []) Try.f100 _ H Q (bodyOf Try.f100) (by kernel_rfl) (by kernel_rfl) (by kernel_rfl) h

def kp.slices_order2Ordered_inode_Number : Keep := { keep := fun n => [[0, 1, 2, 3], [0, 1, 2, 3], [1, 2, 3], [1, 2], [1, 2]].getD n [], order := fun n => [[], [(0, 0), (1, 0), (2, 3), (3, 7), (4, 0), (5, 0), (6, 48), (7, 112), (8, 255)]].getD n [] }
theorem L.slices_order2Ordered_inode_Number (c : CallT) (x0 x1 x2 x3 : Value) (H : AH) (Q : Value → AH → Prop) (h : F.slices_order2Ordered_inode_Number (sy c) x0 x1 x2 x3 H Q) : evBody Try.prog c kp.slices_order2Ordered_inode_Number Try.f101 [x0, x1, x2, x3] H Q :=
  evBody_of (pl := []) Try.f101 _ H Q (bodyOf Try.f101) (by kernel_rfl) (by kernel_rfl) (by kernel_rfl) h

def kpL : List (Nat × Keep) := [(3, kp.pinfoldlaw16_InodeHeld), (4, kp.pinfoldlaw16_InodeFull), (5, kp.pinfoldlaw16_InodeNames), (6, kp.pinfoldlaw16_InodeDeep), (7, kp.pinfoldlaw16_InodeNone), (8, kp.pinfoldlaw16_InodeSpots), (9, kp.pinfoldlaw16_Awake), (10, kp.inode_New), (11, kp.inode_Table_Make), (12, kp.inode_Table_Hold), (13, kp.inode_Table_Write), (14, kp.inode_Table_Drop), (15, kp.inode_Table_Get), (16, kp.inode_Table_Move), (17, kp.inode_Table_Add), (18, kp.pinfoldref16_New), (19, kp.pinfoldref16_Tree_Make), (20, kp.inode_Table_Entries), (21, kp.inode_Name), (22, kp.pinfoldref16_Name), (23, kp.pinfoldref16_Tree_Len), (24, kp.inode_Table_Within), (25, kp.pinfoldref16_Tree_Within), (26, kp.pinfoldref16_Tree_Move), (27, kp.pinfoldlaw16_Same), (28, kp.inode_Table_Look), (29, kp.inode_Table_Len), (30, kp.inode_Table_Numbers), (31, kp.inode_Table_Changes), (32, kp.inode_Table_Cut), (33, kp.pinfoldlaw16_Light), (34, kp.pinfoldlaw16_Do), (35, kp.inode_Table_Spots), (36, kp.inode_Table_room), (37, kp.inode_Table_depth), (38, kp.sync_atomic_Int64_Add), (39, kp.inode_Table_tidy), (40, kp.inode_Table_dir), (41, kp.inode_Table_may), (42, kp.pinfoldref16_Tree_room), (43, kp.pinfoldref16_Tree_deep), (44, kp.pinfoldref16_insert), (45, kp.slices_Sort_string), (46, kp.strings_IndexFunc), (47, kp.inode_Name_1), (48, kp.pinfoldref16_Tree_Node), (49, kp.pinfoldref16_Tree_Look), (50, kp.pinfoldref16_Tree_dir), (51, kp.pinfoldref16_at), (52, kp.pinfoldref16_Tree_tall), (53, kp.pinfoldref16_Tree_Drop), (54, kp.pinfoldref16_without), (55, kp.slices_Sort_inode_Number), (56, kp.sync_atomic_Int64_Load), (57, kp.pinfoldlaw16_names), (58, kp.pinfoldref16_Tree_Add), (59, kp.pinfoldref16_Tree_Hold), (60, kp.pinfoldref16_Tree_Write), (61, kp.pinfoldref16_Tree_Cut), (63, kp.inode_Table_tall), (65, kp.math_bits_Len), (64, kp.slices_pdqsortOrdered_string), (66, kp.strings_indexFunc), (67, kp.pinfoldref16_Tree_tidy), (68, kp.slices_pdqsortOrdered_inode_Number), (79, kp.math_bits_Len32), (80, kp.math_bits_Len64), (70, kp.slices_insertionSortOrdered_string), (71, kp.slices_heapSortOrdered_string), (72, kp.slices_breakPatternsOrdered_string), (73, kp.slices_choosePivotOrdered_string), (74, kp.slices_reverseRangeOrdered_string), (75, kp.slices_partialInsertionSortOrdered_string), (76, kp.cmp_Less_string), (77, kp.slices_partitionEqualOrdered_string), (78, kp.slices_partitionOrdered_string), (81, kp.slices_insertionSortOrdered_inode_Number), (82, kp.slices_heapSortOrdered_inode_Number), (83, kp.slices_breakPatternsOrdered_inode_Number), (84, kp.slices_choosePivotOrdered_inode_Number), (85, kp.slices_reverseRangeOrdered_inode_Number), (86, kp.slices_partialInsertionSortOrdered_inode_Number), (87, kp.cmp_Less_inode_Number), (88, kp.slices_partitionEqualOrdered_inode_Number), (89, kp.slices_partitionOrdered_inode_Number), (90, kp.slices_siftDownOrdered_string), (91, kp.slices_nextPowerOfTwo), (92, kp.slices_xorshift_Next), (93, kp.slices_medianAdjacentOrdered_string), (94, kp.slices_medianOrdered_string), (95, kp.cmp_isNaN_string), (96, kp.slices_siftDownOrdered_inode_Number), (97, kp.slices_medianAdjacentOrdered_inode_Number), (98, kp.slices_medianOrdered_inode_Number), (99, kp.cmp_isNaN_inode_Number), (100, kp.slices_order2Ordered_string), (101, kp.slices_order2Ordered_inode_Number)]
def kps (f : FuncId) : Keep := ((kpL.find? (fun p => p.1 == f)).map (fun p => p.2)).getD { keep := fun _ => [], order := fun _ => [] }
def ext : CallT := fun f args H K => (f = 62 ∧ ∃ x0 x1, args = [x0, x1] ∧ atomicAdd x0 x1 H K) ∨ (f = 69 ∧ ∃ x0, args = [x0] ∧ atomicLoad x0 H K) ∨ False
theorem extOk : CallOk Try.prog ext := by
  rintro f args H K (⟨rfl, h⟩ | ⟨rfl, h⟩ | h)
  · exact atomicAdd_told Try.func62 (by kernel_rfl) (by kernel_rfl) (by kernel_rfl) (by kernel_rfl) h
  · exact atomicLoad_told Try.func69 (by kernel_rfl) (by kernel_rfl) (by kernel_rfl) (by kernel_rfl) h
  · exact h.elim
theorem fold_pinfoldlaw16_InodeHeld (x0 x1 x2 x3 : Value) (H : AH) (Q : Value → AH → Prop) (h : F.pinfoldlaw16_InodeHeld (sy (CallW Try.prog kps ext)) x0 x1 x2 x3 H Q) : CallW Try.prog kps ext 3 [x0, x1, x2, x3] H Q :=
  CallW.fold (⟨Try.func3, by kernel_rfl, by kernel_rfl, by kernel_rfl⟩ : Go.AM.Good Try.prog 3 Try.f3) (Eq.mpr (by kernel_rfl : evBody Try.prog (CallW Try.prog kps ext) (kps 3) Try.f3 [x0, x1, x2, x3] H Q = evBody Try.prog (CallW Try.prog kps ext) kp.pinfoldlaw16_InodeHeld Try.f3 [x0, x1, x2, x3] H Q) (L.pinfoldlaw16_InodeHeld (CallW Try.prog kps ext) x0 x1 x2 x3 H Q h))
theorem fold_pinfoldlaw16_InodeFull (x0 x1 : Value) (H : AH) (Q : Value → AH → Prop) (h : F.pinfoldlaw16_InodeFull (sy (CallW Try.prog kps ext)) x0 x1 H Q) : CallW Try.prog kps ext 4 [x0, x1] H Q :=
  CallW.fold (⟨Try.func4, by kernel_rfl, by kernel_rfl, by kernel_rfl⟩ : Go.AM.Good Try.prog 4 Try.f4) (Eq.mpr (by kernel_rfl : evBody Try.prog (CallW Try.prog kps ext) (kps 4) Try.f4 [x0, x1] H Q = evBody Try.prog (CallW Try.prog kps ext) kp.pinfoldlaw16_InodeFull Try.f4 [x0, x1] H Q) (L.pinfoldlaw16_InodeFull (CallW Try.prog kps ext) x0 x1 H Q h))
theorem fold_pinfoldlaw16_InodeNames (x0 x1 : Value) (H : AH) (Q : Value → AH → Prop) (h : F.pinfoldlaw16_InodeNames (sy (CallW Try.prog kps ext)) x0 x1 H Q) : CallW Try.prog kps ext 5 [x0, x1] H Q :=
  CallW.fold (⟨Try.func5, by kernel_rfl, by kernel_rfl, by kernel_rfl⟩ : Go.AM.Good Try.prog 5 Try.f5) (Eq.mpr (by kernel_rfl : evBody Try.prog (CallW Try.prog kps ext) (kps 5) Try.f5 [x0, x1] H Q = evBody Try.prog (CallW Try.prog kps ext) kp.pinfoldlaw16_InodeNames Try.f5 [x0, x1] H Q) (L.pinfoldlaw16_InodeNames (CallW Try.prog kps ext) x0 x1 H Q h))
theorem fold_pinfoldlaw16_InodeDeep (x0 x1 x2 : Value) (H : AH) (Q : Value → AH → Prop) (h : F.pinfoldlaw16_InodeDeep (sy (CallW Try.prog kps ext)) x0 x1 x2 H Q) : CallW Try.prog kps ext 6 [x0, x1, x2] H Q :=
  CallW.fold (⟨Try.func6, by kernel_rfl, by kernel_rfl, by kernel_rfl⟩ : Go.AM.Good Try.prog 6 Try.f6) (Eq.mpr (by kernel_rfl : evBody Try.prog (CallW Try.prog kps ext) (kps 6) Try.f6 [x0, x1, x2] H Q = evBody Try.prog (CallW Try.prog kps ext) kp.pinfoldlaw16_InodeDeep Try.f6 [x0, x1, x2] H Q) (L.pinfoldlaw16_InodeDeep (CallW Try.prog kps ext) x0 x1 x2 H Q h))
theorem fold_pinfoldlaw16_InodeNone (x0 x1 x2 x3 x4 : Value) (H : AH) (Q : Value → AH → Prop) (h : F.pinfoldlaw16_InodeNone (sy (CallW Try.prog kps ext)) x0 x1 x2 x3 x4 H Q) : CallW Try.prog kps ext 7 [x0, x1, x2, x3, x4] H Q :=
  CallW.fold (⟨Try.func7, by kernel_rfl, by kernel_rfl, by kernel_rfl⟩ : Go.AM.Good Try.prog 7 Try.f7) (Eq.mpr (by kernel_rfl : evBody Try.prog (CallW Try.prog kps ext) (kps 7) Try.f7 [x0, x1, x2, x3, x4] H Q = evBody Try.prog (CallW Try.prog kps ext) kp.pinfoldlaw16_InodeNone Try.f7 [x0, x1, x2, x3, x4] H Q) (L.pinfoldlaw16_InodeNone (CallW Try.prog kps ext) x0 x1 x2 x3 x4 H Q h))
theorem fold_pinfoldlaw16_InodeSpots (x0 : Value) (H : AH) (Q : Value → AH → Prop) (h : F.pinfoldlaw16_InodeSpots (sy (CallW Try.prog kps ext)) x0 H Q) : CallW Try.prog kps ext 8 [x0] H Q :=
  CallW.fold (⟨Try.func8, by kernel_rfl, by kernel_rfl, by kernel_rfl⟩ : Go.AM.Good Try.prog 8 Try.f8) (Eq.mpr (by kernel_rfl : evBody Try.prog (CallW Try.prog kps ext) (kps 8) Try.f8 [x0] H Q = evBody Try.prog (CallW Try.prog kps ext) kp.pinfoldlaw16_InodeSpots Try.f8 [x0] H Q) (L.pinfoldlaw16_InodeSpots (CallW Try.prog kps ext) x0 H Q h))
theorem fold_pinfoldlaw16_Awake (H : AH) (Q : Value → AH → Prop) (h : F.pinfoldlaw16_Awake (sy (CallW Try.prog kps ext)) H Q) : CallW Try.prog kps ext 9 [] H Q :=
  CallW.fold (⟨Try.func9, by kernel_rfl, by kernel_rfl, by kernel_rfl⟩ : Go.AM.Good Try.prog 9 Try.f9) (Eq.mpr (by kernel_rfl : evBody Try.prog (CallW Try.prog kps ext) (kps 9) Try.f9 [] H Q = evBody Try.prog (CallW Try.prog kps ext) kp.pinfoldlaw16_Awake Try.f9 [] H Q) (L.pinfoldlaw16_Awake (CallW Try.prog kps ext) H Q h))
theorem fold_inode_New (x0 : Value) (H : AH) (Q : Value → AH → Prop) (h : F.inode_New (sy (CallW Try.prog kps ext)) x0 H Q) : CallW Try.prog kps ext 10 [x0] H Q :=
  CallW.fold (⟨Try.func10, by kernel_rfl, by kernel_rfl, by kernel_rfl⟩ : Go.AM.Good Try.prog 10 Try.f10) (Eq.mpr (by kernel_rfl : evBody Try.prog (CallW Try.prog kps ext) (kps 10) Try.f10 [x0] H Q = evBody Try.prog (CallW Try.prog kps ext) kp.inode_New Try.f10 [x0] H Q) (L.inode_New (CallW Try.prog kps ext) x0 H Q h))
theorem fold_inode_Table_Make (x0 x1 x2 x3 x4 : Value) (H : AH) (Q : Value → AH → Prop) (h : F.inode_Table_Make (sy (CallW Try.prog kps ext)) x0 x1 x2 x3 x4 H Q) : CallW Try.prog kps ext 11 [x0, x1, x2, x3, x4] H Q :=
  CallW.fold (⟨Try.func11, by kernel_rfl, by kernel_rfl, by kernel_rfl⟩ : Go.AM.Good Try.prog 11 Try.f11) (Eq.mpr (by kernel_rfl : evBody Try.prog (CallW Try.prog kps ext) (kps 11) Try.f11 [x0, x1, x2, x3, x4] H Q = evBody Try.prog (CallW Try.prog kps ext) kp.inode_Table_Make Try.f11 [x0, x1, x2, x3, x4] H Q) (L.inode_Table_Make (CallW Try.prog kps ext) x0 x1 x2 x3 x4 H Q h))
theorem fold_inode_Table_Hold (x0 x1 x2 : Value) (H : AH) (Q : Value → AH → Prop) (h : F.inode_Table_Hold (sy (CallW Try.prog kps ext)) x0 x1 x2 H Q) : CallW Try.prog kps ext 12 [x0, x1, x2] H Q :=
  CallW.fold (⟨Try.func12, by kernel_rfl, by kernel_rfl, by kernel_rfl⟩ : Go.AM.Good Try.prog 12 Try.f12) (Eq.mpr (by kernel_rfl : evBody Try.prog (CallW Try.prog kps ext) (kps 12) Try.f12 [x0, x1, x2] H Q = evBody Try.prog (CallW Try.prog kps ext) kp.inode_Table_Hold Try.f12 [x0, x1, x2] H Q) (L.inode_Table_Hold (CallW Try.prog kps ext) x0 x1 x2 H Q h))
theorem fold_inode_Table_Write (x0 x1 x2 x3 : Value) (H : AH) (Q : Value → AH → Prop) (h : F.inode_Table_Write (sy (CallW Try.prog kps ext)) x0 x1 x2 x3 H Q) : CallW Try.prog kps ext 13 [x0, x1, x2, x3] H Q :=
  CallW.fold (⟨Try.func13, by kernel_rfl, by kernel_rfl, by kernel_rfl⟩ : Go.AM.Good Try.prog 13 Try.f13) (Eq.mpr (by kernel_rfl : evBody Try.prog (CallW Try.prog kps ext) (kps 13) Try.f13 [x0, x1, x2, x3] H Q = evBody Try.prog (CallW Try.prog kps ext) kp.inode_Table_Write Try.f13 [x0, x1, x2, x3] H Q) (L.inode_Table_Write (CallW Try.prog kps ext) x0 x1 x2 x3 H Q h))
theorem fold_inode_Table_Drop (x0 x1 x2 x3 : Value) (H : AH) (Q : Value → AH → Prop) (h : F.inode_Table_Drop (sy (CallW Try.prog kps ext)) x0 x1 x2 x3 H Q) : CallW Try.prog kps ext 14 [x0, x1, x2, x3] H Q :=
  CallW.fold (⟨Try.func14, by kernel_rfl, by kernel_rfl, by kernel_rfl⟩ : Go.AM.Good Try.prog 14 Try.f14) (Eq.mpr (by kernel_rfl : evBody Try.prog (CallW Try.prog kps ext) (kps 14) Try.f14 [x0, x1, x2, x3] H Q = evBody Try.prog (CallW Try.prog kps ext) kp.inode_Table_Drop Try.f14 [x0, x1, x2, x3] H Q) (L.inode_Table_Drop (CallW Try.prog kps ext) x0 x1 x2 x3 H Q h))
theorem fold_inode_Table_Get (x0 x1 : Value) (H : AH) (Q : Value → AH → Prop) (h : F.inode_Table_Get (sy (CallW Try.prog kps ext)) x0 x1 H Q) : CallW Try.prog kps ext 15 [x0, x1] H Q :=
  CallW.fold (⟨Try.func15, by kernel_rfl, by kernel_rfl, by kernel_rfl⟩ : Go.AM.Good Try.prog 15 Try.f15) (Eq.mpr (by kernel_rfl : evBody Try.prog (CallW Try.prog kps ext) (kps 15) Try.f15 [x0, x1] H Q = evBody Try.prog (CallW Try.prog kps ext) kp.inode_Table_Get Try.f15 [x0, x1] H Q) (L.inode_Table_Get (CallW Try.prog kps ext) x0 x1 H Q h))
theorem fold_inode_Table_Move (x0 x1 x2 x3 x4 : Value) (H : AH) (Q : Value → AH → Prop) (h : F.inode_Table_Move (sy (CallW Try.prog kps ext)) x0 x1 x2 x3 x4 H Q) : CallW Try.prog kps ext 16 [x0, x1, x2, x3, x4] H Q :=
  CallW.fold (⟨Try.func16, by kernel_rfl, by kernel_rfl, by kernel_rfl⟩ : Go.AM.Good Try.prog 16 Try.f16) (Eq.mpr (by kernel_rfl : evBody Try.prog (CallW Try.prog kps ext) (kps 16) Try.f16 [x0, x1, x2, x3, x4] H Q = evBody Try.prog (CallW Try.prog kps ext) kp.inode_Table_Move Try.f16 [x0, x1, x2, x3, x4] H Q) (L.inode_Table_Move (CallW Try.prog kps ext) x0 x1 x2 x3 x4 H Q h))
theorem fold_inode_Table_Add (x0 x1 x2 x3 : Value) (H : AH) (Q : Value → AH → Prop) (h : F.inode_Table_Add (sy (CallW Try.prog kps ext)) x0 x1 x2 x3 H Q) : CallW Try.prog kps ext 17 [x0, x1, x2, x3] H Q :=
  CallW.fold (⟨Try.func17, by kernel_rfl, by kernel_rfl, by kernel_rfl⟩ : Go.AM.Good Try.prog 17 Try.f17) (Eq.mpr (by kernel_rfl : evBody Try.prog (CallW Try.prog kps ext) (kps 17) Try.f17 [x0, x1, x2, x3] H Q = evBody Try.prog (CallW Try.prog kps ext) kp.inode_Table_Add Try.f17 [x0, x1, x2, x3] H Q) (L.inode_Table_Add (CallW Try.prog kps ext) x0 x1 x2 x3 H Q h))
theorem fold_pinfoldref16_New (x0 : Value) (H : AH) (Q : Value → AH → Prop) (h : F.pinfoldref16_New (sy (CallW Try.prog kps ext)) x0 H Q) : CallW Try.prog kps ext 18 [x0] H Q :=
  CallW.fold (⟨Try.func18, by kernel_rfl, by kernel_rfl, by kernel_rfl⟩ : Go.AM.Good Try.prog 18 Try.f18) (Eq.mpr (by kernel_rfl : evBody Try.prog (CallW Try.prog kps ext) (kps 18) Try.f18 [x0] H Q = evBody Try.prog (CallW Try.prog kps ext) kp.pinfoldref16_New Try.f18 [x0] H Q) (L.pinfoldref16_New (CallW Try.prog kps ext) x0 H Q h))
theorem fold_pinfoldref16_Tree_Make (x0 x1 x2 x3 x4 : Value) (H : AH) (Q : Value → AH → Prop) (h : F.pinfoldref16_Tree_Make (sy (CallW Try.prog kps ext)) x0 x1 x2 x3 x4 H Q) : CallW Try.prog kps ext 19 [x0, x1, x2, x3, x4] H Q :=
  CallW.fold (⟨Try.func19, by kernel_rfl, by kernel_rfl, by kernel_rfl⟩ : Go.AM.Good Try.prog 19 Try.f19) (Eq.mpr (by kernel_rfl : evBody Try.prog (CallW Try.prog kps ext) (kps 19) Try.f19 [x0, x1, x2, x3, x4] H Q = evBody Try.prog (CallW Try.prog kps ext) kp.pinfoldref16_Tree_Make Try.f19 [x0, x1, x2, x3, x4] H Q) (L.pinfoldref16_Tree_Make (CallW Try.prog kps ext) x0 x1 x2 x3 x4 H Q h))
theorem fold_inode_Table_Entries (x0 x1 : Value) (H : AH) (Q : Value → AH → Prop) (h : F.inode_Table_Entries (sy (CallW Try.prog kps ext)) x0 x1 H Q) : CallW Try.prog kps ext 20 [x0, x1] H Q :=
  CallW.fold (⟨Try.func20, by kernel_rfl, by kernel_rfl, by kernel_rfl⟩ : Go.AM.Good Try.prog 20 Try.f20) (Eq.mpr (by kernel_rfl : evBody Try.prog (CallW Try.prog kps ext) (kps 20) Try.f20 [x0, x1] H Q = evBody Try.prog (CallW Try.prog kps ext) kp.inode_Table_Entries Try.f20 [x0, x1] H Q) (L.inode_Table_Entries (CallW Try.prog kps ext) x0 x1 H Q h))
theorem fold_inode_Name (x0 : Value) (H : AH) (Q : Value → AH → Prop) (h : F.inode_Name (sy (CallW Try.prog kps ext)) x0 H Q) : CallW Try.prog kps ext 21 [x0] H Q :=
  CallW.fold (⟨Try.func21, by kernel_rfl, by kernel_rfl, by kernel_rfl⟩ : Go.AM.Good Try.prog 21 Try.f21) (Eq.mpr (by kernel_rfl : evBody Try.prog (CallW Try.prog kps ext) (kps 21) Try.f21 [x0] H Q = evBody Try.prog (CallW Try.prog kps ext) kp.inode_Name Try.f21 [x0] H Q) (L.inode_Name (CallW Try.prog kps ext) x0 H Q h))
theorem fold_pinfoldref16_Name (x0 : Value) (H : AH) (Q : Value → AH → Prop) (h : F.pinfoldref16_Name (sy (CallW Try.prog kps ext)) x0 H Q) : CallW Try.prog kps ext 22 [x0] H Q :=
  CallW.fold (⟨Try.func22, by kernel_rfl, by kernel_rfl, by kernel_rfl⟩ : Go.AM.Good Try.prog 22 Try.f22) (Eq.mpr (by kernel_rfl : evBody Try.prog (CallW Try.prog kps ext) (kps 22) Try.f22 [x0] H Q = evBody Try.prog (CallW Try.prog kps ext) kp.pinfoldref16_Name Try.f22 [x0] H Q) (L.pinfoldref16_Name (CallW Try.prog kps ext) x0 H Q h))
theorem fold_pinfoldref16_Tree_Len (x0 : Value) (H : AH) (Q : Value → AH → Prop) (h : F.pinfoldref16_Tree_Len (sy (CallW Try.prog kps ext)) x0 H Q) : CallW Try.prog kps ext 23 [x0] H Q :=
  CallW.fold (⟨Try.func23, by kernel_rfl, by kernel_rfl, by kernel_rfl⟩ : Go.AM.Good Try.prog 23 Try.f23) (Eq.mpr (by kernel_rfl : evBody Try.prog (CallW Try.prog kps ext) (kps 23) Try.f23 [x0] H Q = evBody Try.prog (CallW Try.prog kps ext) kp.pinfoldref16_Tree_Len Try.f23 [x0] H Q) (L.pinfoldref16_Tree_Len (CallW Try.prog kps ext) x0 H Q h))
theorem fold_inode_Table_Within (x0 x1 x2 : Value) (H : AH) (Q : Value → AH → Prop) (h : F.inode_Table_Within (sy (CallW Try.prog kps ext)) x0 x1 x2 H Q) : CallW Try.prog kps ext 24 [x0, x1, x2] H Q :=
  CallW.fold (⟨Try.func24, by kernel_rfl, by kernel_rfl, by kernel_rfl⟩ : Go.AM.Good Try.prog 24 Try.f24) (Eq.mpr (by kernel_rfl : evBody Try.prog (CallW Try.prog kps ext) (kps 24) Try.f24 [x0, x1, x2] H Q = evBody Try.prog (CallW Try.prog kps ext) kp.inode_Table_Within Try.f24 [x0, x1, x2] H Q) (L.inode_Table_Within (CallW Try.prog kps ext) x0 x1 x2 H Q h))
theorem fold_pinfoldref16_Tree_Within (x0 x1 x2 : Value) (H : AH) (Q : Value → AH → Prop) (h : F.pinfoldref16_Tree_Within (sy (CallW Try.prog kps ext)) x0 x1 x2 H Q) : CallW Try.prog kps ext 25 [x0, x1, x2] H Q :=
  CallW.fold (⟨Try.func25, by kernel_rfl, by kernel_rfl, by kernel_rfl⟩ : Go.AM.Good Try.prog 25 Try.f25) (Eq.mpr (by kernel_rfl : evBody Try.prog (CallW Try.prog kps ext) (kps 25) Try.f25 [x0, x1, x2] H Q = evBody Try.prog (CallW Try.prog kps ext) kp.pinfoldref16_Tree_Within Try.f25 [x0, x1, x2] H Q) (L.pinfoldref16_Tree_Within (CallW Try.prog kps ext) x0 x1 x2 H Q h))
theorem fold_pinfoldref16_Tree_Move (x0 x1 x2 x3 x4 : Value) (H : AH) (Q : Value → AH → Prop) (h : F.pinfoldref16_Tree_Move (sy (CallW Try.prog kps ext)) x0 x1 x2 x3 x4 H Q) : CallW Try.prog kps ext 26 [x0, x1, x2, x3, x4] H Q :=
  CallW.fold (⟨Try.func26, by kernel_rfl, by kernel_rfl, by kernel_rfl⟩ : Go.AM.Good Try.prog 26 Try.f26) (Eq.mpr (by kernel_rfl : evBody Try.prog (CallW Try.prog kps ext) (kps 26) Try.f26 [x0, x1, x2, x3, x4] H Q = evBody Try.prog (CallW Try.prog kps ext) kp.pinfoldref16_Tree_Move Try.f26 [x0, x1, x2, x3, x4] H Q) (L.pinfoldref16_Tree_Move (CallW Try.prog kps ext) x0 x1 x2 x3 x4 H Q h))
theorem fold_pinfoldlaw16_Same (x0 x1 : Value) (H : AH) (Q : Value → AH → Prop) (h : F.pinfoldlaw16_Same (sy (CallW Try.prog kps ext)) x0 x1 H Q) : CallW Try.prog kps ext 27 [x0, x1] H Q :=
  CallW.fold (⟨Try.func27, by kernel_rfl, by kernel_rfl, by kernel_rfl⟩ : Go.AM.Good Try.prog 27 Try.f27) (Eq.mpr (by kernel_rfl : evBody Try.prog (CallW Try.prog kps ext) (kps 27) Try.f27 [x0, x1] H Q = evBody Try.prog (CallW Try.prog kps ext) kp.pinfoldlaw16_Same Try.f27 [x0, x1] H Q) (L.pinfoldlaw16_Same (CallW Try.prog kps ext) x0 x1 H Q h))
theorem fold_inode_Table_Look (x0 x1 x2 : Value) (H : AH) (Q : Value → AH → Prop) (h : F.inode_Table_Look (sy (CallW Try.prog kps ext)) x0 x1 x2 H Q) : CallW Try.prog kps ext 28 [x0, x1, x2] H Q :=
  CallW.fold (⟨Try.func28, by kernel_rfl, by kernel_rfl, by kernel_rfl⟩ : Go.AM.Good Try.prog 28 Try.f28) (Eq.mpr (by kernel_rfl : evBody Try.prog (CallW Try.prog kps ext) (kps 28) Try.f28 [x0, x1, x2] H Q = evBody Try.prog (CallW Try.prog kps ext) kp.inode_Table_Look Try.f28 [x0, x1, x2] H Q) (L.inode_Table_Look (CallW Try.prog kps ext) x0 x1 x2 H Q h))
theorem fold_inode_Table_Len (x0 : Value) (H : AH) (Q : Value → AH → Prop) (h : F.inode_Table_Len (sy (CallW Try.prog kps ext)) x0 H Q) : CallW Try.prog kps ext 29 [x0] H Q :=
  CallW.fold (⟨Try.func29, by kernel_rfl, by kernel_rfl, by kernel_rfl⟩ : Go.AM.Good Try.prog 29 Try.f29) (Eq.mpr (by kernel_rfl : evBody Try.prog (CallW Try.prog kps ext) (kps 29) Try.f29 [x0] H Q = evBody Try.prog (CallW Try.prog kps ext) kp.inode_Table_Len Try.f29 [x0] H Q) (L.inode_Table_Len (CallW Try.prog kps ext) x0 H Q h))
theorem fold_inode_Table_Numbers (x0 : Value) (H : AH) (Q : Value → AH → Prop) (h : F.inode_Table_Numbers (sy (CallW Try.prog kps ext)) x0 H Q) : CallW Try.prog kps ext 30 [x0] H Q :=
  CallW.fold (⟨Try.func30, by kernel_rfl, by kernel_rfl, by kernel_rfl⟩ : Go.AM.Good Try.prog 30 Try.f30) (Eq.mpr (by kernel_rfl : evBody Try.prog (CallW Try.prog kps ext) (kps 30) Try.f30 [x0] H Q = evBody Try.prog (CallW Try.prog kps ext) kp.inode_Table_Numbers Try.f30 [x0] H Q) (L.inode_Table_Numbers (CallW Try.prog kps ext) x0 H Q h))
theorem fold_inode_Table_Changes (x0 : Value) (H : AH) (Q : Value → AH → Prop) (h : F.inode_Table_Changes (sy (CallW Try.prog kps ext)) x0 H Q) : CallW Try.prog kps ext 31 [x0] H Q :=
  CallW.fold (⟨Try.func31, by kernel_rfl, by kernel_rfl, by kernel_rfl⟩ : Go.AM.Good Try.prog 31 Try.f31) (Eq.mpr (by kernel_rfl : evBody Try.prog (CallW Try.prog kps ext) (kps 31) Try.f31 [x0] H Q = evBody Try.prog (CallW Try.prog kps ext) kp.inode_Table_Changes Try.f31 [x0] H Q) (L.inode_Table_Changes (CallW Try.prog kps ext) x0 H Q h))
theorem fold_inode_Table_Cut (x0 x1 x2 : Value) (H : AH) (Q : Value → AH → Prop) (h : F.inode_Table_Cut (sy (CallW Try.prog kps ext)) x0 x1 x2 H Q) : CallW Try.prog kps ext 32 [x0, x1, x2] H Q :=
  CallW.fold (⟨Try.func32, by kernel_rfl, by kernel_rfl, by kernel_rfl⟩ : Go.AM.Good Try.prog 32 Try.f32) (Eq.mpr (by kernel_rfl : evBody Try.prog (CallW Try.prog kps ext) (kps 32) Try.f32 [x0, x1, x2] H Q = evBody Try.prog (CallW Try.prog kps ext) kp.inode_Table_Cut Try.f32 [x0, x1, x2] H Q) (L.inode_Table_Cut (CallW Try.prog kps ext) x0 x1 x2 H Q h))
theorem fold_pinfoldlaw16_Light (x0 : Value) (H : AH) (Q : Value → AH → Prop) (h : F.pinfoldlaw16_Light (sy (CallW Try.prog kps ext)) x0 H Q) : CallW Try.prog kps ext 33 [x0] H Q :=
  CallW.fold (⟨Try.func33, by kernel_rfl, by kernel_rfl, by kernel_rfl⟩ : Go.AM.Good Try.prog 33 Try.f33) (Eq.mpr (by kernel_rfl : evBody Try.prog (CallW Try.prog kps ext) (kps 33) Try.f33 [x0] H Q = evBody Try.prog (CallW Try.prog kps ext) kp.pinfoldlaw16_Light Try.f33 [x0] H Q) (L.pinfoldlaw16_Light (CallW Try.prog kps ext) x0 H Q h))
theorem fold_pinfoldlaw16_Do (x0 x1 x2 : Value) (H : AH) (Q : Value → AH → Prop) (h : F.pinfoldlaw16_Do (sy (CallW Try.prog kps ext)) x0 x1 x2 H Q) : CallW Try.prog kps ext 34 [x0, x1, x2] H Q :=
  CallW.fold (⟨Try.func34, by kernel_rfl, by kernel_rfl, by kernel_rfl⟩ : Go.AM.Good Try.prog 34 Try.f34) (Eq.mpr (by kernel_rfl : evBody Try.prog (CallW Try.prog kps ext) (kps 34) Try.f34 [x0, x1, x2] H Q = evBody Try.prog (CallW Try.prog kps ext) kp.pinfoldlaw16_Do Try.f34 [x0, x1, x2] H Q) (L.pinfoldlaw16_Do (CallW Try.prog kps ext) x0 x1 x2 H Q h))
theorem fold_inode_Table_Spots (x0 x1 : Value) (H : AH) (Q : Value → AH → Prop) (h : F.inode_Table_Spots (sy (CallW Try.prog kps ext)) x0 x1 H Q) : CallW Try.prog kps ext 35 [x0, x1] H Q :=
  CallW.fold (⟨Try.func35, by kernel_rfl, by kernel_rfl, by kernel_rfl⟩ : Go.AM.Good Try.prog 35 Try.f35) (Eq.mpr (by kernel_rfl : evBody Try.prog (CallW Try.prog kps ext) (kps 35) Try.f35 [x0, x1] H Q = evBody Try.prog (CallW Try.prog kps ext) kp.inode_Table_Spots Try.f35 [x0, x1] H Q) (L.inode_Table_Spots (CallW Try.prog kps ext) x0 x1 H Q h))
theorem fold_inode_Table_room (x0 x1 x2 : Value) (H : AH) (Q : Value → AH → Prop) (h : F.inode_Table_room (sy (CallW Try.prog kps ext)) x0 x1 x2 H Q) : CallW Try.prog kps ext 36 [x0, x1, x2] H Q :=
  CallW.fold (⟨Try.func36, by kernel_rfl, by kernel_rfl, by kernel_rfl⟩ : Go.AM.Good Try.prog 36 Try.f36) (Eq.mpr (by kernel_rfl : evBody Try.prog (CallW Try.prog kps ext) (kps 36) Try.f36 [x0, x1, x2] H Q = evBody Try.prog (CallW Try.prog kps ext) kp.inode_Table_room Try.f36 [x0, x1, x2] H Q) (L.inode_Table_room (CallW Try.prog kps ext) x0 x1 x2 H Q h))
theorem fold_inode_Table_depth (x0 x1 : Value) (H : AH) (Q : Value → AH → Prop) (h : F.inode_Table_depth (sy (CallW Try.prog kps ext)) x0 x1 H Q) : CallW Try.prog kps ext 37 [x0, x1] H Q :=
  CallW.fold (⟨Try.func37, by kernel_rfl, by kernel_rfl, by kernel_rfl⟩ : Go.AM.Good Try.prog 37 Try.f37) (Eq.mpr (by kernel_rfl : evBody Try.prog (CallW Try.prog kps ext) (kps 37) Try.f37 [x0, x1] H Q = evBody Try.prog (CallW Try.prog kps ext) kp.inode_Table_depth Try.f37 [x0, x1] H Q) (L.inode_Table_depth (CallW Try.prog kps ext) x0 x1 H Q h))
theorem fold_sync_atomic_Int64_Add (x0 x1 : Value) (H : AH) (Q : Value → AH → Prop) (h : F.sync_atomic_Int64_Add (sy (CallW Try.prog kps ext)) x0 x1 H Q) : CallW Try.prog kps ext 38 [x0, x1] H Q :=
  CallW.fold (⟨Try.func38, by kernel_rfl, by kernel_rfl, by kernel_rfl⟩ : Go.AM.Good Try.prog 38 Try.f38) (Eq.mpr (by kernel_rfl : evBody Try.prog (CallW Try.prog kps ext) (kps 38) Try.f38 [x0, x1] H Q = evBody Try.prog (CallW Try.prog kps ext) kp.sync_atomic_Int64_Add Try.f38 [x0, x1] H Q) (L.sync_atomic_Int64_Add (CallW Try.prog kps ext) x0 x1 H Q h))
theorem fold_inode_Table_tidy (x0 x1 : Value) (H : AH) (Q : Value → AH → Prop) (h : F.inode_Table_tidy (sy (CallW Try.prog kps ext)) x0 x1 H Q) : CallW Try.prog kps ext 39 [x0, x1] H Q :=
  CallW.fold (⟨Try.func39, by kernel_rfl, by kernel_rfl, by kernel_rfl⟩ : Go.AM.Good Try.prog 39 Try.f39) (Eq.mpr (by kernel_rfl : evBody Try.prog (CallW Try.prog kps ext) (kps 39) Try.f39 [x0, x1] H Q = evBody Try.prog (CallW Try.prog kps ext) kp.inode_Table_tidy Try.f39 [x0, x1] H Q) (L.inode_Table_tidy (CallW Try.prog kps ext) x0 x1 H Q h))
theorem fold_inode_Table_dir (x0 x1 : Value) (H : AH) (Q : Value → AH → Prop) (h : F.inode_Table_dir (sy (CallW Try.prog kps ext)) x0 x1 H Q) : CallW Try.prog kps ext 40 [x0, x1] H Q :=
  CallW.fold (⟨Try.func40, by kernel_rfl, by kernel_rfl, by kernel_rfl⟩ : Go.AM.Good Try.prog 40 Try.f40) (Eq.mpr (by kernel_rfl : evBody Try.prog (CallW Try.prog kps ext) (kps 40) Try.f40 [x0, x1] H Q = evBody Try.prog (CallW Try.prog kps ext) kp.inode_Table_dir Try.f40 [x0, x1] H Q) (L.inode_Table_dir (CallW Try.prog kps ext) x0 x1 H Q h))
theorem fold_inode_Table_may (x0 x1 x2 x3 x4 x5 : Value) (H : AH) (Q : Value → AH → Prop) (h : F.inode_Table_may (sy (CallW Try.prog kps ext)) x0 x1 x2 x3 x4 x5 H Q) : CallW Try.prog kps ext 41 [x0, x1, x2, x3, x4, x5] H Q :=
  CallW.fold (⟨Try.func41, by kernel_rfl, by kernel_rfl, by kernel_rfl⟩ : Go.AM.Good Try.prog 41 Try.f41) (Eq.mpr (by kernel_rfl : evBody Try.prog (CallW Try.prog kps ext) (kps 41) Try.f41 [x0, x1, x2, x3, x4, x5] H Q = evBody Try.prog (CallW Try.prog kps ext) kp.inode_Table_may Try.f41 [x0, x1, x2, x3, x4, x5] H Q) (L.inode_Table_may (CallW Try.prog kps ext) x0 x1 x2 x3 x4 x5 H Q h))
theorem fold_pinfoldref16_Tree_room (x0 x1 x2 : Value) (H : AH) (Q : Value → AH → Prop) (h : F.pinfoldref16_Tree_room (sy (CallW Try.prog kps ext)) x0 x1 x2 H Q) : CallW Try.prog kps ext 42 [x0, x1, x2] H Q :=
  CallW.fold (⟨Try.func42, by kernel_rfl, by kernel_rfl, by kernel_rfl⟩ : Go.AM.Good Try.prog 42 Try.f42) (Eq.mpr (by kernel_rfl : evBody Try.prog (CallW Try.prog kps ext) (kps 42) Try.f42 [x0, x1, x2] H Q = evBody Try.prog (CallW Try.prog kps ext) kp.pinfoldref16_Tree_room Try.f42 [x0, x1, x2] H Q) (L.pinfoldref16_Tree_room (CallW Try.prog kps ext) x0 x1 x2 H Q h))
theorem fold_pinfoldref16_Tree_deep (x0 x1 : Value) (H : AH) (Q : Value → AH → Prop) (h : F.pinfoldref16_Tree_deep (sy (CallW Try.prog kps ext)) x0 x1 H Q) : CallW Try.prog kps ext 43 [x0, x1] H Q :=
  CallW.fold (⟨Try.func43, by kernel_rfl, by kernel_rfl, by kernel_rfl⟩ : Go.AM.Good Try.prog 43 Try.f43) (Eq.mpr (by kernel_rfl : evBody Try.prog (CallW Try.prog kps ext) (kps 43) Try.f43 [x0, x1] H Q = evBody Try.prog (CallW Try.prog kps ext) kp.pinfoldref16_Tree_deep Try.f43 [x0, x1] H Q) (L.pinfoldref16_Tree_deep (CallW Try.prog kps ext) x0 x1 H Q h))
theorem fold_pinfoldref16_insert (x0 x1 : Value) (H : AH) (Q : Value → AH → Prop) (h : F.pinfoldref16_insert (sy (CallW Try.prog kps ext)) x0 x1 H Q) : CallW Try.prog kps ext 44 [x0, x1] H Q :=
  CallW.fold (⟨Try.func44, by kernel_rfl, by kernel_rfl, by kernel_rfl⟩ : Go.AM.Good Try.prog 44 Try.f44) (Eq.mpr (by kernel_rfl : evBody Try.prog (CallW Try.prog kps ext) (kps 44) Try.f44 [x0, x1] H Q = evBody Try.prog (CallW Try.prog kps ext) kp.pinfoldref16_insert Try.f44 [x0, x1] H Q) (L.pinfoldref16_insert (CallW Try.prog kps ext) x0 x1 H Q h))
theorem fold_slices_Sort_string (x0 : Value) (H : AH) (Q : Value → AH → Prop) (h : F.slices_Sort_string (sy (CallW Try.prog kps ext)) x0 H Q) : CallW Try.prog kps ext 45 [x0] H Q :=
  CallW.fold (⟨Try.func45, by kernel_rfl, by kernel_rfl, by kernel_rfl⟩ : Go.AM.Good Try.prog 45 Try.f45) (Eq.mpr (by kernel_rfl : evBody Try.prog (CallW Try.prog kps ext) (kps 45) Try.f45 [x0] H Q = evBody Try.prog (CallW Try.prog kps ext) kp.slices_Sort_string Try.f45 [x0] H Q) (L.slices_Sort_string (CallW Try.prog kps ext) x0 H Q h))
theorem fold_strings_IndexFunc (x0 x1 : Value) (H : AH) (Q : Value → AH → Prop) (h : F.strings_IndexFunc (sy (CallW Try.prog kps ext)) x0 x1 H Q) : CallW Try.prog kps ext 46 [x0, x1] H Q :=
  CallW.fold (⟨Try.func46, by kernel_rfl, by kernel_rfl, by kernel_rfl⟩ : Go.AM.Good Try.prog 46 Try.f46) (Eq.mpr (by kernel_rfl : evBody Try.prog (CallW Try.prog kps ext) (kps 46) Try.f46 [x0, x1] H Q = evBody Try.prog (CallW Try.prog kps ext) kp.strings_IndexFunc Try.f46 [x0, x1] H Q) (L.strings_IndexFunc (CallW Try.prog kps ext) x0 x1 H Q h))
theorem fold_inode_Name_1 (x0 : Value) (H : AH) (Q : Value → AH → Prop) (h : F.inode_Name_1 (sy (CallW Try.prog kps ext)) x0 H Q) : CallW Try.prog kps ext 47 [x0] H Q :=
  CallW.fold (⟨Try.func47, by kernel_rfl, by kernel_rfl, by kernel_rfl⟩ : Go.AM.Good Try.prog 47 Try.f47) (Eq.mpr (by kernel_rfl : evBody Try.prog (CallW Try.prog kps ext) (kps 47) Try.f47 [x0] H Q = evBody Try.prog (CallW Try.prog kps ext) kp.inode_Name_1 Try.f47 [x0] H Q) (L.inode_Name_1 (CallW Try.prog kps ext) x0 H Q h))
theorem fold_pinfoldref16_Tree_Node (x0 x1 : Value) (H : AH) (Q : Value → AH → Prop) (h : F.pinfoldref16_Tree_Node (sy (CallW Try.prog kps ext)) x0 x1 H Q) : CallW Try.prog kps ext 48 [x0, x1] H Q :=
  CallW.fold (⟨Try.func48, by kernel_rfl, by kernel_rfl, by kernel_rfl⟩ : Go.AM.Good Try.prog 48 Try.f48) (Eq.mpr (by kernel_rfl : evBody Try.prog (CallW Try.prog kps ext) (kps 48) Try.f48 [x0, x1] H Q = evBody Try.prog (CallW Try.prog kps ext) kp.pinfoldref16_Tree_Node Try.f48 [x0, x1] H Q) (L.pinfoldref16_Tree_Node (CallW Try.prog kps ext) x0 x1 H Q h))
theorem fold_pinfoldref16_Tree_Look (x0 x1 x2 : Value) (H : AH) (Q : Value → AH → Prop) (h : F.pinfoldref16_Tree_Look (sy (CallW Try.prog kps ext)) x0 x1 x2 H Q) : CallW Try.prog kps ext 49 [x0, x1, x2] H Q :=
  CallW.fold (⟨Try.func49, by kernel_rfl, by kernel_rfl, by kernel_rfl⟩ : Go.AM.Good Try.prog 49 Try.f49) (Eq.mpr (by kernel_rfl : evBody Try.prog (CallW Try.prog kps ext) (kps 49) Try.f49 [x0, x1, x2] H Q = evBody Try.prog (CallW Try.prog kps ext) kp.pinfoldref16_Tree_Look Try.f49 [x0, x1, x2] H Q) (L.pinfoldref16_Tree_Look (CallW Try.prog kps ext) x0 x1 x2 H Q h))
theorem fold_pinfoldref16_Tree_dir (x0 x1 : Value) (H : AH) (Q : Value → AH → Prop) (h : F.pinfoldref16_Tree_dir (sy (CallW Try.prog kps ext)) x0 x1 H Q) : CallW Try.prog kps ext 50 [x0, x1] H Q :=
  CallW.fold (⟨Try.func50, by kernel_rfl, by kernel_rfl, by kernel_rfl⟩ : Go.AM.Good Try.prog 50 Try.f50) (Eq.mpr (by kernel_rfl : evBody Try.prog (CallW Try.prog kps ext) (kps 50) Try.f50 [x0, x1] H Q = evBody Try.prog (CallW Try.prog kps ext) kp.pinfoldref16_Tree_dir Try.f50 [x0, x1] H Q) (L.pinfoldref16_Tree_dir (CallW Try.prog kps ext) x0 x1 H Q h))
theorem fold_pinfoldref16_at (x0 x1 : Value) (H : AH) (Q : Value → AH → Prop) (h : F.pinfoldref16_at (sy (CallW Try.prog kps ext)) x0 x1 H Q) : CallW Try.prog kps ext 51 [x0, x1] H Q :=
  CallW.fold (⟨Try.func51, by kernel_rfl, by kernel_rfl, by kernel_rfl⟩ : Go.AM.Good Try.prog 51 Try.f51) (Eq.mpr (by kernel_rfl : evBody Try.prog (CallW Try.prog kps ext) (kps 51) Try.f51 [x0, x1] H Q = evBody Try.prog (CallW Try.prog kps ext) kp.pinfoldref16_at Try.f51 [x0, x1] H Q) (L.pinfoldref16_at (CallW Try.prog kps ext) x0 x1 H Q h))
theorem fold_pinfoldref16_Tree_tall (x0 x1 : Value) (H : AH) (Q : Value → AH → Prop) (h : F.pinfoldref16_Tree_tall (sy (CallW Try.prog kps ext)) x0 x1 H Q) : CallW Try.prog kps ext 52 [x0, x1] H Q :=
  CallW.fold (⟨Try.func52, by kernel_rfl, by kernel_rfl, by kernel_rfl⟩ : Go.AM.Good Try.prog 52 Try.f52) (Eq.mpr (by kernel_rfl : evBody Try.prog (CallW Try.prog kps ext) (kps 52) Try.f52 [x0, x1] H Q = evBody Try.prog (CallW Try.prog kps ext) kp.pinfoldref16_Tree_tall Try.f52 [x0, x1] H Q) (L.pinfoldref16_Tree_tall (CallW Try.prog kps ext) x0 x1 H Q h))
theorem fold_pinfoldref16_Tree_Drop (x0 x1 x2 x3 : Value) (H : AH) (Q : Value → AH → Prop) (h : F.pinfoldref16_Tree_Drop (sy (CallW Try.prog kps ext)) x0 x1 x2 x3 H Q) : CallW Try.prog kps ext 53 [x0, x1, x2, x3] H Q :=
  CallW.fold (⟨Try.func53, by kernel_rfl, by kernel_rfl, by kernel_rfl⟩ : Go.AM.Good Try.prog 53 Try.f53) (Eq.mpr (by kernel_rfl : evBody Try.prog (CallW Try.prog kps ext) (kps 53) Try.f53 [x0, x1, x2, x3] H Q = evBody Try.prog (CallW Try.prog kps ext) kp.pinfoldref16_Tree_Drop Try.f53 [x0, x1, x2, x3] H Q) (L.pinfoldref16_Tree_Drop (CallW Try.prog kps ext) x0 x1 x2 x3 H Q h))
theorem fold_pinfoldref16_without (x0 x1 : Value) (H : AH) (Q : Value → AH → Prop) (h : F.pinfoldref16_without (sy (CallW Try.prog kps ext)) x0 x1 H Q) : CallW Try.prog kps ext 54 [x0, x1] H Q :=
  CallW.fold (⟨Try.func54, by kernel_rfl, by kernel_rfl, by kernel_rfl⟩ : Go.AM.Good Try.prog 54 Try.f54) (Eq.mpr (by kernel_rfl : evBody Try.prog (CallW Try.prog kps ext) (kps 54) Try.f54 [x0, x1] H Q = evBody Try.prog (CallW Try.prog kps ext) kp.pinfoldref16_without Try.f54 [x0, x1] H Q) (L.pinfoldref16_without (CallW Try.prog kps ext) x0 x1 H Q h))
theorem fold_slices_Sort_inode_Number (x0 : Value) (H : AH) (Q : Value → AH → Prop) (h : F.slices_Sort_inode_Number (sy (CallW Try.prog kps ext)) x0 H Q) : CallW Try.prog kps ext 55 [x0] H Q :=
  CallW.fold (⟨Try.func55, by kernel_rfl, by kernel_rfl, by kernel_rfl⟩ : Go.AM.Good Try.prog 55 Try.f55) (Eq.mpr (by kernel_rfl : evBody Try.prog (CallW Try.prog kps ext) (kps 55) Try.f55 [x0] H Q = evBody Try.prog (CallW Try.prog kps ext) kp.slices_Sort_inode_Number Try.f55 [x0] H Q) (L.slices_Sort_inode_Number (CallW Try.prog kps ext) x0 H Q h))
theorem fold_sync_atomic_Int64_Load (x0 : Value) (H : AH) (Q : Value → AH → Prop) (h : F.sync_atomic_Int64_Load (sy (CallW Try.prog kps ext)) x0 H Q) : CallW Try.prog kps ext 56 [x0] H Q :=
  CallW.fold (⟨Try.func56, by kernel_rfl, by kernel_rfl, by kernel_rfl⟩ : Go.AM.Good Try.prog 56 Try.f56) (Eq.mpr (by kernel_rfl : evBody Try.prog (CallW Try.prog kps ext) (kps 56) Try.f56 [x0] H Q = evBody Try.prog (CallW Try.prog kps ext) kp.sync_atomic_Int64_Load Try.f56 [x0] H Q) (L.sync_atomic_Int64_Load (CallW Try.prog kps ext) x0 H Q h))
theorem fold_pinfoldlaw16_names (H : AH) (Q : Value → AH → Prop) (h : F.pinfoldlaw16_names (sy (CallW Try.prog kps ext)) H Q) : CallW Try.prog kps ext 57 [] H Q :=
  CallW.fold (⟨Try.func57, by kernel_rfl, by kernel_rfl, by kernel_rfl⟩ : Go.AM.Good Try.prog 57 Try.f57) (Eq.mpr (by kernel_rfl : evBody Try.prog (CallW Try.prog kps ext) (kps 57) Try.f57 [] H Q = evBody Try.prog (CallW Try.prog kps ext) kp.pinfoldlaw16_names Try.f57 [] H Q) (L.pinfoldlaw16_names (CallW Try.prog kps ext) H Q h))
theorem fold_pinfoldref16_Tree_Add (x0 x1 x2 x3 : Value) (H : AH) (Q : Value → AH → Prop) (h : F.pinfoldref16_Tree_Add (sy (CallW Try.prog kps ext)) x0 x1 x2 x3 H Q) : CallW Try.prog kps ext 58 [x0, x1, x2, x3] H Q :=
  CallW.fold (⟨Try.func58, by kernel_rfl, by kernel_rfl, by kernel_rfl⟩ : Go.AM.Good Try.prog 58 Try.f58) (Eq.mpr (by kernel_rfl : evBody Try.prog (CallW Try.prog kps ext) (kps 58) Try.f58 [x0, x1, x2, x3] H Q = evBody Try.prog (CallW Try.prog kps ext) kp.pinfoldref16_Tree_Add Try.f58 [x0, x1, x2, x3] H Q) (L.pinfoldref16_Tree_Add (CallW Try.prog kps ext) x0 x1 x2 x3 H Q h))
theorem fold_pinfoldref16_Tree_Hold (x0 x1 x2 : Value) (H : AH) (Q : Value → AH → Prop) (h : F.pinfoldref16_Tree_Hold (sy (CallW Try.prog kps ext)) x0 x1 x2 H Q) : CallW Try.prog kps ext 59 [x0, x1, x2] H Q :=
  CallW.fold (⟨Try.func59, by kernel_rfl, by kernel_rfl, by kernel_rfl⟩ : Go.AM.Good Try.prog 59 Try.f59) (Eq.mpr (by kernel_rfl : evBody Try.prog (CallW Try.prog kps ext) (kps 59) Try.f59 [x0, x1, x2] H Q = evBody Try.prog (CallW Try.prog kps ext) kp.pinfoldref16_Tree_Hold Try.f59 [x0, x1, x2] H Q) (L.pinfoldref16_Tree_Hold (CallW Try.prog kps ext) x0 x1 x2 H Q h))
theorem fold_pinfoldref16_Tree_Write (x0 x1 x2 x3 : Value) (H : AH) (Q : Value → AH → Prop) (h : F.pinfoldref16_Tree_Write (sy (CallW Try.prog kps ext)) x0 x1 x2 x3 H Q) : CallW Try.prog kps ext 60 [x0, x1, x2, x3] H Q :=
  CallW.fold (⟨Try.func60, by kernel_rfl, by kernel_rfl, by kernel_rfl⟩ : Go.AM.Good Try.prog 60 Try.f60) (Eq.mpr (by kernel_rfl : evBody Try.prog (CallW Try.prog kps ext) (kps 60) Try.f60 [x0, x1, x2, x3] H Q = evBody Try.prog (CallW Try.prog kps ext) kp.pinfoldref16_Tree_Write Try.f60 [x0, x1, x2, x3] H Q) (L.pinfoldref16_Tree_Write (CallW Try.prog kps ext) x0 x1 x2 x3 H Q h))
theorem fold_pinfoldref16_Tree_Cut (x0 x1 x2 : Value) (H : AH) (Q : Value → AH → Prop) (h : F.pinfoldref16_Tree_Cut (sy (CallW Try.prog kps ext)) x0 x1 x2 H Q) : CallW Try.prog kps ext 61 [x0, x1, x2] H Q :=
  CallW.fold (⟨Try.func61, by kernel_rfl, by kernel_rfl, by kernel_rfl⟩ : Go.AM.Good Try.prog 61 Try.f61) (Eq.mpr (by kernel_rfl : evBody Try.prog (CallW Try.prog kps ext) (kps 61) Try.f61 [x0, x1, x2] H Q = evBody Try.prog (CallW Try.prog kps ext) kp.pinfoldref16_Tree_Cut Try.f61 [x0, x1, x2] H Q) (L.pinfoldref16_Tree_Cut (CallW Try.prog kps ext) x0 x1 x2 H Q h))
theorem fold_inode_Table_tall (x0 x1 : Value) (H : AH) (Q : Value → AH → Prop) (h : F.inode_Table_tall (sy (CallW Try.prog kps ext)) x0 x1 H Q) : CallW Try.prog kps ext 63 [x0, x1] H Q :=
  CallW.fold (⟨Try.func63, by kernel_rfl, by kernel_rfl, by kernel_rfl⟩ : Go.AM.Good Try.prog 63 Try.f63) (Eq.mpr (by kernel_rfl : evBody Try.prog (CallW Try.prog kps ext) (kps 63) Try.f63 [x0, x1] H Q = evBody Try.prog (CallW Try.prog kps ext) kp.inode_Table_tall Try.f63 [x0, x1] H Q) (L.inode_Table_tall (CallW Try.prog kps ext) x0 x1 H Q h))
theorem fold_math_bits_Len (x0 : Value) (H : AH) (Q : Value → AH → Prop) (h : F.math_bits_Len (sy (CallW Try.prog kps ext)) x0 H Q) : CallW Try.prog kps ext 65 [x0] H Q :=
  CallW.fold (⟨Try.func65, by kernel_rfl, by kernel_rfl, by kernel_rfl⟩ : Go.AM.Good Try.prog 65 Try.f65) (Eq.mpr (by kernel_rfl : evBody Try.prog (CallW Try.prog kps ext) (kps 65) Try.f65 [x0] H Q = evBody Try.prog (CallW Try.prog kps ext) kp.math_bits_Len Try.f65 [x0] H Q) (L.math_bits_Len (CallW Try.prog kps ext) x0 H Q h))
theorem fold_slices_pdqsortOrdered_string (x0 x1 x2 x3 : Value) (H : AH) (Q : Value → AH → Prop) (h : F.slices_pdqsortOrdered_string (sy (CallW Try.prog kps ext)) x0 x1 x2 x3 H Q) : CallW Try.prog kps ext 64 [x0, x1, x2, x3] H Q :=
  CallW.fold (⟨Try.func64, by kernel_rfl, by kernel_rfl, by kernel_rfl⟩ : Go.AM.Good Try.prog 64 Try.f64) (Eq.mpr (by kernel_rfl : evBody Try.prog (CallW Try.prog kps ext) (kps 64) Try.f64 [x0, x1, x2, x3] H Q = evBody Try.prog (CallW Try.prog kps ext) kp.slices_pdqsortOrdered_string Try.f64 [x0, x1, x2, x3] H Q) (L.slices_pdqsortOrdered_string (CallW Try.prog kps ext) x0 x1 x2 x3 H Q h))
theorem fold_strings_indexFunc (x0 x1 x2 : Value) (H : AH) (Q : Value → AH → Prop) (h : F.strings_indexFunc (sy (CallW Try.prog kps ext)) x0 x1 x2 H Q) : CallW Try.prog kps ext 66 [x0, x1, x2] H Q :=
  CallW.fold (⟨Try.func66, by kernel_rfl, by kernel_rfl, by kernel_rfl⟩ : Go.AM.Good Try.prog 66 Try.f66) (Eq.mpr (by kernel_rfl : evBody Try.prog (CallW Try.prog kps ext) (kps 66) Try.f66 [x0, x1, x2] H Q = evBody Try.prog (CallW Try.prog kps ext) kp.strings_indexFunc Try.f66 [x0, x1, x2] H Q) (L.strings_indexFunc (CallW Try.prog kps ext) x0 x1 x2 H Q h))
theorem fold_pinfoldref16_Tree_tidy (x0 x1 : Value) (H : AH) (Q : Value → AH → Prop) (h : F.pinfoldref16_Tree_tidy (sy (CallW Try.prog kps ext)) x0 x1 H Q) : CallW Try.prog kps ext 67 [x0, x1] H Q :=
  CallW.fold (⟨Try.func67, by kernel_rfl, by kernel_rfl, by kernel_rfl⟩ : Go.AM.Good Try.prog 67 Try.f67) (Eq.mpr (by kernel_rfl : evBody Try.prog (CallW Try.prog kps ext) (kps 67) Try.f67 [x0, x1] H Q = evBody Try.prog (CallW Try.prog kps ext) kp.pinfoldref16_Tree_tidy Try.f67 [x0, x1] H Q) (L.pinfoldref16_Tree_tidy (CallW Try.prog kps ext) x0 x1 H Q h))
theorem fold_slices_pdqsortOrdered_inode_Number (x0 x1 x2 x3 : Value) (H : AH) (Q : Value → AH → Prop) (h : F.slices_pdqsortOrdered_inode_Number (sy (CallW Try.prog kps ext)) x0 x1 x2 x3 H Q) : CallW Try.prog kps ext 68 [x0, x1, x2, x3] H Q :=
  CallW.fold (⟨Try.func68, by kernel_rfl, by kernel_rfl, by kernel_rfl⟩ : Go.AM.Good Try.prog 68 Try.f68) (Eq.mpr (by kernel_rfl : evBody Try.prog (CallW Try.prog kps ext) (kps 68) Try.f68 [x0, x1, x2, x3] H Q = evBody Try.prog (CallW Try.prog kps ext) kp.slices_pdqsortOrdered_inode_Number Try.f68 [x0, x1, x2, x3] H Q) (L.slices_pdqsortOrdered_inode_Number (CallW Try.prog kps ext) x0 x1 x2 x3 H Q h))
theorem fold_math_bits_Len32 (x0 : Value) (H : AH) (Q : Value → AH → Prop) (h : F.math_bits_Len32 (sy (CallW Try.prog kps ext)) x0 H Q) : CallW Try.prog kps ext 79 [x0] H Q :=
  CallW.fold (⟨Try.func79, by kernel_rfl, by kernel_rfl, by kernel_rfl⟩ : Go.AM.Good Try.prog 79 Try.f79) (Eq.mpr (by kernel_rfl : evBody Try.prog (CallW Try.prog kps ext) (kps 79) Try.f79 [x0] H Q = evBody Try.prog (CallW Try.prog kps ext) kp.math_bits_Len32 Try.f79 [x0] H Q) (L.math_bits_Len32 (CallW Try.prog kps ext) x0 H Q h))
theorem fold_math_bits_Len64 (x0 : Value) (H : AH) (Q : Value → AH → Prop) (h : F.math_bits_Len64 (sy (CallW Try.prog kps ext)) x0 H Q) : CallW Try.prog kps ext 80 [x0] H Q :=
  CallW.fold (⟨Try.func80, by kernel_rfl, by kernel_rfl, by kernel_rfl⟩ : Go.AM.Good Try.prog 80 Try.f80) (Eq.mpr (by kernel_rfl : evBody Try.prog (CallW Try.prog kps ext) (kps 80) Try.f80 [x0] H Q = evBody Try.prog (CallW Try.prog kps ext) kp.math_bits_Len64 Try.f80 [x0] H Q) (L.math_bits_Len64 (CallW Try.prog kps ext) x0 H Q h))
theorem fold_slices_insertionSortOrdered_string (x0 x1 x2 : Value) (H : AH) (Q : Value → AH → Prop) (h : F.slices_insertionSortOrdered_string (sy (CallW Try.prog kps ext)) x0 x1 x2 H Q) : CallW Try.prog kps ext 70 [x0, x1, x2] H Q :=
  CallW.fold (⟨Try.func70, by kernel_rfl, by kernel_rfl, by kernel_rfl⟩ : Go.AM.Good Try.prog 70 Try.f70) (Eq.mpr (by kernel_rfl : evBody Try.prog (CallW Try.prog kps ext) (kps 70) Try.f70 [x0, x1, x2] H Q = evBody Try.prog (CallW Try.prog kps ext) kp.slices_insertionSortOrdered_string Try.f70 [x0, x1, x2] H Q) (L.slices_insertionSortOrdered_string (CallW Try.prog kps ext) x0 x1 x2 H Q h))
theorem fold_slices_heapSortOrdered_string (x0 x1 x2 : Value) (H : AH) (Q : Value → AH → Prop) (h : F.slices_heapSortOrdered_string (sy (CallW Try.prog kps ext)) x0 x1 x2 H Q) : CallW Try.prog kps ext 71 [x0, x1, x2] H Q :=
  CallW.fold (⟨Try.func71, by kernel_rfl, by kernel_rfl, by kernel_rfl⟩ : Go.AM.Good Try.prog 71 Try.f71) (Eq.mpr (by kernel_rfl : evBody Try.prog (CallW Try.prog kps ext) (kps 71) Try.f71 [x0, x1, x2] H Q = evBody Try.prog (CallW Try.prog kps ext) kp.slices_heapSortOrdered_string Try.f71 [x0, x1, x2] H Q) (L.slices_heapSortOrdered_string (CallW Try.prog kps ext) x0 x1 x2 H Q h))
theorem fold_slices_breakPatternsOrdered_string (x0 x1 x2 : Value) (H : AH) (Q : Value → AH → Prop) (h : F.slices_breakPatternsOrdered_string (sy (CallW Try.prog kps ext)) x0 x1 x2 H Q) : CallW Try.prog kps ext 72 [x0, x1, x2] H Q :=
  CallW.fold (⟨Try.func72, by kernel_rfl, by kernel_rfl, by kernel_rfl⟩ : Go.AM.Good Try.prog 72 Try.f72) (Eq.mpr (by kernel_rfl : evBody Try.prog (CallW Try.prog kps ext) (kps 72) Try.f72 [x0, x1, x2] H Q = evBody Try.prog (CallW Try.prog kps ext) kp.slices_breakPatternsOrdered_string Try.f72 [x0, x1, x2] H Q) (L.slices_breakPatternsOrdered_string (CallW Try.prog kps ext) x0 x1 x2 H Q h))
theorem fold_slices_choosePivotOrdered_string (x0 x1 x2 : Value) (H : AH) (Q : Value → AH → Prop) (h : F.slices_choosePivotOrdered_string (sy (CallW Try.prog kps ext)) x0 x1 x2 H Q) : CallW Try.prog kps ext 73 [x0, x1, x2] H Q :=
  CallW.fold (⟨Try.func73, by kernel_rfl, by kernel_rfl, by kernel_rfl⟩ : Go.AM.Good Try.prog 73 Try.f73) (Eq.mpr (by kernel_rfl : evBody Try.prog (CallW Try.prog kps ext) (kps 73) Try.f73 [x0, x1, x2] H Q = evBody Try.prog (CallW Try.prog kps ext) kp.slices_choosePivotOrdered_string Try.f73 [x0, x1, x2] H Q) (L.slices_choosePivotOrdered_string (CallW Try.prog kps ext) x0 x1 x2 H Q h))
theorem fold_slices_reverseRangeOrdered_string (x0 x1 x2 : Value) (H : AH) (Q : Value → AH → Prop) (h : F.slices_reverseRangeOrdered_string (sy (CallW Try.prog kps ext)) x0 x1 x2 H Q) : CallW Try.prog kps ext 74 [x0, x1, x2] H Q :=
  CallW.fold (⟨Try.func74, by kernel_rfl, by kernel_rfl, by kernel_rfl⟩ : Go.AM.Good Try.prog 74 Try.f74) (Eq.mpr (by kernel_rfl : evBody Try.prog (CallW Try.prog kps ext) (kps 74) Try.f74 [x0, x1, x2] H Q = evBody Try.prog (CallW Try.prog kps ext) kp.slices_reverseRangeOrdered_string Try.f74 [x0, x1, x2] H Q) (L.slices_reverseRangeOrdered_string (CallW Try.prog kps ext) x0 x1 x2 H Q h))
theorem fold_slices_partialInsertionSortOrdered_string (x0 x1 x2 : Value) (H : AH) (Q : Value → AH → Prop) (h : F.slices_partialInsertionSortOrdered_string (sy (CallW Try.prog kps ext)) x0 x1 x2 H Q) : CallW Try.prog kps ext 75 [x0, x1, x2] H Q :=
  CallW.fold (⟨Try.func75, by kernel_rfl, by kernel_rfl, by kernel_rfl⟩ : Go.AM.Good Try.prog 75 Try.f75) (Eq.mpr (by kernel_rfl : evBody Try.prog (CallW Try.prog kps ext) (kps 75) Try.f75 [x0, x1, x2] H Q = evBody Try.prog (CallW Try.prog kps ext) kp.slices_partialInsertionSortOrdered_string Try.f75 [x0, x1, x2] H Q) (L.slices_partialInsertionSortOrdered_string (CallW Try.prog kps ext) x0 x1 x2 H Q h))
theorem fold_cmp_Less_string (x0 x1 : Value) (H : AH) (Q : Value → AH → Prop) (h : F.cmp_Less_string (sy (CallW Try.prog kps ext)) x0 x1 H Q) : CallW Try.prog kps ext 76 [x0, x1] H Q :=
  CallW.fold (⟨Try.func76, by kernel_rfl, by kernel_rfl, by kernel_rfl⟩ : Go.AM.Good Try.prog 76 Try.f76) (Eq.mpr (by kernel_rfl : evBody Try.prog (CallW Try.prog kps ext) (kps 76) Try.f76 [x0, x1] H Q = evBody Try.prog (CallW Try.prog kps ext) kp.cmp_Less_string Try.f76 [x0, x1] H Q) (L.cmp_Less_string (CallW Try.prog kps ext) x0 x1 H Q h))
theorem fold_slices_partitionEqualOrdered_string (x0 x1 x2 x3 : Value) (H : AH) (Q : Value → AH → Prop) (h : F.slices_partitionEqualOrdered_string (sy (CallW Try.prog kps ext)) x0 x1 x2 x3 H Q) : CallW Try.prog kps ext 77 [x0, x1, x2, x3] H Q :=
  CallW.fold (⟨Try.func77, by kernel_rfl, by kernel_rfl, by kernel_rfl⟩ : Go.AM.Good Try.prog 77 Try.f77) (Eq.mpr (by kernel_rfl : evBody Try.prog (CallW Try.prog kps ext) (kps 77) Try.f77 [x0, x1, x2, x3] H Q = evBody Try.prog (CallW Try.prog kps ext) kp.slices_partitionEqualOrdered_string Try.f77 [x0, x1, x2, x3] H Q) (L.slices_partitionEqualOrdered_string (CallW Try.prog kps ext) x0 x1 x2 x3 H Q h))
theorem fold_slices_partitionOrdered_string (x0 x1 x2 x3 : Value) (H : AH) (Q : Value → AH → Prop) (h : F.slices_partitionOrdered_string (sy (CallW Try.prog kps ext)) x0 x1 x2 x3 H Q) : CallW Try.prog kps ext 78 [x0, x1, x2, x3] H Q :=
  CallW.fold (⟨Try.func78, by kernel_rfl, by kernel_rfl, by kernel_rfl⟩ : Go.AM.Good Try.prog 78 Try.f78) (Eq.mpr (by kernel_rfl : evBody Try.prog (CallW Try.prog kps ext) (kps 78) Try.f78 [x0, x1, x2, x3] H Q = evBody Try.prog (CallW Try.prog kps ext) kp.slices_partitionOrdered_string Try.f78 [x0, x1, x2, x3] H Q) (L.slices_partitionOrdered_string (CallW Try.prog kps ext) x0 x1 x2 x3 H Q h))
theorem fold_slices_insertionSortOrdered_inode_Number (x0 x1 x2 : Value) (H : AH) (Q : Value → AH → Prop) (h : F.slices_insertionSortOrdered_inode_Number (sy (CallW Try.prog kps ext)) x0 x1 x2 H Q) : CallW Try.prog kps ext 81 [x0, x1, x2] H Q :=
  CallW.fold (⟨Try.func81, by kernel_rfl, by kernel_rfl, by kernel_rfl⟩ : Go.AM.Good Try.prog 81 Try.f81) (Eq.mpr (by kernel_rfl : evBody Try.prog (CallW Try.prog kps ext) (kps 81) Try.f81 [x0, x1, x2] H Q = evBody Try.prog (CallW Try.prog kps ext) kp.slices_insertionSortOrdered_inode_Number Try.f81 [x0, x1, x2] H Q) (L.slices_insertionSortOrdered_inode_Number (CallW Try.prog kps ext) x0 x1 x2 H Q h))
theorem fold_slices_heapSortOrdered_inode_Number (x0 x1 x2 : Value) (H : AH) (Q : Value → AH → Prop) (h : F.slices_heapSortOrdered_inode_Number (sy (CallW Try.prog kps ext)) x0 x1 x2 H Q) : CallW Try.prog kps ext 82 [x0, x1, x2] H Q :=
  CallW.fold (⟨Try.func82, by kernel_rfl, by kernel_rfl, by kernel_rfl⟩ : Go.AM.Good Try.prog 82 Try.f82) (Eq.mpr (by kernel_rfl : evBody Try.prog (CallW Try.prog kps ext) (kps 82) Try.f82 [x0, x1, x2] H Q = evBody Try.prog (CallW Try.prog kps ext) kp.slices_heapSortOrdered_inode_Number Try.f82 [x0, x1, x2] H Q) (L.slices_heapSortOrdered_inode_Number (CallW Try.prog kps ext) x0 x1 x2 H Q h))
theorem fold_slices_breakPatternsOrdered_inode_Number (x0 x1 x2 : Value) (H : AH) (Q : Value → AH → Prop) (h : F.slices_breakPatternsOrdered_inode_Number (sy (CallW Try.prog kps ext)) x0 x1 x2 H Q) : CallW Try.prog kps ext 83 [x0, x1, x2] H Q :=
  CallW.fold (⟨Try.func83, by kernel_rfl, by kernel_rfl, by kernel_rfl⟩ : Go.AM.Good Try.prog 83 Try.f83) (Eq.mpr (by kernel_rfl : evBody Try.prog (CallW Try.prog kps ext) (kps 83) Try.f83 [x0, x1, x2] H Q = evBody Try.prog (CallW Try.prog kps ext) kp.slices_breakPatternsOrdered_inode_Number Try.f83 [x0, x1, x2] H Q) (L.slices_breakPatternsOrdered_inode_Number (CallW Try.prog kps ext) x0 x1 x2 H Q h))
theorem fold_slices_choosePivotOrdered_inode_Number (x0 x1 x2 : Value) (H : AH) (Q : Value → AH → Prop) (h : F.slices_choosePivotOrdered_inode_Number (sy (CallW Try.prog kps ext)) x0 x1 x2 H Q) : CallW Try.prog kps ext 84 [x0, x1, x2] H Q :=
  CallW.fold (⟨Try.func84, by kernel_rfl, by kernel_rfl, by kernel_rfl⟩ : Go.AM.Good Try.prog 84 Try.f84) (Eq.mpr (by kernel_rfl : evBody Try.prog (CallW Try.prog kps ext) (kps 84) Try.f84 [x0, x1, x2] H Q = evBody Try.prog (CallW Try.prog kps ext) kp.slices_choosePivotOrdered_inode_Number Try.f84 [x0, x1, x2] H Q) (L.slices_choosePivotOrdered_inode_Number (CallW Try.prog kps ext) x0 x1 x2 H Q h))
theorem fold_slices_reverseRangeOrdered_inode_Number (x0 x1 x2 : Value) (H : AH) (Q : Value → AH → Prop) (h : F.slices_reverseRangeOrdered_inode_Number (sy (CallW Try.prog kps ext)) x0 x1 x2 H Q) : CallW Try.prog kps ext 85 [x0, x1, x2] H Q :=
  CallW.fold (⟨Try.func85, by kernel_rfl, by kernel_rfl, by kernel_rfl⟩ : Go.AM.Good Try.prog 85 Try.f85) (Eq.mpr (by kernel_rfl : evBody Try.prog (CallW Try.prog kps ext) (kps 85) Try.f85 [x0, x1, x2] H Q = evBody Try.prog (CallW Try.prog kps ext) kp.slices_reverseRangeOrdered_inode_Number Try.f85 [x0, x1, x2] H Q) (L.slices_reverseRangeOrdered_inode_Number (CallW Try.prog kps ext) x0 x1 x2 H Q h))
theorem fold_slices_partialInsertionSortOrdered_inode_Number (x0 x1 x2 : Value) (H : AH) (Q : Value → AH → Prop) (h : F.slices_partialInsertionSortOrdered_inode_Number (sy (CallW Try.prog kps ext)) x0 x1 x2 H Q) : CallW Try.prog kps ext 86 [x0, x1, x2] H Q :=
  CallW.fold (⟨Try.func86, by kernel_rfl, by kernel_rfl, by kernel_rfl⟩ : Go.AM.Good Try.prog 86 Try.f86) (Eq.mpr (by kernel_rfl : evBody Try.prog (CallW Try.prog kps ext) (kps 86) Try.f86 [x0, x1, x2] H Q = evBody Try.prog (CallW Try.prog kps ext) kp.slices_partialInsertionSortOrdered_inode_Number Try.f86 [x0, x1, x2] H Q) (L.slices_partialInsertionSortOrdered_inode_Number (CallW Try.prog kps ext) x0 x1 x2 H Q h))
theorem fold_cmp_Less_inode_Number (x0 x1 : Value) (H : AH) (Q : Value → AH → Prop) (h : F.cmp_Less_inode_Number (sy (CallW Try.prog kps ext)) x0 x1 H Q) : CallW Try.prog kps ext 87 [x0, x1] H Q :=
  CallW.fold (⟨Try.func87, by kernel_rfl, by kernel_rfl, by kernel_rfl⟩ : Go.AM.Good Try.prog 87 Try.f87) (Eq.mpr (by kernel_rfl : evBody Try.prog (CallW Try.prog kps ext) (kps 87) Try.f87 [x0, x1] H Q = evBody Try.prog (CallW Try.prog kps ext) kp.cmp_Less_inode_Number Try.f87 [x0, x1] H Q) (L.cmp_Less_inode_Number (CallW Try.prog kps ext) x0 x1 H Q h))
theorem fold_slices_partitionEqualOrdered_inode_Number (x0 x1 x2 x3 : Value) (H : AH) (Q : Value → AH → Prop) (h : F.slices_partitionEqualOrdered_inode_Number (sy (CallW Try.prog kps ext)) x0 x1 x2 x3 H Q) : CallW Try.prog kps ext 88 [x0, x1, x2, x3] H Q :=
  CallW.fold (⟨Try.func88, by kernel_rfl, by kernel_rfl, by kernel_rfl⟩ : Go.AM.Good Try.prog 88 Try.f88) (Eq.mpr (by kernel_rfl : evBody Try.prog (CallW Try.prog kps ext) (kps 88) Try.f88 [x0, x1, x2, x3] H Q = evBody Try.prog (CallW Try.prog kps ext) kp.slices_partitionEqualOrdered_inode_Number Try.f88 [x0, x1, x2, x3] H Q) (L.slices_partitionEqualOrdered_inode_Number (CallW Try.prog kps ext) x0 x1 x2 x3 H Q h))
theorem fold_slices_partitionOrdered_inode_Number (x0 x1 x2 x3 : Value) (H : AH) (Q : Value → AH → Prop) (h : F.slices_partitionOrdered_inode_Number (sy (CallW Try.prog kps ext)) x0 x1 x2 x3 H Q) : CallW Try.prog kps ext 89 [x0, x1, x2, x3] H Q :=
  CallW.fold (⟨Try.func89, by kernel_rfl, by kernel_rfl, by kernel_rfl⟩ : Go.AM.Good Try.prog 89 Try.f89) (Eq.mpr (by kernel_rfl : evBody Try.prog (CallW Try.prog kps ext) (kps 89) Try.f89 [x0, x1, x2, x3] H Q = evBody Try.prog (CallW Try.prog kps ext) kp.slices_partitionOrdered_inode_Number Try.f89 [x0, x1, x2, x3] H Q) (L.slices_partitionOrdered_inode_Number (CallW Try.prog kps ext) x0 x1 x2 x3 H Q h))
theorem fold_slices_siftDownOrdered_string (x0 x1 x2 x3 : Value) (H : AH) (Q : Value → AH → Prop) (h : F.slices_siftDownOrdered_string (sy (CallW Try.prog kps ext)) x0 x1 x2 x3 H Q) : CallW Try.prog kps ext 90 [x0, x1, x2, x3] H Q :=
  CallW.fold (⟨Try.func90, by kernel_rfl, by kernel_rfl, by kernel_rfl⟩ : Go.AM.Good Try.prog 90 Try.f90) (Eq.mpr (by kernel_rfl : evBody Try.prog (CallW Try.prog kps ext) (kps 90) Try.f90 [x0, x1, x2, x3] H Q = evBody Try.prog (CallW Try.prog kps ext) kp.slices_siftDownOrdered_string Try.f90 [x0, x1, x2, x3] H Q) (L.slices_siftDownOrdered_string (CallW Try.prog kps ext) x0 x1 x2 x3 H Q h))
theorem fold_slices_nextPowerOfTwo (x0 : Value) (H : AH) (Q : Value → AH → Prop) (h : F.slices_nextPowerOfTwo (sy (CallW Try.prog kps ext)) x0 H Q) : CallW Try.prog kps ext 91 [x0] H Q :=
  CallW.fold (⟨Try.func91, by kernel_rfl, by kernel_rfl, by kernel_rfl⟩ : Go.AM.Good Try.prog 91 Try.f91) (Eq.mpr (by kernel_rfl : evBody Try.prog (CallW Try.prog kps ext) (kps 91) Try.f91 [x0] H Q = evBody Try.prog (CallW Try.prog kps ext) kp.slices_nextPowerOfTwo Try.f91 [x0] H Q) (L.slices_nextPowerOfTwo (CallW Try.prog kps ext) x0 H Q h))
theorem fold_slices_xorshift_Next (x0 : Value) (H : AH) (Q : Value → AH → Prop) (h : F.slices_xorshift_Next (sy (CallW Try.prog kps ext)) x0 H Q) : CallW Try.prog kps ext 92 [x0] H Q :=
  CallW.fold (⟨Try.func92, by kernel_rfl, by kernel_rfl, by kernel_rfl⟩ : Go.AM.Good Try.prog 92 Try.f92) (Eq.mpr (by kernel_rfl : evBody Try.prog (CallW Try.prog kps ext) (kps 92) Try.f92 [x0] H Q = evBody Try.prog (CallW Try.prog kps ext) kp.slices_xorshift_Next Try.f92 [x0] H Q) (L.slices_xorshift_Next (CallW Try.prog kps ext) x0 H Q h))
theorem fold_slices_medianAdjacentOrdered_string (x0 x1 x2 : Value) (H : AH) (Q : Value → AH → Prop) (h : F.slices_medianAdjacentOrdered_string (sy (CallW Try.prog kps ext)) x0 x1 x2 H Q) : CallW Try.prog kps ext 93 [x0, x1, x2] H Q :=
  CallW.fold (⟨Try.func93, by kernel_rfl, by kernel_rfl, by kernel_rfl⟩ : Go.AM.Good Try.prog 93 Try.f93) (Eq.mpr (by kernel_rfl : evBody Try.prog (CallW Try.prog kps ext) (kps 93) Try.f93 [x0, x1, x2] H Q = evBody Try.prog (CallW Try.prog kps ext) kp.slices_medianAdjacentOrdered_string Try.f93 [x0, x1, x2] H Q) (L.slices_medianAdjacentOrdered_string (CallW Try.prog kps ext) x0 x1 x2 H Q h))
theorem fold_slices_medianOrdered_string (x0 x1 x2 x3 x4 : Value) (H : AH) (Q : Value → AH → Prop) (h : F.slices_medianOrdered_string (sy (CallW Try.prog kps ext)) x0 x1 x2 x3 x4 H Q) : CallW Try.prog kps ext 94 [x0, x1, x2, x3, x4] H Q :=
  CallW.fold (⟨Try.func94, by kernel_rfl, by kernel_rfl, by kernel_rfl⟩ : Go.AM.Good Try.prog 94 Try.f94) (Eq.mpr (by kernel_rfl : evBody Try.prog (CallW Try.prog kps ext) (kps 94) Try.f94 [x0, x1, x2, x3, x4] H Q = evBody Try.prog (CallW Try.prog kps ext) kp.slices_medianOrdered_string Try.f94 [x0, x1, x2, x3, x4] H Q) (L.slices_medianOrdered_string (CallW Try.prog kps ext) x0 x1 x2 x3 x4 H Q h))
theorem fold_cmp_isNaN_string (x0 : Value) (H : AH) (Q : Value → AH → Prop) (h : F.cmp_isNaN_string (sy (CallW Try.prog kps ext)) x0 H Q) : CallW Try.prog kps ext 95 [x0] H Q :=
  CallW.fold (⟨Try.func95, by kernel_rfl, by kernel_rfl, by kernel_rfl⟩ : Go.AM.Good Try.prog 95 Try.f95) (Eq.mpr (by kernel_rfl : evBody Try.prog (CallW Try.prog kps ext) (kps 95) Try.f95 [x0] H Q = evBody Try.prog (CallW Try.prog kps ext) kp.cmp_isNaN_string Try.f95 [x0] H Q) (L.cmp_isNaN_string (CallW Try.prog kps ext) x0 H Q h))
theorem fold_slices_siftDownOrdered_inode_Number (x0 x1 x2 x3 : Value) (H : AH) (Q : Value → AH → Prop) (h : F.slices_siftDownOrdered_inode_Number (sy (CallW Try.prog kps ext)) x0 x1 x2 x3 H Q) : CallW Try.prog kps ext 96 [x0, x1, x2, x3] H Q :=
  CallW.fold (⟨Try.func96, by kernel_rfl, by kernel_rfl, by kernel_rfl⟩ : Go.AM.Good Try.prog 96 Try.f96) (Eq.mpr (by kernel_rfl : evBody Try.prog (CallW Try.prog kps ext) (kps 96) Try.f96 [x0, x1, x2, x3] H Q = evBody Try.prog (CallW Try.prog kps ext) kp.slices_siftDownOrdered_inode_Number Try.f96 [x0, x1, x2, x3] H Q) (L.slices_siftDownOrdered_inode_Number (CallW Try.prog kps ext) x0 x1 x2 x3 H Q h))
theorem fold_slices_medianAdjacentOrdered_inode_Number (x0 x1 x2 : Value) (H : AH) (Q : Value → AH → Prop) (h : F.slices_medianAdjacentOrdered_inode_Number (sy (CallW Try.prog kps ext)) x0 x1 x2 H Q) : CallW Try.prog kps ext 97 [x0, x1, x2] H Q :=
  CallW.fold (⟨Try.func97, by kernel_rfl, by kernel_rfl, by kernel_rfl⟩ : Go.AM.Good Try.prog 97 Try.f97) (Eq.mpr (by kernel_rfl : evBody Try.prog (CallW Try.prog kps ext) (kps 97) Try.f97 [x0, x1, x2] H Q = evBody Try.prog (CallW Try.prog kps ext) kp.slices_medianAdjacentOrdered_inode_Number Try.f97 [x0, x1, x2] H Q) (L.slices_medianAdjacentOrdered_inode_Number (CallW Try.prog kps ext) x0 x1 x2 H Q h))
theorem fold_slices_medianOrdered_inode_Number (x0 x1 x2 x3 x4 : Value) (H : AH) (Q : Value → AH → Prop) (h : F.slices_medianOrdered_inode_Number (sy (CallW Try.prog kps ext)) x0 x1 x2 x3 x4 H Q) : CallW Try.prog kps ext 98 [x0, x1, x2, x3, x4] H Q :=
  CallW.fold (⟨Try.func98, by kernel_rfl, by kernel_rfl, by kernel_rfl⟩ : Go.AM.Good Try.prog 98 Try.f98) (Eq.mpr (by kernel_rfl : evBody Try.prog (CallW Try.prog kps ext) (kps 98) Try.f98 [x0, x1, x2, x3, x4] H Q = evBody Try.prog (CallW Try.prog kps ext) kp.slices_medianOrdered_inode_Number Try.f98 [x0, x1, x2, x3, x4] H Q) (L.slices_medianOrdered_inode_Number (CallW Try.prog kps ext) x0 x1 x2 x3 x4 H Q h))
theorem fold_cmp_isNaN_inode_Number (x0 : Value) (H : AH) (Q : Value → AH → Prop) (h : F.cmp_isNaN_inode_Number (sy (CallW Try.prog kps ext)) x0 H Q) : CallW Try.prog kps ext 99 [x0] H Q :=
  CallW.fold (⟨Try.func99, by kernel_rfl, by kernel_rfl, by kernel_rfl⟩ : Go.AM.Good Try.prog 99 Try.f99) (Eq.mpr (by kernel_rfl : evBody Try.prog (CallW Try.prog kps ext) (kps 99) Try.f99 [x0] H Q = evBody Try.prog (CallW Try.prog kps ext) kp.cmp_isNaN_inode_Number Try.f99 [x0] H Q) (L.cmp_isNaN_inode_Number (CallW Try.prog kps ext) x0 H Q h))
theorem fold_slices_order2Ordered_string (x0 x1 x2 x3 : Value) (H : AH) (Q : Value → AH → Prop) (h : F.slices_order2Ordered_string (sy (CallW Try.prog kps ext)) x0 x1 x2 x3 H Q) : CallW Try.prog kps ext 100 [x0, x1, x2, x3] H Q :=
  CallW.fold (⟨Try.func100, by kernel_rfl, by kernel_rfl, by kernel_rfl⟩ : Go.AM.Good Try.prog 100 Try.f100) (Eq.mpr (by kernel_rfl : evBody Try.prog (CallW Try.prog kps ext) (kps 100) Try.f100 [x0, x1, x2, x3] H Q = evBody Try.prog (CallW Try.prog kps ext) kp.slices_order2Ordered_string Try.f100 [x0, x1, x2, x3] H Q) (L.slices_order2Ordered_string (CallW Try.prog kps ext) x0 x1 x2 x3 H Q h))
theorem fold_slices_order2Ordered_inode_Number (x0 x1 x2 x3 : Value) (H : AH) (Q : Value → AH → Prop) (h : F.slices_order2Ordered_inode_Number (sy (CallW Try.prog kps ext)) x0 x1 x2 x3 H Q) : CallW Try.prog kps ext 101 [x0, x1, x2, x3] H Q :=
  CallW.fold (⟨Try.func101, by kernel_rfl, by kernel_rfl, by kernel_rfl⟩ : Go.AM.Good Try.prog 101 Try.f101) (Eq.mpr (by kernel_rfl : evBody Try.prog (CallW Try.prog kps ext) (kps 101) Try.f101 [x0, x1, x2, x3] H Q = evBody Try.prog (CallW Try.prog kps ext) kp.slices_order2Ordered_inode_Number Try.f101 [x0, x1, x2, x3] H Q) (L.slices_order2Ordered_inode_Number (CallW Try.prog kps ext) x0 x1 x2 x3 H Q h))
theorem fold : Go.AM.Fold (sy (CallW Try.prog kps ext)) where
  mono := CallW.mono
  pinfoldlaw16_InodeHeld := fold_pinfoldlaw16_InodeHeld
  pinfoldlaw16_InodeFull := fold_pinfoldlaw16_InodeFull
  pinfoldlaw16_InodeNames := fold_pinfoldlaw16_InodeNames
  pinfoldlaw16_InodeDeep := fold_pinfoldlaw16_InodeDeep
  pinfoldlaw16_InodeNone := fold_pinfoldlaw16_InodeNone
  pinfoldlaw16_InodeSpots := fold_pinfoldlaw16_InodeSpots
  pinfoldlaw16_Awake := fold_pinfoldlaw16_Awake
  inode_New := fold_inode_New
  inode_Table_Make := fold_inode_Table_Make
  inode_Table_Hold := fold_inode_Table_Hold
  inode_Table_Write := fold_inode_Table_Write
  inode_Table_Drop := fold_inode_Table_Drop
  inode_Table_Get := fold_inode_Table_Get
  inode_Table_Move := fold_inode_Table_Move
  inode_Table_Add := fold_inode_Table_Add
  pinfoldref16_New := fold_pinfoldref16_New
  pinfoldref16_Tree_Make := fold_pinfoldref16_Tree_Make
  inode_Table_Entries := fold_inode_Table_Entries
  inode_Name := fold_inode_Name
  pinfoldref16_Name := fold_pinfoldref16_Name
  pinfoldref16_Tree_Len := fold_pinfoldref16_Tree_Len
  inode_Table_Within := fold_inode_Table_Within
  pinfoldref16_Tree_Within := fold_pinfoldref16_Tree_Within
  pinfoldref16_Tree_Move := fold_pinfoldref16_Tree_Move
  pinfoldlaw16_Same := fold_pinfoldlaw16_Same
  inode_Table_Look := fold_inode_Table_Look
  inode_Table_Len := fold_inode_Table_Len
  inode_Table_Numbers := fold_inode_Table_Numbers
  inode_Table_Changes := fold_inode_Table_Changes
  inode_Table_Cut := fold_inode_Table_Cut
  pinfoldlaw16_Light := fold_pinfoldlaw16_Light
  pinfoldlaw16_Do := fold_pinfoldlaw16_Do
  inode_Table_Spots := fold_inode_Table_Spots
  inode_Table_room := fold_inode_Table_room
  inode_Table_depth := fold_inode_Table_depth
  sync_atomic_Int64_Add := fold_sync_atomic_Int64_Add
  inode_Table_tidy := fold_inode_Table_tidy
  inode_Table_dir := fold_inode_Table_dir
  inode_Table_may := fold_inode_Table_may
  pinfoldref16_Tree_room := fold_pinfoldref16_Tree_room
  pinfoldref16_Tree_deep := fold_pinfoldref16_Tree_deep
  pinfoldref16_insert := fold_pinfoldref16_insert
  slices_Sort_string := fold_slices_Sort_string
  strings_IndexFunc := fold_strings_IndexFunc
  inode_Name_1 := fold_inode_Name_1
  pinfoldref16_Tree_Node := fold_pinfoldref16_Tree_Node
  pinfoldref16_Tree_Look := fold_pinfoldref16_Tree_Look
  pinfoldref16_Tree_dir := fold_pinfoldref16_Tree_dir
  pinfoldref16_at := fold_pinfoldref16_at
  pinfoldref16_Tree_tall := fold_pinfoldref16_Tree_tall
  pinfoldref16_Tree_Drop := fold_pinfoldref16_Tree_Drop
  pinfoldref16_without := fold_pinfoldref16_without
  slices_Sort_inode_Number := fold_slices_Sort_inode_Number
  sync_atomic_Int64_Load := fold_sync_atomic_Int64_Load
  pinfoldlaw16_names := fold_pinfoldlaw16_names
  pinfoldref16_Tree_Add := fold_pinfoldref16_Tree_Add
  pinfoldref16_Tree_Hold := fold_pinfoldref16_Tree_Hold
  pinfoldref16_Tree_Write := fold_pinfoldref16_Tree_Write
  pinfoldref16_Tree_Cut := fold_pinfoldref16_Tree_Cut
  inode_Table_tall := fold_inode_Table_tall
  math_bits_Len := fold_math_bits_Len
  slices_pdqsortOrdered_string := fold_slices_pdqsortOrdered_string
  strings_indexFunc := fold_strings_indexFunc
  pinfoldref16_Tree_tidy := fold_pinfoldref16_Tree_tidy
  slices_pdqsortOrdered_inode_Number := fold_slices_pdqsortOrdered_inode_Number
  math_bits_Len32 := fold_math_bits_Len32
  math_bits_Len64 := fold_math_bits_Len64
  slices_insertionSortOrdered_string := fold_slices_insertionSortOrdered_string
  slices_heapSortOrdered_string := fold_slices_heapSortOrdered_string
  slices_breakPatternsOrdered_string := fold_slices_breakPatternsOrdered_string
  slices_choosePivotOrdered_string := fold_slices_choosePivotOrdered_string
  slices_reverseRangeOrdered_string := fold_slices_reverseRangeOrdered_string
  slices_partialInsertionSortOrdered_string := fold_slices_partialInsertionSortOrdered_string
  cmp_Less_string := fold_cmp_Less_string
  slices_partitionEqualOrdered_string := fold_slices_partitionEqualOrdered_string
  slices_partitionOrdered_string := fold_slices_partitionOrdered_string
  slices_insertionSortOrdered_inode_Number := fold_slices_insertionSortOrdered_inode_Number
  slices_heapSortOrdered_inode_Number := fold_slices_heapSortOrdered_inode_Number
  slices_breakPatternsOrdered_inode_Number := fold_slices_breakPatternsOrdered_inode_Number
  slices_choosePivotOrdered_inode_Number := fold_slices_choosePivotOrdered_inode_Number
  slices_reverseRangeOrdered_inode_Number := fold_slices_reverseRangeOrdered_inode_Number
  slices_partialInsertionSortOrdered_inode_Number := fold_slices_partialInsertionSortOrdered_inode_Number
  cmp_Less_inode_Number := fold_cmp_Less_inode_Number
  slices_partitionEqualOrdered_inode_Number := fold_slices_partitionEqualOrdered_inode_Number
  slices_partitionOrdered_inode_Number := fold_slices_partitionOrdered_inode_Number
  slices_siftDownOrdered_string := fold_slices_siftDownOrdered_string
  slices_nextPowerOfTwo := fold_slices_nextPowerOfTwo
  slices_xorshift_Next := fold_slices_xorshift_Next
  slices_medianAdjacentOrdered_string := fold_slices_medianAdjacentOrdered_string
  slices_medianOrdered_string := fold_slices_medianOrdered_string
  cmp_isNaN_string := fold_cmp_isNaN_string
  slices_siftDownOrdered_inode_Number := fold_slices_siftDownOrdered_inode_Number
  slices_medianAdjacentOrdered_inode_Number := fold_slices_medianAdjacentOrdered_inode_Number
  slices_medianOrdered_inode_Number := fold_slices_medianOrdered_inode_Number
  cmp_isNaN_inode_Number := fold_cmp_isNaN_inode_Number
  slices_order2Ordered_string := fold_slices_order2Ordered_string
  slices_order2Ordered_inode_Number := fold_slices_order2Ordered_inode_Number
  sync_atomic_AddInt64 := fun x0 x1 H Q h => CallW.ext (.inl <| ⟨rfl, x0, x1, rfl, h⟩)
  sync_atomic_LoadInt64 := fun x0 H Q h => CallW.ext (.inr <| .inl <| ⟨rfl, x0, rfl, h⟩)
end Go.Proofs.Ytakplbkhbalfoaa
