/- THE FUNCTIONS, HELD AGAINST THE PROGRAM: written by program (gen2.py). -/
import Derived.Test.YtgpaigieapdmoaaF
import Derived.Test.YtgpaigieapdmoaaProg
import Derived.KernelRfl
set_option linter.all false
set_option linter.unusedVariables false
set_option maxRecDepth 100000
set_option maxHeartbeats 4000000
namespace Go.Proofs.Ytgpaigieapdmoaa
open Go.AM
attribute [local irreducible] evD obls
def fidL : List Nat := [0, 0, 0, 0, 0, 0, 0, 0, 0, 0, 0, 0, 0, 0, 0, 0, 0, 0, 0, 0, 0, 0, 0, 0, 0, 0, 0, 0, 0, 0, 0, 0, 0, 0, 0, 0, 0, 0, 0, 0, 0, 0, 0, 0, 0, 0, 0, 0, 0, 0, 0, 0, 0, 0, 0, 0, 0, 0, 0, 0, 0, 0, 0, 0, 0, 0, 3, 6, 7, 8, 11, 9, 10, 4, 12, 13, 14, 5, 15, 17, 21, 22, 23, 24, 20, 16, 18, 19, 26, 25, 27, 28, 30, 29, 31, 32, 33, 34]
def tidL : List Nat := []
def sy (c : CallT) : Sy := { call := c, fid := fun n => fidL.getD n 0, tid := fun n => tidL.getD n 0 }
def kp.pinfoldlaw17_MountBack : Keep := { keep := fun n => [[0, 1], [0, 1], [], [0, 1], [0, 1, 5], [0, 5, 6], [0, 5, 6, 7], [5, 6, 7, 23, 24, 25], [5, 6, 7, 23, 24, 25], [5, 6, 7, 8, 9, 23, 24, 25], [5, 6, 7, 9, 23, 24, 25], [5, 6, 7, 9, 10, 23, 24, 25], [5, 6, 7, 9, 11, 12, 23, 24, 25], [], [5, 6, 7, 9, 11, 12, 23, 24, 25], [5, 6, 7, 9, 11, 23, 24, 25], [5, 6, 7, 9, 11, 23, 24, 25], [], [5, 6, 7, 23, 24, 25], [5, 6, 7], [5, 6, 7, 13], [5, 6, 13, 77, 78], [5, 6, 13, 77, 78], [5, 6, 13, 14, 15, 77, 78], [], [5, 6, 13, 14, 77, 78], [5, 6, 13, 77, 78], [6, 13]].getD n [], order := fun n => [].getD n [] }
def pl.pinfoldlaw17_MountBack (c : CallT) (Q : Value → AH → Prop) : Plan := [
  (2042, fun S T H => F.pinfoldlaw17_MountBack_l1 (sy c) Q (T 5) (T 6) (T 13) (T 77) (T 78) H (S 0)),
  (127, fun S T H => F.pinfoldlaw17_MountBack_j1 (sy c) Q (T 5) (T 6) (T 7) H),
  (506, fun S T H => F.pinfoldlaw17_MountBack_l2 (sy c) Q (T 5) (T 6) (T 7) (T 23) (T 24) (T 25) H (S 0))]
theorem L.pinfoldlaw17_MountBack (c : CallT) (x0 x1 : Value) (H : AH) (Q : Value → AH → Prop) (h : F.pinfoldlaw17_MountBack (sy c) x0 x1 H Q) : evBody Try.prog c kp.pinfoldlaw17_MountBack Try.f3 [x0, x1] H Q :=
  evBody_of (pl := pl.pinfoldlaw17_MountBack c Q) Try.f3 _ H Q (bodyOf Try.f3) (by kernel_rfl) (by kernel_rfl) (by kernel_rfl) h

def kp.pinfoldlaw17_MountHeld : Keep := { keep := fun n => [[0, 1, 2], [0, 1, 2], [], [0, 1, 2], [0, 1, 2, 7], [1, 2, 7, 8], [1, 2, 7, 8, 22, 23], [1, 2, 7, 8, 22, 23], [1, 2, 7, 8, 9, 22, 23], [1, 2, 7, 8, 11, 22, 23], [], [1, 2, 7, 8, 22, 23], [1, 2, 7, 8], [2, 7, 8, 12], [2, 7, 8, 12, 46, 47], [2, 7, 8, 12, 46, 47], [2, 7, 8, 12, 46, 47], [2, 7, 8, 12], [2, 7, 12, 13], [2, 7, 12, 13], [2, 7, 12, 13], [2, 7, 12, 13, 14], [2, 7, 12, 13, 14], [], [2, 7, 12, 13, 14], [2, 7, 12, 13, 14], [2, 7, 12, 13, 14, 79, 80], [2, 7, 12, 13, 14, 79, 80], [], [2, 7, 12, 13, 14, 79, 80], [2, 7, 12, 13, 14], [], [7]].getD n [], order := fun n => [].getD n [] }
def pl.pinfoldlaw17_MountHeld (c : CallT) (Q : Value → AH → Prop) : Plan := [
  (261415, fun S T H => F.pinfoldlaw17_MountHeld_j2 (sy c) Q (S 0) (T 2) (T 7) (T 12) (T 13) (T 14) H),
  (4182634, fun S T H => F.pinfoldlaw17_MountHeld_l4 (sy c) Q (S 1) (T 2) (T 7) (T 12) (T 13) (T 14) (T 79) (T 80) H (S 0)),
  (130707, fun S T H => F.pinfoldlaw17_MountHeld_j1 (sy c) Q (S 0) (T 2) (T 7) (T 12) (T 13) (T 14) H),
  (2042, fun S T H => F.pinfoldlaw17_MountHeld_l3 (sy c) Q (T 2) (T 7) (T 12) (T 13) H (S 0)),
  (1018, fun S T H => F.pinfoldlaw17_MountHeld_l2 (sy c) Q (T 2) (T 7) (T 8) (T 12) (T 46) (T 47) H (S 0)),
  (250, fun S T H => F.pinfoldlaw17_MountHeld_l1 (sy c) Q (T 1) (T 2) (T 7) (T 8) (T 22) (T 23) H (S 0))]
theorem L.pinfoldlaw17_MountHeld (c : CallT) (x0 x1 x2 : Value) (H : AH) (Q : Value → AH → Prop) (h : F.pinfoldlaw17_MountHeld (sy c) x0 x1 x2 H Q) : evBody Try.prog c kp.pinfoldlaw17_MountHeld Try.f4 [x0, x1, x2] H Q :=
  evBody_of (pl := pl.pinfoldlaw17_MountHeld c Q) Try.f4 _ H Q (bodyOf Try.f4) (by kernel_rfl) (by kernel_rfl) (by kernel_rfl) h

def kp.pinfoldlaw17_MountPlays : Keep := { keep := fun n => [[0, 1], [0, 1], [], [0, 1], [], [0, 1], [0, 1, 5, 6], [1, 5, 6, 35, 36, 37], [1, 5, 6, 35, 36, 37], [1, 5, 6, 7, 8, 35, 36, 37], [1, 5, 6, 8, 35, 36, 37], [1, 5, 6, 8, 9, 35, 36, 37], [1, 5, 6, 8, 9, 35, 36, 37], [1, 5, 6, 8, 9, 35, 36, 37], [1, 5, 6, 8, 9, 10, 35, 36, 37], [1, 5, 6, 8, 9, 35, 36, 37], [], [1, 5, 6, 8, 9, 10, 11, 35, 36, 37], [1, 5, 6, 9, 10, 35, 36, 37], [1, 5, 6, 9, 10, 12, 13, 35, 36, 37], [1, 5, 6, 12, 13, 14, 15, 35, 36, 37], [], [1, 5, 6, 8, 9, 11, 35, 36, 37], [1, 5, 6, 9, 35, 36, 37], [], [1, 5, 6, 35, 36, 37], [1, 5, 6, 16, 35, 36, 37], [], [1, 5, 6, 16, 35, 36, 37], [1, 5, 6, 35, 36, 37, 127, 128, 129], [1, 5, 6, 35, 36, 37, 127, 128, 129], [1, 5, 6, 17, 18, 35, 36, 37, 127, 128, 129], [1, 5, 6, 17, 18, 19, 20, 35, 36, 37, 127, 128, 129], [1, 5, 6, 18, 19, 20, 21, 35, 36, 37, 127, 128, 129], [], [1, 5, 6, 35, 36, 37, 127, 128, 129], [1, 5, 6, 35, 36, 37], [1, 5, 6], [5, 6, 193, 194, 195], [5, 6, 193, 194, 195], [5, 6, 23, 193, 194, 195], [5, 6, 23, 24, 25, 193, 194, 195], [5, 6, 23, 24, 25, 26, 27, 193, 194, 195], [], [5, 6, 193, 194, 195], []].getD n [], order := fun n => [[], [], [], [], [], [], [], [], [], [], [], [], [], [], [], [(0, 0), (1, 0), (2, 2), (3, 0), (4, 8), (6, 0), (7, 0), (8, 128), (9, 0), (10, 512), (5, 31), (11, 2047), (12, 4095)], [], [], [], [], [], [], [], [(0, 0), (1, 0), (3, 0), (4, 0), (2, 3), (5, 23), (6, 63), (7, 127)], [], [], [], [], [], [], [], [], [], [(0, 0), (1, 1), (2, 3), (3, 7), (4, 7), (5, 31), (6, 63), (7, 127), (8, 255), (9, 511), (10, 255), (11, 1279), (12, 4095), (13, 8191), (14, 16383), (15, 32767), (16, 65535), (17, 131071), (18, 32767), (19, 294911), (20, 1048575), (21, 2097151), (22, 4194303), (23, 8388607), (24, 16777215), (26, 8388607), (27, 75497471), (25, 33554431), (28, 268435455), (29, 536870911), (30, 1073741823), (31, 2147483647), (32, 4294967295), (33, 2147483647), (34, 10737418239), (35, 34359738367), (36, 68719476735)], [], [], [], [], [], [], [], [], [(0, 0), (1, 0), (4, 0), (5, 0), (2, 3), (3, 7), (6, 47), (7, 127), (8, 255), (9, 511), (10, 1023), (11, 1023), (12, 4095), (13, 8191), (14, 16383), (15, 32767), (17, 32767), (16, 65535), (18, 262143), (19, 524287), (20, 1048575), (21, 2097151), (22, 2097151), (23, 6291455), (25, 2097151), (26, 2097151), (27, 69206015), (28, 203423743), (24, 16777215), (29, 536870911), (30, 1073741823), (31, 2147483647)]].getD n [] }
def pl.pinfoldlaw17_MountPlays (c : CallT) (Q : Value → AH → Prop) : Plan := [
  (506, fun S T H => F.pinfoldlaw17_MountPlays_l1 (sy c) Q (T 5) (T 6) (T 193) (T 194) (T 195) H (S 0)),
  (63, fun S T H => F.pinfoldlaw17_MountPlays_j1 (sy c) Q (T 1) (T 5) (T 6) H),
  (8205310, fun S T H => F.pinfoldlaw17_MountPlays_l3 (sy c) Q (S 1) (T 1) (T 5) (T 6) (T 35) (T 36) (T 37) (T 127) (T 128) (T 129) H (S 0)),
  (512831, fun S T H => F.pinfoldlaw17_MountPlays_j3 (sy c) Q (S 0) (T 1) (T 5) (T 6) (T 35) (T 36) (T 37) H),
  (128207, fun S T H => F.pinfoldlaw17_MountPlays_j2 (sy c) Q (S 0) (T 1) (T 5) (T 6) (T 8) (T 9) (T 35) (T 36) (T 37) H),
  (250, fun S T H => F.pinfoldlaw17_MountPlays_l2 (sy c) Q (T 1) (T 5) (T 6) (T 35) (T 36) (T 37) H (S 0))]
theorem L.pinfoldlaw17_MountPlays (c : CallT) (x0 x1 : Value) (H : AH) (Q : Value → AH → Prop) (h : F.pinfoldlaw17_MountPlays (sy c) x0 x1 H Q) : evBody Try.prog c kp.pinfoldlaw17_MountPlays Try.f5 [x0, x1] H Q :=
  evBody_of (pl := pl.pinfoldlaw17_MountPlays c Q) Try.f5 _ H Q (bodyOf Try.f5) (by kernel_rfl) (by kernel_rfl) (by kernel_rfl) h

def kp.pinfoldlaw17_Awake : Keep := { keep := fun n => [[], [], [1], [1, 2, 3]].getD n [], order := fun n => [].getD n [] }
theorem L.pinfoldlaw17_Awake (c : CallT) (H : AH) (Q : Value → AH → Prop) (h : F.pinfoldlaw17_Awake (sy c) H Q) : evBody Try.prog c kp.pinfoldlaw17_Awake Try.f6 [] H Q :=
  evBody_of (pl := []) Try.f6 _ H Q (bodyOf Try.f6) (by kernel_rfl) (by kernel_rfl) (by kernel_rfl) h

def kp.mount_New : Keep := { keep := fun n => [[], []].getD n [], order := fun n => [].getD n [] }
theorem L.mount_New (c : CallT) (H : AH) (Q : Value → AH → Prop) (h : F.mount_New (sy c) H Q) : evBody Try.prog c kp.mount_New Try.f7 [] H Q :=
  evBody_of (pl := []) Try.f7 _ H Q (bodyOf Try.f7) (by kernel_rfl) (by kernel_rfl) (by kernel_rfl) h

def kp.mount_Table_Seen : Keep := { keep := fun n => [[0, 1], [0, 3, 4], [3, 4], [0, 3, 4], [0, 3, 4, 5], [3, 4], [0, 3, 4, 5]].getD n [], order := fun n => [[], [], [], [], [], [], [(0, 0), (1, 1), (2, 3), (3, 7), (4, 0), (5, 31), (6, 63), (7, 127), (8, 0), (9, 256), (10, 768), (11, 1792), (12, 0), (13, 7936), (14, 16128), (15, 32512), (16, 65535), (17, 131071)]].getD n [] }
def pl.mount_Table_Seen (c : CallT) (Q : Value → AH → Prop) : Plan := [
  (14, fun S T H => F.mount_Table_Seen_l1 (sy c) Q (T 0) (T 3) (T 4) H (S 0))]
theorem L.mount_Table_Seen (c : CallT) (x0 x1 : Value) (H : AH) (Q : Value → AH → Prop) (h : F.mount_Table_Seen (sy c) x0 x1 H Q) : evBody Try.prog c kp.mount_Table_Seen Try.f8 [x0, x1] H Q :=
  evBody_of (pl := pl.mount_Table_Seen c Q) Try.f8 _ H Q (bodyOf Try.f8) (by kernel_rfl) (by kernel_rfl) (by kernel_rfl) h

def kp.mount_Table_Bind : Keep := { keep := fun n => [[0, 1, 2], [0, 1, 5], [], [0, 1, 5], [], [0, 1, 5], [], [0, 1, 5], [], [0, 1, 5], [0, 1, 5, 8], [0, 1, 5, 8], [8]].getD n [], order := fun n => [[], [], [], [], [], [(0, 0), (1, 0), (3, 0), (2, 3), (4, 15), (5, 31)], [], [], [], [], [], [(0, 0), (1, 0), (2, 2), (3, 6), (4, 14), (5, 0), (6, 0), (7, 0), (8, 224), (9, 480), (10, 1022), (11, 2047), (12, 4095), (13, 8191)]].getD n [] }
theorem L.mount_Table_Bind (c : CallT) (x0 x1 x2 : Value) (H : AH) (Q : Value → AH → Prop) (h : F.mount_Table_Bind (sy c) x0 x1 x2 H Q) : evBody Try.prog c kp.mount_Table_Bind Try.f9 [x0, x1, x2] H Q :=
  evBody_of (pl := []) Try.f9 _ H Q (bodyOf Try.f9) (by kernel_rfl) (by kernel_rfl) (by kernel_rfl) h

def kp.mount_Table_List : Keep := { keep := fun n => [[0], [0], [], [0]].getD n [], order := fun n => [].getD n [] }
theorem L.mount_Table_List (c : CallT) (x0 : Value) (H : AH) (Q : Value → AH → Prop) (h : F.mount_Table_List (sy c) x0 H Q) : evBody Try.prog c kp.mount_Table_List Try.f10 [x0] H Q :=
  evBody_of (pl := []) Try.f10 _ H Q (bodyOf Try.f10) (by kernel_rfl) (by kernel_rfl) (by kernel_rfl) h

def kp.mount_Table_Down : Keep := { keep := fun n => [[0, 1], [0, 3, 4], [3, 4, 6, 7], [4], [4, 6]].getD n [], order := fun n => [].getD n [] }
theorem L.mount_Table_Down (c : CallT) (x0 x1 : Value) (H : AH) (Q : Value → AH → Prop) (h : F.mount_Table_Down (sy c) x0 x1 H Q) : evBody Try.prog c kp.mount_Table_Down Try.f11 [x0, x1] H Q :=
  evBody_of (pl := []) Try.f11 _ H Q (bodyOf Try.f11) (by kernel_rfl) (by kernel_rfl) (by kernel_rfl) h

def kp.mount_Table_Hold : Keep := { keep := fun n => [[0, 1, 2], [0, 1, 2], [0, 7], [0, 2, 7], [], [0, 2, 7], [0, 7], [0, 7], [], []].getD n [], order := fun n => [].getD n [] }
theorem L.mount_Table_Hold (c : CallT) (x0 x1 x2 : Value) (H : AH) (Q : Value → AH → Prop) (h : F.mount_Table_Hold (sy c) x0 x1 x2 H Q) : evBody Try.prog c kp.mount_Table_Hold Try.f12 [x0, x1, x2] H Q :=
  evBody_of (pl := []) Try.f12 _ H Q (bodyOf Try.f12) (by kernel_rfl) (by kernel_rfl) (by kernel_rfl) h

def kp.mount_Table_Drop : Keep := { keep := fun n => [[0, 1], [0, 3], [], [0, 3], [0, 3, 6], [], [0, 3], [0, 3, 7], [], [0, 7], []].getD n [], order := fun n => [].getD n [] }
theorem L.mount_Table_Drop (c : CallT) (x0 x1 : Value) (H : AH) (Q : Value → AH → Prop) (h : F.mount_Table_Drop (sy c) x0 x1 H Q) : evBody Try.prog c kp.mount_Table_Drop Try.f13 [x0, x1] H Q :=
  evBody_of (pl := []) Try.f13 _ H Q (bodyOf Try.f13) (by kernel_rfl) (by kernel_rfl) (by kernel_rfl) h

def kp.mount_Top : Keep := { keep := fun n => [[], [0]].getD n [], order := fun n => [].getD n [] }
theorem L.mount_Top (c : CallT) (H : AH) (Q : Value → AH → Prop) (h : F.mount_Top (sy c) H Q) : evBody Try.prog c kp.mount_Top Try.f14 [] H Q :=
  evBody_of (pl := []) Try.f14 _ H Q (bodyOf Try.f14) (by kernel_rfl) (by kernel_rfl) (by kernel_rfl) h

def kp.pinfoldref16_New : Keep := { keep := fun n => [[0], [0]].getD n [], order := fun n => [].getD n [] }
theorem L.pinfoldref16_New (c : CallT) (x0 : Value) (H : AH) (Q : Value → AH → Prop) (h : F.pinfoldref16_New (sy c) x0 H Q) : evBody Try.prog c kp.pinfoldref16_New Try.f15 [x0] H Q :=
  evBody_of (pl := []) Try.f15 _ H Q (bodyOf Try.f15) (by kernel_rfl) (by kernel_rfl) (by kernel_rfl) h

def kp.pinfoldlaw17_Ref : Keep := { keep := fun n => [[0], [1, 2]].getD n [], order := fun n => [].getD n [] }
theorem L.pinfoldlaw17_Ref (c : CallT) (x0 : Value) (H : AH) (Q : Value → AH → Prop) (h : F.pinfoldlaw17_Ref (sy c) x0 H Q) : evBody Try.prog c kp.pinfoldlaw17_Ref Try.f17 [x0] H Q :=
  evBody_of (pl := []) Try.f17 _ H Q (bodyOf Try.f17) (by kernel_rfl) (by kernel_rfl) (by kernel_rfl) h

def kp.pinfoldref16_Tree_Bind : Keep := { keep := fun n => [[0, 1, 2], [0, 1, 5], [], [0, 1, 5], [], [0, 1, 5], [], [0, 1, 5], [0, 1, 5, 8], [0, 1, 5, 8], [8]].getD n [], order := fun n => [[], [], [], [(0, 0), (1, 0), (3, 0), (2, 3), (4, 15)], [], [], [], [], [], [(0, 0), (1, 0), (2, 2), (3, 6), (4, 14), (5, 0), (6, 0), (7, 0), (8, 224), (9, 480), (10, 1022), (11, 2047), (12, 4095), (13, 8191)]].getD n [] }
theorem L.pinfoldref16_Tree_Bind (c : CallT) (x0 x1 x2 : Value) (H : AH) (Q : Value → AH → Prop) (h : F.pinfoldref16_Tree_Bind (sy c) x0 x1 x2 H Q) : evBody Try.prog c kp.pinfoldref16_Tree_Bind Try.f16 [x0, x1, x2] H Q :=
  evBody_of (pl := []) Try.f16 _ H Q (bodyOf Try.f16) (by kernel_rfl) (by kernel_rfl) (by kernel_rfl) h

def kp.pinfoldref16_Tree_Unmount : Keep := { keep := fun n => [[0, 1], [0, 3], [0, 3, 6], [], [0, 3], [0, 3, 7], [], [0, 3, 7], [0, 3, 7, 8], [0, 3, 7, 8], [0, 3, 7, 8], [], [0, 7], []].getD n [], order := fun n => [[], [], [], [], [], [], [], [], [], [], [(0, 0), (1, 1), (2, 3), (3, 7), (4, 0), (5, 31), (6, 63), (7, 127), (8, 255), (9, 511), (10, 1023), (11, 2047), (12, 4095), (13, 8191), (14, 1023), (15, 32767), (16, 65535), (17, 131071), (18, 262143), (19, 1023), (20, 525311), (21, 2097151), (22, 4194303)], [], [(0, 0), (1, 0), (2, 0), (3, 4), (4, 12), (5, 28), (6, 0), (7, 124), (9, 0), (10, 512), (11, 1536), (12, 3584), (13, 0), (14, 8192), (15, 32256), (8, 254), (16, 65534), (17, 131071), (18, 262143), (19, 524287)]].getD n [] }
def pl.pinfoldref16_Tree_Unmount (c : CallT) (Q : Value → AH → Prop) : Plan := [
  (506, fun S T H => F.pinfoldref16_Tree_Unmount_l1 (sy c) Q (T 0) (T 3) (T 7) (T 8) H (S 0))]
theorem L.pinfoldref16_Tree_Unmount (c : CallT) (x0 x1 : Value) (H : AH) (Q : Value → AH → Prop) (h : F.pinfoldref16_Tree_Unmount (sy c) x0 x1 H Q) : evBody Try.prog c kp.pinfoldref16_Tree_Unmount Try.f18 [x0, x1] H Q :=
  evBody_of (pl := pl.pinfoldref16_Tree_Unmount c Q) Try.f18 _ H Q (bodyOf Try.f18) (by kernel_rfl) (by kernel_rfl) (by kernel_rfl) h

def kp.pinfoldref16_Tree_HoldMount : Keep := { keep := fun n => [[0, 1, 2], [0, 1, 2], [0, 2, 7], [], [0, 2, 7], [0, 7], [], [0, 7], [], [0, 7], []].getD n [], order := fun n => [[], [], [], [], [], [(0, 0), (1, 1), (2, 3), (3, 7), (4, 0), (5, 0), (6, 32), (7, 96), (8, 224), (9, 0), (10, 992), (11, 2016), (12, 4064), (13, 8160), (14, 16383), (15, 32767), (16, 65535)], [], [], [], [(0, 0), (1, 1), (2, 3), (3, 7), (4, 0), (5, 0), (6, 32), (7, 96), (8, 224), (9, 0), (10, 992), (11, 2016), (12, 4064), (13, 8160), (14, 16383), (15, 32767), (16, 65535)]].getD n [] }
theorem L.pinfoldref16_Tree_HoldMount (c : CallT) (x0 x1 x2 : Value) (H : AH) (Q : Value → AH → Prop) (h : F.pinfoldref16_Tree_HoldMount (sy c) x0 x1 x2 H Q) : evBody Try.prog c kp.pinfoldref16_Tree_HoldMount Try.f19 [x0, x1, x2] H Q :=
  evBody_of (pl := []) Try.f19 _ H Q (bodyOf Try.f19) (by kernel_rfl) (by kernel_rfl) (by kernel_rfl) h

def kp.mount_Table_Get : Keep := { keep := fun n => [[0, 1], [0, 1, 4], [0, 4, 6], [4], [0, 4, 6]].getD n [], order := fun n => [].getD n [] }
theorem L.mount_Table_Get (c : CallT) (x0 x1 : Value) (H : AH) (Q : Value → AH → Prop) (h : F.mount_Table_Get (sy c) x0 x1 H Q) : evBody Try.prog c kp.mount_Table_Get Try.f20 [x0, x1] H Q :=
  evBody_of (pl := []) Try.f20 _ H Q (bodyOf Try.f20) (by kernel_rfl) (by kernel_rfl) (by kernel_rfl) h

def kp.pinfoldref16_Tree_Down : Keep := { keep := fun n => [[0, 1], [0, 3, 4], [0, 3, 4, 6], [4], [0, 4, 6]].getD n [], order := fun n => [[], [], [(0, 0), (1, 1), (2, 3), (3, 7), (4, 15), (5, 31), (6, 63), (7, 127), (8, 255), (9, 511), (10, 1023), (11, 2047), (12, 255), (13, 8191), (14, 16383), (15, 32767), (16, 255), (17, 65791), (18, 262143), (19, 524287)]].getD n [] }
theorem L.pinfoldref16_Tree_Down (c : CallT) (x0 x1 : Value) (H : AH) (Q : Value → AH → Prop) (h : F.pinfoldref16_Tree_Down (sy c) x0 x1 H Q) : evBody Try.prog c kp.pinfoldref16_Tree_Down Try.f21 [x0, x1] H Q :=
  evBody_of (pl := []) Try.f21 _ H Q (bodyOf Try.f21) (by kernel_rfl) (by kernel_rfl) (by kernel_rfl) h

def kp.pinfoldref16_Tree_Seen : Keep := { keep := fun n => [[0, 1], [0, 3, 4], [0, 3, 4, 5], [0, 3, 4, 5], [0, 3, 4, 5], [0, 3, 4, 5, 6], [0, 3, 4, 5, 6, 7], [0, 3, 4, 5, 6, 7], [0, 3, 4, 5, 6, 7], [0, 3, 4, 5, 7], [0, 3, 4, 5, 6], [3, 4], [0, 3, 4, 5, 6], [3, 4]].getD n [], order := fun n => [[], [], [], [], [], [], [], [], [(0, 0), (1, 1), (2, 3), (3, 7), (4, 0), (5, 31), (6, 63), (7, 127), (8, 255), (9, 511), (10, 1023), (11, 2047), (12, 4095), (13, 8191), (14, 1023), (15, 32767), (16, 65535), (17, 131071), (18, 1023), (19, 524287), (20, 1048575)], [], [], [], [(0, 0), (1, 1), (2, 3), (3, 7), (4, 0), (5, 31), (6, 63), (7, 127), (8, 0), (9, 256), (10, 768), (11, 1792), (12, 0), (13, 7936), (14, 16128), (15, 32512), (16, 65535), (17, 131071)]].getD n [] }
def pl.pinfoldref16_Tree_Seen (c : CallT) (Q : Value → AH → Prop) : Plan := [
  (6730, fun S T H => F.pinfoldref16_Tree_Seen_l2 (sy c) Q (S 1) (T 0) (T 3) (T 4) (T 5) (T 6) (T 7) H (S 0)),
  (26, fun S T H => F.pinfoldref16_Tree_Seen_l1 (sy c) Q (T 0) (T 3) (T 4) (T 5) H (S 0))]
theorem L.pinfoldref16_Tree_Seen (c : CallT) (x0 x1 : Value) (H : AH) (Q : Value → AH → Prop) (h : F.pinfoldref16_Tree_Seen (sy c) x0 x1 H Q) : evBody Try.prog c kp.pinfoldref16_Tree_Seen Try.f22 [x0, x1] H Q :=
  evBody_of (pl := pl.pinfoldref16_Tree_Seen c Q) Try.f22 _ H Q (bodyOf Try.f22) (by kernel_rfl) (by kernel_rfl) (by kernel_rfl) h

def kp.mount_Table_Used : Keep := { keep := fun n => [[0, 1], [0, 3], [], [0, 3]].getD n [], order := fun n => [].getD n [] }
theorem L.mount_Table_Used (c : CallT) (x0 x1 : Value) (H : AH) (Q : Value → AH → Prop) (h : F.mount_Table_Used (sy c) x0 x1 H Q) : evBody Try.prog c kp.mount_Table_Used Try.f23 [x0, x1] H Q :=
  evBody_of (pl := []) Try.f23 _ H Q (bodyOf Try.f23) (by kernel_rfl) (by kernel_rfl) (by kernel_rfl) h

def kp.pinfoldref16_Tree_Used : Keep := { keep := fun n => [[0, 1], [0, 1], [0, 1, 5], [0, 1, 5], [0, 1, 5], [], []].getD n [], order := fun n => [].getD n [] }
def pl.pinfoldref16_Tree_Used (c : CallT) (Q : Value → AH → Prop) : Plan := [
  (26, fun S T H => F.pinfoldref16_Tree_Used_l1 (sy c) Q (T 0) (T 1) (T 5) H (S 0))]
theorem L.pinfoldref16_Tree_Used (c : CallT) (x0 x1 : Value) (H : AH) (Q : Value → AH → Prop) (h : F.pinfoldref16_Tree_Used (sy c) x0 x1 H Q) : evBody Try.prog c kp.pinfoldref16_Tree_Used Try.f24 [x0, x1] H Q :=
  evBody_of (pl := pl.pinfoldref16_Tree_Used c Q) Try.f24 _ H Q (bodyOf Try.f24) (by kernel_rfl) (by kernel_rfl) (by kernel_rfl) h

def kp.mount_Table_Seen_1 : Keep := { keep := fun n => [[0, 1], [1, 2]].getD n [], order := fun n => [].getD n [] }
theorem L.mount_Table_Seen_1 (c : CallT) (x0 x1 : Value) (H : AH) (Q : Value → AH → Prop) (h : F.mount_Table_Seen_1 (sy c) x0 x1 H Q) : evBody Try.prog c kp.mount_Table_Seen_1 Try.f26 [x0, x1] H Q :=
  evBody_of (pl := []) Try.f26 _ H Q (bodyOf Try.f26) (by kernel_rfl) (by kernel_rfl) (by kernel_rfl) h

def kp.slices_IndexFunc_mount_Mount : Keep := { keep := fun n => [[0, 1], [0, 1], [0, 1, 7, 8], [0, 1, 7, 8], [0, 1, 5, 7, 8], [5], [0, 1, 7, 8], []].getD n [], order := fun n => [].getD n [] }
def pl.slices_IndexFunc_mount_Mount (c : CallT) (Q : Value → AH → Prop) : Plan := [
  (26, fun S T H => F.slices_IndexFunc_mount_Mount_l1 (sy c) Q (T 0) (T 1) (T 7) (T 8) H (S 0))]
theorem L.slices_IndexFunc_mount_Mount (c : CallT) (x0 x1 : Value) (H : AH) (Q : Value → AH → Prop) (h : F.slices_IndexFunc_mount_Mount (sy c) x0 x1 H Q) : evBody Try.prog c kp.slices_IndexFunc_mount_Mount Try.f25 [x0, x1] H Q :=
  evBody_of (pl := pl.slices_IndexFunc_mount_Mount c Q) Try.f25 _ H Q (bodyOf Try.f25) (by kernel_rfl) (by kernel_rfl) (by kernel_rfl) h

def kp.mount_Table_find : Keep := { keep := fun n => [[0, 1], [0, 3], [], [0, 3]].getD n [], order := fun n => [].getD n [] }
theorem L.mount_Table_find (c : CallT) (x0 x1 : Value) (H : AH) (Q : Value → AH → Prop) (h : F.mount_Table_find (sy c) x0 x1 H Q) : evBody Try.prog c kp.mount_Table_find Try.f27 [x0, x1] H Q :=
  evBody_of (pl := []) Try.f27 _ H Q (bodyOf Try.f27) (by kernel_rfl) (by kernel_rfl) (by kernel_rfl) h

def kp.slices_Clone_mount_Mount : Keep := { keep := fun n => [[0], [0], [], [0]].getD n [], order := fun n => [].getD n [] }
theorem L.slices_Clone_mount_Mount (c : CallT) (x0 : Value) (H : AH) (Q : Value → AH → Prop) (h : F.slices_Clone_mount_Mount (sy c) x0 H Q) : evBody Try.prog c kp.slices_Clone_mount_Mount Try.f28 [x0] H Q :=
  evBody_of (pl := []) Try.f28 _ H Q (bodyOf Try.f28) (by kernel_rfl) (by kernel_rfl) (by kernel_rfl) h

def kp.mount_Table_Drop_1 : Keep := { keep := fun n => [[0, 1], [1, 2]].getD n [], order := fun n => [].getD n [] }
theorem L.mount_Table_Drop_1 (c : CallT) (x0 x1 : Value) (H : AH) (Q : Value → AH → Prop) (h : F.mount_Table_Drop_1 (sy c) x0 x1 H Q) : evBody Try.prog c kp.mount_Table_Drop_1 Try.f30 [x0, x1] H Q :=
  evBody_of (pl := []) Try.f30 _ H Q (bodyOf Try.f30) (by kernel_rfl) (by kernel_rfl) (by kernel_rfl) h

def kp.slices_ContainsFunc_mount_Mount : Keep := { keep := fun n => [[0, 1], [0, 1]].getD n [], order := fun n => [].getD n [] }
theorem L.slices_ContainsFunc_mount_Mount (c : CallT) (x0 x1 : Value) (H : AH) (Q : Value → AH → Prop) (h : F.slices_ContainsFunc_mount_Mount (sy c) x0 x1 H Q) : evBody Try.prog c kp.slices_ContainsFunc_mount_Mount Try.f29 [x0, x1] H Q :=
  evBody_of (pl := []) Try.f29 _ H Q (bodyOf Try.f29) (by kernel_rfl) (by kernel_rfl) (by kernel_rfl) h

def kp.slices_Delete_mount_Mount : Keep := { keep := fun n => [[0, 1, 2], [0, 1, 2], [0, 1, 2], [0], [0, 1, 2], [0, 1, 2, 7], [0, 7], [0]].getD n [], order := fun n => [[], [], [], [], [], [(0, 0), (1, 0), (2, 3), (3, 0), (4, 0), (5, 24), (6, 63), (7, 127)]].getD n [] }
theorem L.slices_Delete_mount_Mount (c : CallT) (x0 x1 x2 : Value) (H : AH) (Q : Value → AH → Prop) (h : F.slices_Delete_mount_Mount (sy c) x0 x1 x2 H Q) : evBody Try.prog c kp.slices_Delete_mount_Mount Try.f31 [x0, x1, x2] H Q :=
  evBody_of (pl := []) Try.f31 _ H Q (bodyOf Try.f31) (by kernel_rfl) (by kernel_rfl) (by kernel_rfl) h

def kp.pinfoldref16_Tree_find : Keep := { keep := fun n => [[0, 1], [0, 1], [0, 1, 5], [0, 1, 5], [0, 1, 5], [5], []].getD n [], order := fun n => [].getD n [] }
def pl.pinfoldref16_Tree_find (c : CallT) (Q : Value → AH → Prop) : Plan := [
  (26, fun S T H => F.pinfoldref16_Tree_find_l1 (sy c) Q (T 0) (T 1) (T 5) H (S 0))]
theorem L.pinfoldref16_Tree_find (c : CallT) (x0 x1 : Value) (H : AH) (Q : Value → AH → Prop) (h : F.pinfoldref16_Tree_find (sy c) x0 x1 H Q) : evBody Try.prog c kp.pinfoldref16_Tree_find Try.f32 [x0, x1] H Q :=
  evBody_of (pl := pl.pinfoldref16_Tree_find c Q) Try.f32 _ H Q (bodyOf Try.f32) (by kernel_rfl) (by kernel_rfl) (by kernel_rfl) h

def kp.mount_Table_Used_1 : Keep := { keep := fun n => [[0, 1], [1, 2]].getD n [], order := fun n => [].getD n [] }
theorem L.mount_Table_Used_1 (c : CallT) (x0 x1 : Value) (H : AH) (Q : Value → AH → Prop) (h : F.mount_Table_Used_1 (sy c) x0 x1 H Q) : evBody Try.prog c kp.mount_Table_Used_1 Try.f33 [x0, x1] H Q :=
  evBody_of (pl := []) Try.f33 _ H Q (bodyOf Try.f33) (by kernel_rfl) (by kernel_rfl) (by kernel_rfl) h

def kp.mount_Table_find_1 : Keep := { keep := fun n => [[0, 1], [1, 2]].getD n [], order := fun n => [].getD n [] }
theorem L.mount_Table_find_1 (c : CallT) (x0 x1 : Value) (H : AH) (Q : Value → AH → Prop) (h : F.mount_Table_find_1 (sy c) x0 x1 H Q) : evBody Try.prog c kp.mount_Table_find_1 Try.f34 [x0, x1] H Q :=
  evBody_of (pl := []) Try.f34 _ H Q (bodyOf Try.f34) (by kernel_rfl) (by kernel_rfl) (by kernel_rfl) h

def kpL : List (Nat × Keep) := [(3, kp.pinfoldlaw17_MountBack), (4, kp.pinfoldlaw17_MountHeld), (5, kp.pinfoldlaw17_MountPlays), (6, kp.pinfoldlaw17_Awake), (7, kp.mount_New), (8, kp.mount_Table_Seen), (9, kp.mount_Table_Bind), (10, kp.mount_Table_List), (11, kp.mount_Table_Down), (12, kp.mount_Table_Hold), (13, kp.mount_Table_Drop), (14, kp.mount_Top), (15, kp.pinfoldref16_New), (17, kp.pinfoldlaw17_Ref), (16, kp.pinfoldref16_Tree_Bind), (18, kp.pinfoldref16_Tree_Unmount), (19, kp.pinfoldref16_Tree_HoldMount), (20, kp.mount_Table_Get), (21, kp.pinfoldref16_Tree_Down), (22, kp.pinfoldref16_Tree_Seen), (23, kp.mount_Table_Used), (24, kp.pinfoldref16_Tree_Used), (26, kp.mount_Table_Seen_1), (25, kp.slices_IndexFunc_mount_Mount), (27, kp.mount_Table_find), (28, kp.slices_Clone_mount_Mount), (30, kp.mount_Table_Drop_1), (29, kp.slices_ContainsFunc_mount_Mount), (31, kp.slices_Delete_mount_Mount), (32, kp.pinfoldref16_Tree_find), (33, kp.mount_Table_Used_1), (34, kp.mount_Table_find_1)]
def kps (f : FuncId) : Keep := ((kpL.find? (fun p => p.1 == f)).map (fun p => p.2)).getD { keep := fun _ => [], order := fun _ => [] }
theorem fold_pinfoldlaw17_MountBack (ext : CallT) (x0 x1 : Value) (H : AH) (Q : Value → AH → Prop) (h : F.pinfoldlaw17_MountBack (sy (CallW Try.prog kps ext)) x0 x1 H Q) : CallW Try.prog kps ext 3 [x0, x1] H Q :=
  CallW.fold (⟨Try.func3, by kernel_rfl, by kernel_rfl, by kernel_rfl⟩ : Go.AM.Good Try.prog 3 Try.f3) (Eq.mpr (by kernel_rfl : evBody Try.prog (CallW Try.prog kps ext) (kps 3) Try.f3 [x0, x1] H Q = evBody Try.prog (CallW Try.prog kps ext) kp.pinfoldlaw17_MountBack Try.f3 [x0, x1] H Q) (L.pinfoldlaw17_MountBack (CallW Try.prog kps ext) x0 x1 H Q h))
theorem fold_pinfoldlaw17_MountHeld (ext : CallT) (x0 x1 x2 : Value) (H : AH) (Q : Value → AH → Prop) (h : F.pinfoldlaw17_MountHeld (sy (CallW Try.prog kps ext)) x0 x1 x2 H Q) : CallW Try.prog kps ext 4 [x0, x1, x2] H Q :=
  CallW.fold (⟨Try.func4, by kernel_rfl, by kernel_rfl, by kernel_rfl⟩ : Go.AM.Good Try.prog 4 Try.f4) (Eq.mpr (by kernel_rfl : evBody Try.prog (CallW Try.prog kps ext) (kps 4) Try.f4 [x0, x1, x2] H Q = evBody Try.prog (CallW Try.prog kps ext) kp.pinfoldlaw17_MountHeld Try.f4 [x0, x1, x2] H Q) (L.pinfoldlaw17_MountHeld (CallW Try.prog kps ext) x0 x1 x2 H Q h))
theorem fold_pinfoldlaw17_MountPlays (ext : CallT) (x0 x1 : Value) (H : AH) (Q : Value → AH → Prop) (h : F.pinfoldlaw17_MountPlays (sy (CallW Try.prog kps ext)) x0 x1 H Q) : CallW Try.prog kps ext 5 [x0, x1] H Q :=
  CallW.fold (⟨Try.func5, by kernel_rfl, by kernel_rfl, by kernel_rfl⟩ : Go.AM.Good Try.prog 5 Try.f5) (Eq.mpr (by kernel_rfl : evBody Try.prog (CallW Try.prog kps ext) (kps 5) Try.f5 [x0, x1] H Q = evBody Try.prog (CallW Try.prog kps ext) kp.pinfoldlaw17_MountPlays Try.f5 [x0, x1] H Q) (L.pinfoldlaw17_MountPlays (CallW Try.prog kps ext) x0 x1 H Q h))
theorem fold_pinfoldlaw17_Awake (ext : CallT) (H : AH) (Q : Value → AH → Prop) (h : F.pinfoldlaw17_Awake (sy (CallW Try.prog kps ext)) H Q) : CallW Try.prog kps ext 6 [] H Q :=
  CallW.fold (⟨Try.func6, by kernel_rfl, by kernel_rfl, by kernel_rfl⟩ : Go.AM.Good Try.prog 6 Try.f6) (Eq.mpr (by kernel_rfl : evBody Try.prog (CallW Try.prog kps ext) (kps 6) Try.f6 [] H Q = evBody Try.prog (CallW Try.prog kps ext) kp.pinfoldlaw17_Awake Try.f6 [] H Q) (L.pinfoldlaw17_Awake (CallW Try.prog kps ext) H Q h))
theorem fold_mount_New (ext : CallT) (H : AH) (Q : Value → AH → Prop) (h : F.mount_New (sy (CallW Try.prog kps ext)) H Q) : CallW Try.prog kps ext 7 [] H Q :=
  CallW.fold (⟨Try.func7, by kernel_rfl, by kernel_rfl, by kernel_rfl⟩ : Go.AM.Good Try.prog 7 Try.f7) (Eq.mpr (by kernel_rfl : evBody Try.prog (CallW Try.prog kps ext) (kps 7) Try.f7 [] H Q = evBody Try.prog (CallW Try.prog kps ext) kp.mount_New Try.f7 [] H Q) (L.mount_New (CallW Try.prog kps ext) H Q h))
theorem fold_mount_Table_Seen (ext : CallT) (x0 x1 : Value) (H : AH) (Q : Value → AH → Prop) (h : F.mount_Table_Seen (sy (CallW Try.prog kps ext)) x0 x1 H Q) : CallW Try.prog kps ext 8 [x0, x1] H Q :=
  CallW.fold (⟨Try.func8, by kernel_rfl, by kernel_rfl, by kernel_rfl⟩ : Go.AM.Good Try.prog 8 Try.f8) (Eq.mpr (by kernel_rfl : evBody Try.prog (CallW Try.prog kps ext) (kps 8) Try.f8 [x0, x1] H Q = evBody Try.prog (CallW Try.prog kps ext) kp.mount_Table_Seen Try.f8 [x0, x1] H Q) (L.mount_Table_Seen (CallW Try.prog kps ext) x0 x1 H Q h))
theorem fold_mount_Table_Bind (ext : CallT) (x0 x1 x2 : Value) (H : AH) (Q : Value → AH → Prop) (h : F.mount_Table_Bind (sy (CallW Try.prog kps ext)) x0 x1 x2 H Q) : CallW Try.prog kps ext 9 [x0, x1, x2] H Q :=
  CallW.fold (⟨Try.func9, by kernel_rfl, by kernel_rfl, by kernel_rfl⟩ : Go.AM.Good Try.prog 9 Try.f9) (Eq.mpr (by kernel_rfl : evBody Try.prog (CallW Try.prog kps ext) (kps 9) Try.f9 [x0, x1, x2] H Q = evBody Try.prog (CallW Try.prog kps ext) kp.mount_Table_Bind Try.f9 [x0, x1, x2] H Q) (L.mount_Table_Bind (CallW Try.prog kps ext) x0 x1 x2 H Q h))
theorem fold_mount_Table_List (ext : CallT) (x0 : Value) (H : AH) (Q : Value → AH → Prop) (h : F.mount_Table_List (sy (CallW Try.prog kps ext)) x0 H Q) : CallW Try.prog kps ext 10 [x0] H Q :=
  CallW.fold (⟨Try.func10, by kernel_rfl, by kernel_rfl, by kernel_rfl⟩ : Go.AM.Good Try.prog 10 Try.f10) (Eq.mpr (by kernel_rfl : evBody Try.prog (CallW Try.prog kps ext) (kps 10) Try.f10 [x0] H Q = evBody Try.prog (CallW Try.prog kps ext) kp.mount_Table_List Try.f10 [x0] H Q) (L.mount_Table_List (CallW Try.prog kps ext) x0 H Q h))
theorem fold_mount_Table_Down (ext : CallT) (x0 x1 : Value) (H : AH) (Q : Value → AH → Prop) (h : F.mount_Table_Down (sy (CallW Try.prog kps ext)) x0 x1 H Q) : CallW Try.prog kps ext 11 [x0, x1] H Q :=
  CallW.fold (⟨Try.func11, by kernel_rfl, by kernel_rfl, by kernel_rfl⟩ : Go.AM.Good Try.prog 11 Try.f11) (Eq.mpr (by kernel_rfl : evBody Try.prog (CallW Try.prog kps ext) (kps 11) Try.f11 [x0, x1] H Q = evBody Try.prog (CallW Try.prog kps ext) kp.mount_Table_Down Try.f11 [x0, x1] H Q) (L.mount_Table_Down (CallW Try.prog kps ext) x0 x1 H Q h))
theorem fold_mount_Table_Hold (ext : CallT) (x0 x1 x2 : Value) (H : AH) (Q : Value → AH → Prop) (h : F.mount_Table_Hold (sy (CallW Try.prog kps ext)) x0 x1 x2 H Q) : CallW Try.prog kps ext 12 [x0, x1, x2] H Q :=
  CallW.fold (⟨Try.func12, by kernel_rfl, by kernel_rfl, by kernel_rfl⟩ : Go.AM.Good Try.prog 12 Try.f12) (Eq.mpr (by kernel_rfl : evBody Try.prog (CallW Try.prog kps ext) (kps 12) Try.f12 [x0, x1, x2] H Q = evBody Try.prog (CallW Try.prog kps ext) kp.mount_Table_Hold Try.f12 [x0, x1, x2] H Q) (L.mount_Table_Hold (CallW Try.prog kps ext) x0 x1 x2 H Q h))
theorem fold_mount_Table_Drop (ext : CallT) (x0 x1 : Value) (H : AH) (Q : Value → AH → Prop) (h : F.mount_Table_Drop (sy (CallW Try.prog kps ext)) x0 x1 H Q) : CallW Try.prog kps ext 13 [x0, x1] H Q :=
  CallW.fold (⟨Try.func13, by kernel_rfl, by kernel_rfl, by kernel_rfl⟩ : Go.AM.Good Try.prog 13 Try.f13) (Eq.mpr (by kernel_rfl : evBody Try.prog (CallW Try.prog kps ext) (kps 13) Try.f13 [x0, x1] H Q = evBody Try.prog (CallW Try.prog kps ext) kp.mount_Table_Drop Try.f13 [x0, x1] H Q) (L.mount_Table_Drop (CallW Try.prog kps ext) x0 x1 H Q h))
theorem fold_mount_Top (ext : CallT) (H : AH) (Q : Value → AH → Prop) (h : F.mount_Top (sy (CallW Try.prog kps ext)) H Q) : CallW Try.prog kps ext 14 [] H Q :=
  CallW.fold (⟨Try.func14, by kernel_rfl, by kernel_rfl, by kernel_rfl⟩ : Go.AM.Good Try.prog 14 Try.f14) (Eq.mpr (by kernel_rfl : evBody Try.prog (CallW Try.prog kps ext) (kps 14) Try.f14 [] H Q = evBody Try.prog (CallW Try.prog kps ext) kp.mount_Top Try.f14 [] H Q) (L.mount_Top (CallW Try.prog kps ext) H Q h))
theorem fold_pinfoldref16_New (ext : CallT) (x0 : Value) (H : AH) (Q : Value → AH → Prop) (h : F.pinfoldref16_New (sy (CallW Try.prog kps ext)) x0 H Q) : CallW Try.prog kps ext 15 [x0] H Q :=
  CallW.fold (⟨Try.func15, by kernel_rfl, by kernel_rfl, by kernel_rfl⟩ : Go.AM.Good Try.prog 15 Try.f15) (Eq.mpr (by kernel_rfl : evBody Try.prog (CallW Try.prog kps ext) (kps 15) Try.f15 [x0] H Q = evBody Try.prog (CallW Try.prog kps ext) kp.pinfoldref16_New Try.f15 [x0] H Q) (L.pinfoldref16_New (CallW Try.prog kps ext) x0 H Q h))
theorem fold_pinfoldlaw17_Ref (ext : CallT) (x0 : Value) (H : AH) (Q : Value → AH → Prop) (h : F.pinfoldlaw17_Ref (sy (CallW Try.prog kps ext)) x0 H Q) : CallW Try.prog kps ext 17 [x0] H Q :=
  CallW.fold (⟨Try.func17, by kernel_rfl, by kernel_rfl, by kernel_rfl⟩ : Go.AM.Good Try.prog 17 Try.f17) (Eq.mpr (by kernel_rfl : evBody Try.prog (CallW Try.prog kps ext) (kps 17) Try.f17 [x0] H Q = evBody Try.prog (CallW Try.prog kps ext) kp.pinfoldlaw17_Ref Try.f17 [x0] H Q) (L.pinfoldlaw17_Ref (CallW Try.prog kps ext) x0 H Q h))
theorem fold_pinfoldref16_Tree_Bind (ext : CallT) (x0 x1 x2 : Value) (H : AH) (Q : Value → AH → Prop) (h : F.pinfoldref16_Tree_Bind (sy (CallW Try.prog kps ext)) x0 x1 x2 H Q) : CallW Try.prog kps ext 16 [x0, x1, x2] H Q :=
  CallW.fold (⟨Try.func16, by kernel_rfl, by kernel_rfl, by kernel_rfl⟩ : Go.AM.Good Try.prog 16 Try.f16) (Eq.mpr (by kernel_rfl : evBody Try.prog (CallW Try.prog kps ext) (kps 16) Try.f16 [x0, x1, x2] H Q = evBody Try.prog (CallW Try.prog kps ext) kp.pinfoldref16_Tree_Bind Try.f16 [x0, x1, x2] H Q) (L.pinfoldref16_Tree_Bind (CallW Try.prog kps ext) x0 x1 x2 H Q h))
theorem fold_pinfoldref16_Tree_Unmount (ext : CallT) (x0 x1 : Value) (H : AH) (Q : Value → AH → Prop) (h : F.pinfoldref16_Tree_Unmount (sy (CallW Try.prog kps ext)) x0 x1 H Q) : CallW Try.prog kps ext 18 [x0, x1] H Q :=
  CallW.fold (⟨Try.func18, by kernel_rfl, by kernel_rfl, by kernel_rfl⟩ : Go.AM.Good Try.prog 18 Try.f18) (Eq.mpr (by kernel_rfl : evBody Try.prog (CallW Try.prog kps ext) (kps 18) Try.f18 [x0, x1] H Q = evBody Try.prog (CallW Try.prog kps ext) kp.pinfoldref16_Tree_Unmount Try.f18 [x0, x1] H Q) (L.pinfoldref16_Tree_Unmount (CallW Try.prog kps ext) x0 x1 H Q h))
theorem fold_pinfoldref16_Tree_HoldMount (ext : CallT) (x0 x1 x2 : Value) (H : AH) (Q : Value → AH → Prop) (h : F.pinfoldref16_Tree_HoldMount (sy (CallW Try.prog kps ext)) x0 x1 x2 H Q) : CallW Try.prog kps ext 19 [x0, x1, x2] H Q :=
  CallW.fold (⟨Try.func19, by kernel_rfl, by kernel_rfl, by kernel_rfl⟩ : Go.AM.Good Try.prog 19 Try.f19) (Eq.mpr (by kernel_rfl : evBody Try.prog (CallW Try.prog kps ext) (kps 19) Try.f19 [x0, x1, x2] H Q = evBody Try.prog (CallW Try.prog kps ext) kp.pinfoldref16_Tree_HoldMount Try.f19 [x0, x1, x2] H Q) (L.pinfoldref16_Tree_HoldMount (CallW Try.prog kps ext) x0 x1 x2 H Q h))
theorem fold_mount_Table_Get (ext : CallT) (x0 x1 : Value) (H : AH) (Q : Value → AH → Prop) (h : F.mount_Table_Get (sy (CallW Try.prog kps ext)) x0 x1 H Q) : CallW Try.prog kps ext 20 [x0, x1] H Q :=
  CallW.fold (⟨Try.func20, by kernel_rfl, by kernel_rfl, by kernel_rfl⟩ : Go.AM.Good Try.prog 20 Try.f20) (Eq.mpr (by kernel_rfl : evBody Try.prog (CallW Try.prog kps ext) (kps 20) Try.f20 [x0, x1] H Q = evBody Try.prog (CallW Try.prog kps ext) kp.mount_Table_Get Try.f20 [x0, x1] H Q) (L.mount_Table_Get (CallW Try.prog kps ext) x0 x1 H Q h))
theorem fold_pinfoldref16_Tree_Down (ext : CallT) (x0 x1 : Value) (H : AH) (Q : Value → AH → Prop) (h : F.pinfoldref16_Tree_Down (sy (CallW Try.prog kps ext)) x0 x1 H Q) : CallW Try.prog kps ext 21 [x0, x1] H Q :=
  CallW.fold (⟨Try.func21, by kernel_rfl, by kernel_rfl, by kernel_rfl⟩ : Go.AM.Good Try.prog 21 Try.f21) (Eq.mpr (by kernel_rfl : evBody Try.prog (CallW Try.prog kps ext) (kps 21) Try.f21 [x0, x1] H Q = evBody Try.prog (CallW Try.prog kps ext) kp.pinfoldref16_Tree_Down Try.f21 [x0, x1] H Q) (L.pinfoldref16_Tree_Down (CallW Try.prog kps ext) x0 x1 H Q h))
theorem fold_pinfoldref16_Tree_Seen (ext : CallT) (x0 x1 : Value) (H : AH) (Q : Value → AH → Prop) (h : F.pinfoldref16_Tree_Seen (sy (CallW Try.prog kps ext)) x0 x1 H Q) : CallW Try.prog kps ext 22 [x0, x1] H Q :=
  CallW.fold (⟨Try.func22, by kernel_rfl, by kernel_rfl, by kernel_rfl⟩ : Go.AM.Good Try.prog 22 Try.f22) (Eq.mpr (by kernel_rfl : evBody Try.prog (CallW Try.prog kps ext) (kps 22) Try.f22 [x0, x1] H Q = evBody Try.prog (CallW Try.prog kps ext) kp.pinfoldref16_Tree_Seen Try.f22 [x0, x1] H Q) (L.pinfoldref16_Tree_Seen (CallW Try.prog kps ext) x0 x1 H Q h))
theorem fold_mount_Table_Used (ext : CallT) (x0 x1 : Value) (H : AH) (Q : Value → AH → Prop) (h : F.mount_Table_Used (sy (CallW Try.prog kps ext)) x0 x1 H Q) : CallW Try.prog kps ext 23 [x0, x1] H Q :=
  CallW.fold (⟨Try.func23, by kernel_rfl, by kernel_rfl, by kernel_rfl⟩ : Go.AM.Good Try.prog 23 Try.f23) (Eq.mpr (by kernel_rfl : evBody Try.prog (CallW Try.prog kps ext) (kps 23) Try.f23 [x0, x1] H Q = evBody Try.prog (CallW Try.prog kps ext) kp.mount_Table_Used Try.f23 [x0, x1] H Q) (L.mount_Table_Used (CallW Try.prog kps ext) x0 x1 H Q h))
theorem fold_pinfoldref16_Tree_Used (ext : CallT) (x0 x1 : Value) (H : AH) (Q : Value → AH → Prop) (h : F.pinfoldref16_Tree_Used (sy (CallW Try.prog kps ext)) x0 x1 H Q) : CallW Try.prog kps ext 24 [x0, x1] H Q :=
  CallW.fold (⟨Try.func24, by kernel_rfl, by kernel_rfl, by kernel_rfl⟩ : Go.AM.Good Try.prog 24 Try.f24) (Eq.mpr (by kernel_rfl : evBody Try.prog (CallW Try.prog kps ext) (kps 24) Try.f24 [x0, x1] H Q = evBody Try.prog (CallW Try.prog kps ext) kp.pinfoldref16_Tree_Used Try.f24 [x0, x1] H Q) (L.pinfoldref16_Tree_Used (CallW Try.prog kps ext) x0 x1 H Q h))
theorem fold_mount_Table_Seen_1 (ext : CallT) (x0 x1 : Value) (H : AH) (Q : Value → AH → Prop) (h : F.mount_Table_Seen_1 (sy (CallW Try.prog kps ext)) x0 x1 H Q) : CallW Try.prog kps ext 26 [x0, x1] H Q :=
  CallW.fold (⟨Try.func26, by kernel_rfl, by kernel_rfl, by kernel_rfl⟩ : Go.AM.Good Try.prog 26 Try.f26) (Eq.mpr (by kernel_rfl : evBody Try.prog (CallW Try.prog kps ext) (kps 26) Try.f26 [x0, x1] H Q = evBody Try.prog (CallW Try.prog kps ext) kp.mount_Table_Seen_1 Try.f26 [x0, x1] H Q) (L.mount_Table_Seen_1 (CallW Try.prog kps ext) x0 x1 H Q h))
theorem fold_slices_IndexFunc_mount_Mount (ext : CallT) (x0 x1 : Value) (H : AH) (Q : Value → AH → Prop) (h : F.slices_IndexFunc_mount_Mount (sy (CallW Try.prog kps ext)) x0 x1 H Q) : CallW Try.prog kps ext 25 [x0, x1] H Q :=
  CallW.fold (⟨Try.func25, by kernel_rfl, by kernel_rfl, by kernel_rfl⟩ : Go.AM.Good Try.prog 25 Try.f25) (Eq.mpr (by kernel_rfl : evBody Try.prog (CallW Try.prog kps ext) (kps 25) Try.f25 [x0, x1] H Q = evBody Try.prog (CallW Try.prog kps ext) kp.slices_IndexFunc_mount_Mount Try.f25 [x0, x1] H Q) (L.slices_IndexFunc_mount_Mount (CallW Try.prog kps ext) x0 x1 H Q h))
theorem fold_mount_Table_find (ext : CallT) (x0 x1 : Value) (H : AH) (Q : Value → AH → Prop) (h : F.mount_Table_find (sy (CallW Try.prog kps ext)) x0 x1 H Q) : CallW Try.prog kps ext 27 [x0, x1] H Q :=
  CallW.fold (⟨Try.func27, by kernel_rfl, by kernel_rfl, by kernel_rfl⟩ : Go.AM.Good Try.prog 27 Try.f27) (Eq.mpr (by kernel_rfl : evBody Try.prog (CallW Try.prog kps ext) (kps 27) Try.f27 [x0, x1] H Q = evBody Try.prog (CallW Try.prog kps ext) kp.mount_Table_find Try.f27 [x0, x1] H Q) (L.mount_Table_find (CallW Try.prog kps ext) x0 x1 H Q h))
theorem fold_slices_Clone_mount_Mount (ext : CallT) (x0 : Value) (H : AH) (Q : Value → AH → Prop) (h : F.slices_Clone_mount_Mount (sy (CallW Try.prog kps ext)) x0 H Q) : CallW Try.prog kps ext 28 [x0] H Q :=
  CallW.fold (⟨Try.func28, by kernel_rfl, by kernel_rfl, by kernel_rfl⟩ : Go.AM.Good Try.prog 28 Try.f28) (Eq.mpr (by kernel_rfl : evBody Try.prog (CallW Try.prog kps ext) (kps 28) Try.f28 [x0] H Q = evBody Try.prog (CallW Try.prog kps ext) kp.slices_Clone_mount_Mount Try.f28 [x0] H Q) (L.slices_Clone_mount_Mount (CallW Try.prog kps ext) x0 H Q h))
theorem fold_mount_Table_Drop_1 (ext : CallT) (x0 x1 : Value) (H : AH) (Q : Value → AH → Prop) (h : F.mount_Table_Drop_1 (sy (CallW Try.prog kps ext)) x0 x1 H Q) : CallW Try.prog kps ext 30 [x0, x1] H Q :=
  CallW.fold (⟨Try.func30, by kernel_rfl, by kernel_rfl, by kernel_rfl⟩ : Go.AM.Good Try.prog 30 Try.f30) (Eq.mpr (by kernel_rfl : evBody Try.prog (CallW Try.prog kps ext) (kps 30) Try.f30 [x0, x1] H Q = evBody Try.prog (CallW Try.prog kps ext) kp.mount_Table_Drop_1 Try.f30 [x0, x1] H Q) (L.mount_Table_Drop_1 (CallW Try.prog kps ext) x0 x1 H Q h))
theorem fold_slices_ContainsFunc_mount_Mount (ext : CallT) (x0 x1 : Value) (H : AH) (Q : Value → AH → Prop) (h : F.slices_ContainsFunc_mount_Mount (sy (CallW Try.prog kps ext)) x0 x1 H Q) : CallW Try.prog kps ext 29 [x0, x1] H Q :=
  CallW.fold (⟨Try.func29, by kernel_rfl, by kernel_rfl, by kernel_rfl⟩ : Go.AM.Good Try.prog 29 Try.f29) (Eq.mpr (by kernel_rfl : evBody Try.prog (CallW Try.prog kps ext) (kps 29) Try.f29 [x0, x1] H Q = evBody Try.prog (CallW Try.prog kps ext) kp.slices_ContainsFunc_mount_Mount Try.f29 [x0, x1] H Q) (L.slices_ContainsFunc_mount_Mount (CallW Try.prog kps ext) x0 x1 H Q h))
theorem fold_slices_Delete_mount_Mount (ext : CallT) (x0 x1 x2 : Value) (H : AH) (Q : Value → AH → Prop) (h : F.slices_Delete_mount_Mount (sy (CallW Try.prog kps ext)) x0 x1 x2 H Q) : CallW Try.prog kps ext 31 [x0, x1, x2] H Q :=
  CallW.fold (⟨Try.func31, by kernel_rfl, by kernel_rfl, by kernel_rfl⟩ : Go.AM.Good Try.prog 31 Try.f31) (Eq.mpr (by kernel_rfl : evBody Try.prog (CallW Try.prog kps ext) (kps 31) Try.f31 [x0, x1, x2] H Q = evBody Try.prog (CallW Try.prog kps ext) kp.slices_Delete_mount_Mount Try.f31 [x0, x1, x2] H Q) (L.slices_Delete_mount_Mount (CallW Try.prog kps ext) x0 x1 x2 H Q h))
theorem fold_pinfoldref16_Tree_find (ext : CallT) (x0 x1 : Value) (H : AH) (Q : Value → AH → Prop) (h : F.pinfoldref16_Tree_find (sy (CallW Try.prog kps ext)) x0 x1 H Q) : CallW Try.prog kps ext 32 [x0, x1] H Q :=
  CallW.fold (⟨Try.func32, by kernel_rfl, by kernel_rfl, by kernel_rfl⟩ : Go.AM.Good Try.prog 32 Try.f32) (Eq.mpr (by kernel_rfl : evBody Try.prog (CallW Try.prog kps ext) (kps 32) Try.f32 [x0, x1] H Q = evBody Try.prog (CallW Try.prog kps ext) kp.pinfoldref16_Tree_find Try.f32 [x0, x1] H Q) (L.pinfoldref16_Tree_find (CallW Try.prog kps ext) x0 x1 H Q h))
theorem fold_mount_Table_Used_1 (ext : CallT) (x0 x1 : Value) (H : AH) (Q : Value → AH → Prop) (h : F.mount_Table_Used_1 (sy (CallW Try.prog kps ext)) x0 x1 H Q) : CallW Try.prog kps ext 33 [x0, x1] H Q :=
  CallW.fold (⟨Try.func33, by kernel_rfl, by kernel_rfl, by kernel_rfl⟩ : Go.AM.Good Try.prog 33 Try.f33) (Eq.mpr (by kernel_rfl : evBody Try.prog (CallW Try.prog kps ext) (kps 33) Try.f33 [x0, x1] H Q = evBody Try.prog (CallW Try.prog kps ext) kp.mount_Table_Used_1 Try.f33 [x0, x1] H Q) (L.mount_Table_Used_1 (CallW Try.prog kps ext) x0 x1 H Q h))
theorem fold_mount_Table_find_1 (ext : CallT) (x0 x1 : Value) (H : AH) (Q : Value → AH → Prop) (h : F.mount_Table_find_1 (sy (CallW Try.prog kps ext)) x0 x1 H Q) : CallW Try.prog kps ext 34 [x0, x1] H Q :=
  CallW.fold (⟨Try.func34, by kernel_rfl, by kernel_rfl, by kernel_rfl⟩ : Go.AM.Good Try.prog 34 Try.f34) (Eq.mpr (by kernel_rfl : evBody Try.prog (CallW Try.prog kps ext) (kps 34) Try.f34 [x0, x1] H Q = evBody Try.prog (CallW Try.prog kps ext) kp.mount_Table_find_1 Try.f34 [x0, x1] H Q) (L.mount_Table_find_1 (CallW Try.prog kps ext) x0 x1 H Q h))
theorem fold (ext : CallT) : Go.AM.Fold (sy (CallW Try.prog kps ext)) where
  mono := CallW.mono
  pinfoldlaw17_MountBack := fold_pinfoldlaw17_MountBack ext
  pinfoldlaw17_MountHeld := fold_pinfoldlaw17_MountHeld ext
  pinfoldlaw17_MountPlays := fold_pinfoldlaw17_MountPlays ext
  pinfoldlaw17_Awake := fold_pinfoldlaw17_Awake ext
  mount_New := fold_mount_New ext
  mount_Table_Seen := fold_mount_Table_Seen ext
  mount_Table_Bind := fold_mount_Table_Bind ext
  mount_Table_List := fold_mount_Table_List ext
  mount_Table_Down := fold_mount_Table_Down ext
  mount_Table_Hold := fold_mount_Table_Hold ext
  mount_Table_Drop := fold_mount_Table_Drop ext
  mount_Top := fold_mount_Top ext
  pinfoldref16_New := fold_pinfoldref16_New ext
  pinfoldlaw17_Ref := fold_pinfoldlaw17_Ref ext
  pinfoldref16_Tree_Bind := fold_pinfoldref16_Tree_Bind ext
  pinfoldref16_Tree_Unmount := fold_pinfoldref16_Tree_Unmount ext
  pinfoldref16_Tree_HoldMount := fold_pinfoldref16_Tree_HoldMount ext
  mount_Table_Get := fold_mount_Table_Get ext
  pinfoldref16_Tree_Down := fold_pinfoldref16_Tree_Down ext
  pinfoldref16_Tree_Seen := fold_pinfoldref16_Tree_Seen ext
  mount_Table_Used := fold_mount_Table_Used ext
  pinfoldref16_Tree_Used := fold_pinfoldref16_Tree_Used ext
  mount_Table_Seen_1 := fold_mount_Table_Seen_1 ext
  slices_IndexFunc_mount_Mount := fold_slices_IndexFunc_mount_Mount ext
  mount_Table_find := fold_mount_Table_find ext
  slices_Clone_mount_Mount := fold_slices_Clone_mount_Mount ext
  mount_Table_Drop_1 := fold_mount_Table_Drop_1 ext
  slices_ContainsFunc_mount_Mount := fold_slices_ContainsFunc_mount_Mount ext
  slices_Delete_mount_Mount := fold_slices_Delete_mount_Mount ext
  pinfoldref16_Tree_find := fold_pinfoldref16_Tree_find ext
  mount_Table_Used_1 := fold_mount_Table_Used_1 ext
  mount_Table_find_1 := fold_mount_Table_find_1 ext
end Go.Proofs.Ytgpaigieapdmoaa
