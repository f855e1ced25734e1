/- THE FUNCTIONS, HELD AGAINST THE PROGRAM: written by program (gen2.py). -/
import Derived.Test.YtjpdppohflailaaF
import Derived.Test.YtjpdppohflailaaProg
import Derived.KernelRfl
set_option linter.all false
set_option linter.unusedVariables false
set_option maxRecDepth 100000
set_option maxHeartbeats 4000000
namespace Go.Proofs.Ytjpdppohflailaa
open Go.AM
attribute [local irreducible] evD obls
def fidL : List Nat := [4, 18, 19, 20, 21, 3, 14, 15, 16, 17, 26, 31, 22, 59, 5, 23, 24, 25, 6, 27, 28, 29, 30, 7, 33, 32, 34, 35, 36, 37, 8, 38, 39, 40, 41, 60, 61, 62, 9, 42, 10, 43, 44, 45, 46, 47, 48, 50, 49, 51, 52, 53, 54, 11, 55, 12, 56, 57, 13, 58, 63, 64, 65, 66, 67, 68]
def tidL : List Nat := []
def sy (c : CallT) : Sy := { call := c, fid := fun n => fidL.getD n 0, tid := fun n => tidL.getD n 0 }
def kp.pinfoldlaw04_RecordOrder : Keep := { keep := fun n => [[0, 1], [0, 1], [], [0, 1], [], [0, 1], [0, 1, 5], [0, 1, 5, 6], [0, 1, 5, 6, 23, 24, 25], [0, 1, 5, 6, 23, 24, 25], [0, 1, 5, 6, 7, 8, 23, 24, 25], [], [0, 1, 5, 6, 7, 8, 23, 24, 25], [0, 1, 5, 6, 7, 23, 24, 25], [], [0, 1, 5, 6, 23, 24, 25], [0, 1, 5, 6], [0, 5, 6, 9], [], [0, 5, 6, 9]].getD n [], order := fun n => [[], [], [], [], [], [], [], [], [], [], [], [], [], [], [], [], [], [], [], [(0, 0), (1, 0), (2, 0), (3, 6), (5, 0), (6, 0), (7, 0), (8, 192), (11, 0), (4, 15), (9, 511), (10, 1023), (12, 4095), (13, 8191)]].getD n [] }
def pl.pinfoldlaw04_RecordOrder (c : CallT) (Q : Value → AH → Prop) : Plan := [
  (127, fun S T H => F.pinfoldlaw04_RecordOrder_j1 (sy c) Q (T 0) (T 1) (T 5) (T 6) H),
  (506, fun S T H => F.pinfoldlaw04_RecordOrder_l1 (sy c) Q (T 0) (T 1) (T 5) (T 6) (T 23) (T 24) (T 25) H (S 0))]
theorem L.pinfoldlaw04_RecordOrder (c : CallT) (x0 x1 : Value) (H : AH) (Q : Value → AH → Prop) (h : F.pinfoldlaw04_RecordOrder (sy c) x0 x1 H Q) : evBody Try.prog c kp.pinfoldlaw04_RecordOrder Try.f3 [x0, x1] H Q :=
  evBody_of (pl := pl.pinfoldlaw04_RecordOrder c Q) Try.f3 _ H Q (bodyOf Try.f3) (by kernel_rfl) (by kernel_rfl) (by kernel_rfl) h

def kp.pinfoldlaw03_InsnKnown : Keep := { keep := fun n => [[0, 1], [0, 1], [], [0, 1], [12, 13, 14], [12, 13, 14], [6, 12, 13, 14], [], [12, 13, 14], []].getD n [], order := fun n => [].getD n [] }
def pl.pinfoldlaw03_InsnKnown (c : CallT) (Q : Value → AH → Prop) : Plan := [
  (58, fun S T H => F.pinfoldlaw03_InsnKnown_l1 (sy c) Q (T 12) (T 13) (T 14) H (S 0))]
theorem L.pinfoldlaw03_InsnKnown (c : CallT) (x0 x1 : Value) (H : AH) (Q : Value → AH → Prop) (h : F.pinfoldlaw03_InsnKnown (sy c) x0 x1 H Q) : evBody Try.prog c kp.pinfoldlaw03_InsnKnown Try.f4 [x0, x1] H Q :=
  evBody_of (pl := pl.pinfoldlaw03_InsnKnown c Q) Try.f4 _ H Q (bodyOf Try.f4) (by kernel_rfl) (by kernel_rfl) (by kernel_rfl) h

def kp.pinfoldlaw04_RecordActions : Keep := { keep := fun n => [[0, 1, 2, 3], [0, 1, 2, 3], [], [0, 1, 2, 3], [2, 9], [2, 9, 10], [2, 9, 10, 28, 29, 30], [2, 9, 10, 28, 29, 30], [2, 9, 10, 12, 28, 29, 30], [2, 9, 10, 12, 13, 28, 29, 30], [2, 9, 10, 12, 13, 14, 28, 29, 30], [2, 9, 10, 12, 13, 28, 29, 30], [2, 9, 10, 12, 13, 14, 28, 29, 30], [], [2, 9, 10, 12, 28, 29, 30], [2, 9, 10, 12, 28, 29, 30, 54, 55, 56], [2, 9, 10, 12, 28, 29, 30, 54, 55, 56], [2, 9, 10, 12, 16, 28, 29, 30, 54, 55, 56], [], [2, 9, 10, 12, 28, 29, 30, 54, 55, 56], [2, 9, 10, 28, 29, 30], [2]].getD n [], order := fun n => [[], [], [], [], [], [], [], [], [], [], [], [], [(0, 0), (2, 0), (3, 0), (4, 12), (5, 28), (1, 1), (6, 63), (7, 127), (8, 255), (10, 255), (9, 511), (11, 2047), (12, 4095)]].getD n [] }
def pl.pinfoldlaw04_RecordActions (c : CallT) (Q : Value → AH → Prop) : Plan := [
  (1025662, fun S T H => F.pinfoldlaw04_RecordActions_l2 (sy c) Q (S 1) (T 2) (T 9) (T 10) (T 12) (T 28) (T 29) (T 30) (T 54) (T 55) (T 56) H (S 0)),
  (128207, fun S T H => F.pinfoldlaw04_RecordActions_j1 (sy c) Q (S 0) (T 2) (T 9) (T 10) (T 12) (T 13) (T 14) (T 28) (T 29) (T 30) H),
  (250, fun S T H => F.pinfoldlaw04_RecordActions_l1 (sy c) Q (T 2) (T 9) (T 10) (T 28) (T 29) (T 30) H (S 0))]
theorem L.pinfoldlaw04_RecordActions (c : CallT) (x0 x1 x2 x3 : Value) (H : AH) (Q : Value → AH → Prop) (h : F.pinfoldlaw04_RecordActions (sy c) x0 x1 x2 x3 H Q) : evBody Try.prog c kp.pinfoldlaw04_RecordActions Try.f5 [x0, x1, x2, x3] H Q :=
  evBody_of (pl := pl.pinfoldlaw04_RecordActions c Q) Try.f5 _ H Q (bodyOf Try.f5) (by kernel_rfl) (by kernel_rfl) (by kernel_rfl) h

def kp.pinfoldlaw03_InsnMakes : Keep := { keep := fun n => [[0, 1, 2, 3], [0, 1, 2, 3], [], [0, 1, 2, 3], [0, 1, 2, 3, 9]].getD n [], order := fun n => [].getD n [] }
theorem L.pinfoldlaw03_InsnMakes (c : CallT) (x0 x1 x2 x3 : Value) (H : AH) (Q : Value → AH → Prop) (h : F.pinfoldlaw03_InsnMakes (sy c) x0 x1 x2 x3 H Q) : evBody Try.prog c kp.pinfoldlaw03_InsnMakes Try.f6 [x0, x1, x2, x3] H Q :=
  evBody_of (pl := []) Try.f6 _ H Q (bodyOf Try.f6) (by kernel_rfl) (by kernel_rfl) (by kernel_rfl) h

def kp.pinfoldlaw03_InsnBytes : Keep := { keep := fun n => [[0, 1, 2], [0, 1, 2], [], [0, 1, 2], [], [0, 1, 2], [0, 1, 2, 7], [0, 1, 2, 7, 28, 29, 30], [0, 1, 2, 7, 28, 29, 30], [0, 1, 2, 7, 9, 28, 29, 30], [0, 1, 2, 7, 9, 10, 28, 29, 30], [], [0, 1, 2, 7, 10, 28, 29, 30], [0, 1, 2, 7, 28, 29, 30], [0, 1, 2, 7], [0, 1, 2, 7, 11], [0, 1, 2, 7, 11, 12, 13], [0, 1, 2, 7, 11, 12, 13, 14, 15], [], [2], [2, 17]].getD n [], order := fun n => [[], [], [], [], [], [], [], [], [], [], [(0, 0), (1, 1), (2, 0), (3, 4), (4, 12), (5, 28), (6, 63), (7, 127), (8, 255), (10, 255), (9, 511), (11, 2047), (12, 4095)], [], [], [], [], [], [], [(0, 0), (1, 1), (2, 0), (3, 4), (4, 15), (5, 31), (6, 63), (7, 127), (8, 255), (9, 511), (10, 1023), (11, 1023), (12, 4095), (13, 8191), (14, 16383), (15, 32767), (16, 65535), (17, 131071), (18, 65535), (19, 327679), (20, 851967), (21, 1900543), (22, 4194303), (23, 8388607), (24, 16777215), (25, 33554431), (26, 67108863), (27, 134217727), (28, 268435455), (31, 268435455), (32, 2415919103), (29, 536870911), (30, 1073741823), (33, 8589934591), (34, 17179869183), (35, 34359738367), (36, 68719476735), (37, 137438953471), (38, 274877906943), (39, 549755813887), (40, 1099511627775), (41, 2199023255551), (42, 4398046511103), (43, 8796093022207), (44, 17592186044415), (45, 35184372088831), (46, 70368744177663), (47, 140737488355327), (48, 281474976710655)]].getD n [] }
def pl.pinfoldlaw03_InsnBytes (c : CallT) (Q : Value → AH → Prop) : Plan := [
  (250, fun S T H => F.pinfoldlaw03_InsnBytes_l1 (sy c) Q (T 0) (T 1) (T 2) (T 7) (T 28) (T 29) (T 30) H (S 0))]
theorem L.pinfoldlaw03_InsnBytes (c : CallT) (x0 x1 x2 : Value) (H : AH) (Q : Value → AH → Prop) (h : F.pinfoldlaw03_InsnBytes (sy c) x0 x1 x2 H Q) : evBody Try.prog c kp.pinfoldlaw03_InsnBytes Try.f7 [x0, x1, x2] H Q :=
  evBody_of (pl := pl.pinfoldlaw03_InsnBytes c Q) Try.f7 _ H Q (bodyOf Try.f7) (by kernel_rfl) (by kernel_rfl) (by kernel_rfl) h

def kp.pinfoldlaw04_RecordBytes : Keep := { keep := fun n => [[0, 1, 2], [2, 3, 4], [], [2, 3, 4], [2, 3, 4, 7], [2, 3, 4, 7, 8], [], [2, 3, 7, 8], [2, 3, 7, 8, 33], [2, 3, 7, 8, 33], [2, 3, 7, 8, 9, 33], [2, 3, 7, 8, 9, 10, 33], [2, 3, 7, 8, 9, 10, 11, 12, 33], [], [2, 3, 7, 8, 33], [2, 3], [2, 13, 14], [13, 14, 15]].getD n [], order := fun n => [[], [], [], [], [], [(0, 0), (2, 0), (1, 1), (3, 7), (4, 15), (5, 31), (8, 31), (6, 63), (7, 127), (9, 511), (10, 1023)], [], [], [], [], [(0, 0), (1, 1), (2, 3), (3, 7), (4, 15), (5, 0), (6, 32), (7, 96), (8, 224), (9, 480), (10, 992), (11, 2016), (12, 4095), (13, 0), (14, 8192), (15, 24576), (16, 57344), (17, 122880), (18, 253952), (19, 516096), (20, 1048575), (21, 0), (22, 2097152), (23, 6291456), (24, 14680064), (25, 31457280), (26, 65011712), (27, 132120576), (28, 268435455), (29, 536870911)]].getD n [] }
def pl.pinfoldlaw04_RecordBytes (c : CallT) (Q : Value → AH → Prop) : Plan := [
  (506, fun S T H => F.pinfoldlaw04_RecordBytes_l1 (sy c) Q (T 2) (T 3) (T 7) (T 8) (T 33) H (S 0))]
theorem L.pinfoldlaw04_RecordBytes (c : CallT) (x0 x1 x2 : Value) (H : AH) (Q : Value → AH → Prop) (h : F.pinfoldlaw04_RecordBytes (sy c) x0 x1 x2 H Q) : evBody Try.prog c kp.pinfoldlaw04_RecordBytes Try.f8 [x0, x1, x2] H Q :=
  evBody_of (pl := pl.pinfoldlaw04_RecordBytes c Q) Try.f8 _ H Q (bodyOf Try.f8) (by kernel_rfl) (by kernel_rfl) (by kernel_rfl) h

def kp.pinfoldlaw04_RecordHalves : Keep := { keep := fun n => [[0, 1], [1, 2], [], [1, 2], [1, 2, 5], [1, 2, 5, 6], [2, 5, 6, 8]].getD n [], order := fun n => [[], [], [], [], [(0, 0), (1, 0), (2, 2), (3, 7), (4, 15), (5, 31), (6, 31), (7, 63), (8, 255)], [(0, 0), (1, 0), (2, 2), (3, 7), (4, 15), (5, 31), (6, 31), (7, 63), (8, 255)]].getD n [] }
theorem L.pinfoldlaw04_RecordHalves (c : CallT) (x0 x1 : Value) (H : AH) (Q : Value → AH → Prop) (h : F.pinfoldlaw04_RecordHalves (sy c) x0 x1 H Q) : evBody Try.prog c kp.pinfoldlaw04_RecordHalves Try.f9 [x0, x1] H Q :=
  evBody_of (pl := []) Try.f9 _ H Q (bodyOf Try.f9) (by kernel_rfl) (by kernel_rfl) (by kernel_rfl) h

def kp.pinfoldlaw11_MeanSays : Keep := { keep := fun n => [[0, 1, 2, 3], [2, 3, 4, 5], [], [2, 3, 4, 5], [], [2, 3, 4, 5], [2, 3, 31, 32, 33], [2, 3, 31, 32, 33], [2, 3, 10, 31, 32, 33], [2, 3, 10, 11, 31, 32, 33], [2, 3, 10, 11, 31, 32, 33, 42, 43, 44], [2, 3, 10, 11, 31, 32, 33, 42, 43, 44], [2, 3, 10, 11, 13, 31, 32, 33, 42, 43, 44], [2, 3, 10, 11, 13, 31, 32, 33, 42, 43, 44, 49, 50, 51], [2, 3, 10, 11, 13, 31, 32, 33, 42, 43, 44, 49, 50, 51], [2, 3, 10, 11, 13, 14, 15, 31, 32, 33, 42, 43, 44, 49, 50, 51], [], [2, 3, 10, 11, 13, 14, 15, 31, 32, 33, 42, 43, 44, 49, 50, 51], [2, 3, 10, 11, 13, 14, 31, 32, 33, 42, 43, 44, 49, 50, 51, 69, 70, 71], [2, 3, 10, 11, 13, 14, 31, 32, 33, 42, 43, 44, 49, 50, 51, 69, 70, 71], [2, 3, 10, 11, 13, 14, 16, 17, 31, 32, 33, 42, 43, 44, 49, 50, 51, 69, 70, 71], [], [2, 3, 10, 11, 13, 14, 31, 32, 33, 42, 43, 44, 49, 50, 51, 69, 70, 71], [2, 3, 10, 11, 13, 31, 32, 33, 42, 43, 44, 49, 50, 51], [2, 3, 10, 11, 13, 31, 32, 33, 42, 43, 44], [], [2, 3, 10, 11, 31, 32, 33, 42, 43, 44], [2, 3, 31, 32, 33], []].getD n [], order := fun n => [[], [], [], [], [], [(0, 0), (1, 0), (5, 0), (2, 2), (3, 7), (4, 15)], [], [], [], [], [], [], [], [], [], [(0, 0), (1, 0), (3, 0), (4, 8), (5, 0), (6, 56), (7, 120), (8, 0), (2, 3), (9, 263), (10, 1023), (11, 2047)], [], [], [], [], [(0, 0), (1, 0), (3, 0), (4, 8), (5, 0), (6, 56), (7, 120), (8, 248), (9, 0), (10, 1016), (11, 2040), (12, 0), (2, 3), (13, 4103), (14, 16383), (15, 32767)], [], [], [], [(0, 0), (1, 0), (3, 0), (4, 0), (2, 3), (5, 23), (6, 63), (7, 127)]].getD n [] }
def pl.pinfoldlaw11_MeanSays (c : CallT) (Q : Value → AH → Prop) : Plan := [
  (16428668110, fun S T H => F.pinfoldlaw11_MeanSays_l4 (sy c) Q (S 3) (S 2) (S 1) (T 2) (T 3) (T 10) (T 11) (T 13) (T 14) (T 31) (T 32) (T 33) (T 42) (T 43) (T 44) (T 49) (T 50) (T 51) (T 69) (T 70) (T 71) H (S 0)),
  (32087242, fun S T H => F.pinfoldlaw11_MeanSays_l3 (sy c) Q (S 2) (S 1) (T 2) (T 3) (T 10) (T 11) (T 13) (T 31) (T 32) (T 33) (T 42) (T 43) (T 44) (T 49) (T 50) (T 51) H (S 0)),
  (62670, fun S T H => F.pinfoldlaw11_MeanSays_l2 (sy c) Q (S 1) (T 2) (T 3) (T 10) (T 11) (T 31) (T 32) (T 33) (T 42) (T 43) (T 44) H (S 0)),
  (122, fun S T H => F.pinfoldlaw11_MeanSays_l1 (sy c) Q (T 2) (T 3) (T 31) (T 32) (T 33) H (S 0))]
theorem L.pinfoldlaw11_MeanSays (c : CallT) (x0 x1 x2 x3 : Value) (H : AH) (Q : Value → AH → Prop) (h : F.pinfoldlaw11_MeanSays (sy c) x0 x1 x2 x3 H Q) : evBody Try.prog c kp.pinfoldlaw11_MeanSays Try.f10 [x0, x1, x2, x3] H Q :=
  evBody_of (pl := pl.pinfoldlaw11_MeanSays c Q) Try.f10 _ H Q (bodyOf Try.f10) (by kernel_rfl) (by kernel_rfl) (by kernel_rfl) h

def kp.pinfoldlaw11_MeanNarrows : Keep := { keep := fun n => [[0, 1, 2, 3], [2, 3, 4, 5], [], [2, 3, 4, 5], [], [2, 3, 4, 5], [2, 3, 5, 9], [5, 9, 27, 28, 29], [5, 9, 27, 28, 29], [5, 9, 11, 27, 28, 29], [5, 9, 11, 12, 13, 27, 28, 29], [5, 9, 11, 12, 13, 27, 28, 29], [5, 9, 11, 12, 13, 27, 28, 29, 40, 41, 42], [5, 9, 11, 12, 13, 27, 28, 29, 40, 41, 42], [5, 9, 11, 12, 13, 14, 15, 27, 28, 29, 40, 41, 42], [5, 9, 11, 12, 13, 14, 15, 16, 27, 28, 29, 40, 41, 42], [5, 9, 11, 12, 13, 14, 15, 16, 27, 28, 29, 40, 41, 42], [], [5, 9, 11, 12, 13, 14, 15, 27, 28, 29, 40, 41, 42], [5, 9, 11, 12, 13, 14, 15, 27, 28, 29, 40, 41, 42], [5, 9, 11, 12, 13, 14, 27, 28, 29, 40, 41, 42], [5, 9, 11, 12, 13, 27, 28, 29, 40, 41, 42], [5, 9, 11, 12, 13, 27, 28, 29], [], [5, 9, 27, 28, 29], []].getD n [], order := fun n => [[], [], [], [], [], [], [], [], [], [], [(0, 0), (1, 1), (2, 0), (3, 4), (4, 3), (5, 19), (6, 63), (7, 127)], [], [], [], [], [(0, 0), (1, 0), (2, 2), (4, 0), (3, 7), (5, 31), (6, 63), (7, 127), (8, 255), (9, 511)], [], [], [], [], [(0, 0), (1, 1), (2, 0), (3, 4), (4, 0), (5, 16), (6, 48), (7, 112), (8, 0), (9, 496), (10, 1020), (11, 2044), (12, 4092), (13, 8191), (14, 16383), (15, 32767)], [], [(0, 0), (1, 0), (3, 0), (4, 0), (2, 3), (5, 31), (6, 63), (7, 127), (8, 255), (9, 255), (12, 255), (13, 255), (10, 1023), (11, 2047), (14, 16383), (15, 32767), (16, 65535), (17, 131071)]].getD n [] }
def pl.pinfoldlaw11_MeanNarrows (c : CallT) (Q : Value → AH → Prop) : Plan := [
  (525134239, fun S T H => F.pinfoldlaw11_MeanNarrows_j1 (sy c) Q (S 1) (S 0) (T 5) (T 9) (T 11) (T 12) (T 13) (T 14) (T 27) (T 28) (T 29) (T 40) (T 41) (T 42) H),
  (512826, fun S T H => F.pinfoldlaw11_MeanNarrows_l2 (sy c) Q (S 1) (T 5) (T 9) (T 11) (T 12) (T 13) (T 27) (T 28) (T 29) (T 40) (T 41) (T 42) H (S 0)),
  (250, fun S T H => F.pinfoldlaw11_MeanNarrows_l1 (sy c) Q (T 5) (T 9) (T 27) (T 28) (T 29) H (S 0))]
theorem L.pinfoldlaw11_MeanNarrows (c : CallT) (x0 x1 x2 x3 : Value) (H : AH) (Q : Value → AH → Prop) (h : F.pinfoldlaw11_MeanNarrows (sy c) x0 x1 x2 x3 H Q) : evBody Try.prog c kp.pinfoldlaw11_MeanNarrows Try.f11 [x0, x1, x2, x3] H Q :=
  evBody_of (pl := pl.pinfoldlaw11_MeanNarrows c Q) Try.f11 _ H Q (bodyOf Try.f11) (by kernel_rfl) (by kernel_rfl) (by kernel_rfl) h

def kp.pinfoldlaw11_MeanAll : Keep := { keep := fun n => [[0, 1, 2, 3], [0, 3, 5, 6], [], [0, 3, 5, 6], [], [0, 3, 5, 6], [0, 3, 5, 6, 9], [0, 3, 5, 6, 9, 10], [3, 5, 6, 9, 10, 23, 24, 25], [3, 5, 6, 9, 10, 23, 24, 25], [3, 5, 6, 9, 10, 12, 23, 24, 25], [3, 5, 6, 9, 10, 12, 23, 24, 25], [3, 5, 6, 9, 10, 23, 24, 25], [3, 5, 6, 9, 10], [3, 6, 9, 10, 13], [6, 9, 10, 13, 50, 51, 52], [6, 9, 10, 13, 50, 51, 52], [6, 9, 10, 13, 15, 50, 51, 52], [6, 9, 10, 13, 15, 16, 17, 50, 51, 52], [], [6, 9, 10, 13, 50, 51, 52], [6]].getD n [], order := fun n => [[], [], [], [], [], [], [], [], [], [], [], [], [], [], [], [], [], [(0, 0), (1, 0), (3, 0), (4, 0), (6, 0), (7, 64), (9, 0), (2, 3), (5, 31), (8, 255), (10, 1023), (11, 2047), (12, 4095)]].getD n [] }
def pl.pinfoldlaw11_MeanAll (c : CallT) (Q : Value → AH → Prop) : Plan := [
  (2042, fun S T H => F.pinfoldlaw11_MeanAll_l2 (sy c) Q (T 6) (T 9) (T 10) (T 13) (T 50) (T 51) (T 52) H (S 0)),
  (506, fun S T H => F.pinfoldlaw11_MeanAll_l1 (sy c) Q (T 3) (T 5) (T 6) (T 9) (T 10) (T 23) (T 24) (T 25) H (S 0))]
theorem L.pinfoldlaw11_MeanAll (c : CallT) (x0 x1 x2 x3 : Value) (H : AH) (Q : Value → AH → Prop) (h : F.pinfoldlaw11_MeanAll (sy c) x0 x1 x2 x3 H Q) : evBody Try.prog c kp.pinfoldlaw11_MeanAll Try.f12 [x0, x1, x2, x3] H Q :=
  evBody_of (pl := pl.pinfoldlaw11_MeanAll c Q) Try.f12 _ H Q (bodyOf Try.f12) (by kernel_rfl) (by kernel_rfl) (by kernel_rfl) h

def kp.pinfoldlaw11_MeanSpeaks : Keep := { keep := fun n => [[0, 1, 2, 3], [2, 3, 4, 5], [], [2, 3, 4, 5], [], [2, 3, 4, 5], [2, 3, 33, 34, 35], [2, 3, 33, 34, 35], [2, 3, 10, 33, 34, 35], [2, 3, 10, 33, 34, 35, 42, 43, 44], [2, 3, 10, 33, 34, 35, 42, 43, 44], [2, 3, 10, 12, 33, 34, 35, 42, 43, 44], [2, 3, 10, 12, 13, 14, 33, 34, 35, 42, 43, 44], [2, 3, 10, 12, 13, 14, 15, 16, 33, 34, 35, 42, 43, 44], [2, 3, 10, 12, 13, 14, 15, 16, 33, 34, 35, 42, 43, 44, 55, 56, 57], [2, 3, 10, 12, 13, 14, 15, 16, 33, 34, 35, 42, 43, 44, 55, 56, 57], [2, 3, 10, 12, 13, 14, 15, 16, 17, 18, 33, 34, 35, 42, 43, 44, 55, 56, 57], [2, 3, 10, 12, 13, 14, 15, 16, 17, 18, 33, 34, 35, 42, 43, 44, 55, 56, 57], [], [2, 3, 10, 12, 13, 14, 15, 16, 17, 18, 33, 34, 35, 42, 43, 44, 55, 56, 57], [2, 3, 10, 12, 13, 14, 15, 16, 17, 18, 33, 34, 35, 42, 43, 44, 55, 56, 57], [2, 3, 10, 12, 13, 14, 15, 17, 33, 34, 35, 42, 43, 44, 55, 56, 57], [2, 3, 10, 12, 13, 14, 15, 16, 33, 34, 35, 42, 43, 44, 55, 56, 57], [2, 3, 10, 12, 13, 14, 15, 16, 33, 34, 35, 42, 43, 44], [], [2, 3, 10, 12, 16, 33, 34, 35, 42, 43, 44], [2, 3, 10, 12, 16, 19, 33, 34, 35, 42, 43, 44], [2, 3, 10, 12, 16, 33, 34, 35, 42, 43, 44], [2, 3, 10, 12, 19, 33, 34, 35, 42, 43, 44], [], [2, 3, 10, 33, 34, 35, 42, 43, 44], [2, 3, 33, 34, 35], []].getD n [], order := fun n => [[], [], [], [], [], [(0, 0), (1, 0), (5, 0), (2, 2), (3, 7), (4, 15)], [], [], [], [], [], [], [], [], [], [], [], [], [], [], [(0, 0), (1, 1), (2, 3), (3, 7), (4, 15), (6, 7), (7, 71), (8, 7), (9, 455), (10, 967), (11, 1991), (5, 31), (12, 4095), (13, 8191), (14, 16383)]].getD n [] }
def pl.pinfoldlaw11_MeanSpeaks (c : CallT) (Q : Value → AH → Prop) : Plan := [
  (128345727, fun S T H => F.pinfoldlaw11_MeanSpeaks_j1 (sy c) Q (S 1) (S 0) (T 2) (T 3) (T 10) (T 12) (T 19) (T 33) (T 34) (T 35) (T 42) (T 43) (T 44) H),
  (64172858, fun S T H => F.pinfoldlaw11_MeanSpeaks_l3 (sy c) Q (S 2) (S 1) (T 2) (T 3) (T 10) (T 12) (T 13) (T 14) (T 15) (T 16) (T 33) (T 34) (T 35) (T 42) (T 43) (T 44) (T 55) (T 56) (T 57) H (S 0)),
  (31334, fun S T H => F.pinfoldlaw11_MeanSpeaks_l2 (sy c) Q (S 1) (T 2) (T 3) (T 10) (T 33) (T 34) (T 35) (T 42) (T 43) (T 44) H (S 0)),
  (122, fun S T H => F.pinfoldlaw11_MeanSpeaks_l1 (sy c) Q (T 2) (T 3) (T 33) (T 34) (T 35) H (S 0))]
theorem L.pinfoldlaw11_MeanSpeaks (c : CallT) (x0 x1 x2 x3 : Value) (H : AH) (Q : Value → AH → Prop) (h : F.pinfoldlaw11_MeanSpeaks (sy c) x0 x1 x2 x3 H Q) : evBody Try.prog c kp.pinfoldlaw11_MeanSpeaks Try.f13 [x0, x1, x2, x3] H Q :=
  evBody_of (pl := pl.pinfoldlaw11_MeanSpeaks c Q) Try.f13 _ H Q (bodyOf Try.f13) (by kernel_rfl) (by kernel_rfl) (by kernel_rfl) h

def kp.pinfoldlaw04_Awake : Keep := { keep := fun n => [[], []].getD n [], order := fun n => [].getD n [] }
theorem L.pinfoldlaw04_Awake (c : CallT) (H : AH) (Q : Value → AH → Prop) (h : F.pinfoldlaw04_Awake (sy c) H Q) : evBody Try.prog c kp.pinfoldlaw04_Awake Try.f14 [] H Q :=
  evBody_of (pl := []) Try.f14 _ H Q (bodyOf Try.f14) (by kernel_rfl) (by kernel_rfl) (by kernel_rfl) h

def kp.pinfoldlaw04_RecordOrder_1 : Keep := { keep := fun n => [[0], [0], [0, 3], [3, 10, 11, 12], [3, 10, 11, 12], [3, 5, 10, 11, 12], [3, 10, 11, 12], [3]].getD n [], order := fun n => [].getD n [] }
def pl.pinfoldlaw04_RecordOrder_1 (c : CallT) (Q : Value → AH → Prop) : Plan := [
  (58, fun S T H => F.pinfoldlaw04_RecordOrder_1_l1 (sy c) Q (T 3) (T 10) (T 11) (T 12) H (S 0))]
theorem L.pinfoldlaw04_RecordOrder_1 (c : CallT) (x0 : Value) (H : AH) (Q : Value → AH → Prop) (h : F.pinfoldlaw04_RecordOrder_1 (sy c) x0 H Q) : evBody Try.prog c kp.pinfoldlaw04_RecordOrder_1 Try.f15 [x0] H Q :=
  evBody_of (pl := pl.pinfoldlaw04_RecordOrder_1 c Q) Try.f15 _ H Q (bodyOf Try.f15) (by kernel_rfl) (by kernel_rfl) (by kernel_rfl) h

def kp.record_Stronger : Keep := { keep := fun n => [[0, 1], [0, 1], [1], [0]].getD n [], order := fun n => [].getD n [] }
theorem L.record_Stronger (c : CallT) (x0 x1 : Value) (H : AH) (Q : Value → AH → Prop) (h : F.record_Stronger (sy c) x0 x1 H Q) : evBody Try.prog c kp.record_Stronger Try.f16 [x0, x1] H Q :=
  evBody_of (pl := []) Try.f16 _ H Q (bodyOf Try.f16) (by kernel_rfl) (by kernel_rfl) (by kernel_rfl) h

def kp.record_Action_Kind : Keep := { keep := fun n => [[0], [0], [3], [3, 6], [3, 6], [3, 6], [3], []].getD n [], order := fun n => [].getD n [] }
def pl.record_Action_Kind (c : CallT) (Q : Value → AH → Prop) : Plan := [
  (109, fun S T H => F.record_Action_Kind_j1 (sy c) Q (T 3) (T 7) H)]
theorem L.record_Action_Kind (c : CallT) (x0 : Value) (H : AH) (Q : Value → AH → Prop) (h : F.record_Action_Kind (sy c) x0 H Q) : evBody Try.prog c kp.record_Action_Kind Try.f17 [x0] H Q :=
  evBody_of (pl := pl.record_Action_Kind c Q) Try.f17 _ H Q (bodyOf Try.f17) (by kernel_rfl) (by kernel_rfl) (by kernel_rfl) h

def kp.pinfoldlaw03_Awake : Keep := { keep := fun n => [[], [], [1]].getD n [], order := fun n => [].getD n [] }
theorem L.pinfoldlaw03_Awake (c : CallT) (H : AH) (Q : Value → AH → Prop) (h : F.pinfoldlaw03_Awake (sy c) H Q) : evBody Try.prog c kp.pinfoldlaw03_Awake Try.f18 [] H Q :=
  evBody_of (pl := []) Try.f18 _ H Q (bodyOf Try.f18) (by kernel_rfl) (by kernel_rfl) (by kernel_rfl) h

def kp.insn_Known : Keep := { keep := fun n => [[0], [0], [0, 4], [0, 4], [0, 4], [0, 4], [0, 4], [0, 4], [0, 4], [0, 4], [0, 4], [0, 4], [0, 4], [0, 4], [0, 4], [0, 4], [0, 4], [], [0], [0, 3], [0, 3, 26], [0, 3, 26], [0, 3, 26], [0, 3, 26], [0, 3, 26], [0, 3, 26], [0, 3, 26], [0, 3, 26], [0, 3, 26], [0, 3], [], [0, 3], [0, 43], [0, 43], [0, 43], [0, 43], [0], []].getD n [], order := fun n => [].getD n [] }
def pl.insn_Known (c : CallT) (Q : Value → AH → Prop) : Plan := [
  (501, fun S T H => F.insn_Known_j3 (sy c) Q (T 0) (T 44) H),
  (31, fun S T H => F.insn_Known_j2 (sy c) Q (T 0) (T 3) H),
  (245, fun S T H => F.insn_Known_j4 (sy c) Q (T 0) (T 3) (T 27) H),
  (53, fun S T H => F.insn_Known_j1 (sy c) Q (T 0) (T 5) H)]
theorem L.insn_Known (c : CallT) (x0 : Value) (H : AH) (Q : Value → AH → Prop) (h : F.insn_Known (sy c) x0 H Q) : evBody Try.prog c kp.insn_Known Try.f19 [x0] H Q :=
  evBody_of (pl := pl.insn_Known c Q) Try.f19 _ H Q (bodyOf Try.f19) (by kernel_rfl) (by kernel_rfl) (by kernel_rfl) h

def kp.pinfoldref03_Known : Keep := { keep := fun n => [[0], [0], [0, 3], [0, 3, 4], [0, 3, 4], [0, 3, 4], [], [0], [0, 5], [0, 5, 6], [0, 5, 6], [0, 5, 6], [], [0], [0, 7], [0, 7], [0, 7], [], []].getD n [], order := fun n => [].getD n [] }
def pl.pinfoldref03_Known (c : CallT) (Q : Value → AH → Prop) : Plan := [
  (506, fun S T H => F.pinfoldref03_Known_l3 (sy c) Q (T 0) (T 7) H (S 0)),
  (250, fun S T H => F.pinfoldref03_Known_l2 (sy c) Q (T 0) (T 5) (T 6) H (S 0)),
  (58, fun S T H => F.pinfoldref03_Known_l1 (sy c) Q (T 0) (T 3) (T 4) H (S 0))]
theorem L.pinfoldref03_Known (c : CallT) (x0 : Value) (H : AH) (Q : Value → AH → Prop) (h : F.pinfoldref03_Known (sy c) x0 H Q) : evBody Try.prog c kp.pinfoldref03_Known Try.f20 [x0] H Q :=
  evBody_of (pl := pl.pinfoldref03_Known c Q) Try.f20 _ H Q (bodyOf Try.f20) (by kernel_rfl) (by kernel_rfl) (by kernel_rfl) h

def kp.insn_Class : Keep := { keep := fun n => [[0], [0]].getD n [], order := fun n => [].getD n [] }
theorem L.insn_Class (c : CallT) (x0 : Value) (H : AH) (Q : Value → AH → Prop) (h : F.insn_Class (sy c) x0 H Q) : evBody Try.prog c kp.insn_Class Try.f21 [x0] H Q :=
  evBody_of (pl := []) Try.f21 _ H Q (bodyOf Try.f21) (by kernel_rfl) (by kernel_rfl) (by kernel_rfl) h

def kp.record_Fail : Keep := { keep := fun n => [[0], [0]].getD n [], order := fun n => [].getD n [] }
theorem L.record_Fail (c : CallT) (x0 : Value) (H : AH) (Q : Value → AH → Prop) (h : F.record_Fail (sy c) x0 H Q) : evBody Try.prog c kp.record_Fail Try.f22 [x0] H Q :=
  evBody_of (pl := []) Try.f22 _ H Q (bodyOf Try.f22) (by kernel_rfl) (by kernel_rfl) (by kernel_rfl) h

def kp.pinfoldref03_Strength : Keep := { keep := fun n => [[0], [0], [4], [], [4], [], [4], [], []].getD n [], order := fun n => [].getD n [] }
theorem L.pinfoldref03_Strength (c : CallT) (x0 : Value) (H : AH) (Q : Value → AH → Prop) (h : F.pinfoldref03_Strength (sy c) x0 H Q) : evBody Try.prog c kp.pinfoldref03_Strength Try.f23 [x0] H Q :=
  evBody_of (pl := []) Try.f23 _ H Q (bodyOf Try.f23) (by kernel_rfl) (by kernel_rfl) (by kernel_rfl) h

def kp.record_Action_Number : Keep := { keep := fun n => [[0], [0], [], [0]].getD n [], order := fun n => [].getD n [] }
theorem L.record_Action_Number (c : CallT) (x0 : Value) (H : AH) (Q : Value → AH → Prop) (h : F.record_Action_Number (sy c) x0 H Q) : evBody Try.prog c kp.record_Action_Number Try.f24 [x0] H Q :=
  evBody_of (pl := []) Try.f24 _ H Q (bodyOf Try.f24) (by kernel_rfl) (by kernel_rfl) (by kernel_rfl) h

def kp.pinfoldref03_Stronger : Keep := { keep := fun n => [[0, 1], [0, 1], [1], [0]].getD n [], order := fun n => [].getD n [] }
theorem L.pinfoldref03_Stronger (c : CallT) (x0 x1 : Value) (H : AH) (Q : Value → AH → Prop) (h : F.pinfoldref03_Stronger (sy c) x0 x1 H Q) : evBody Try.prog c kp.pinfoldref03_Stronger Try.f25 [x0, x1] H Q :=
  evBody_of (pl := []) Try.f25 _ H Q (bodyOf Try.f25) (by kernel_rfl) (by kernel_rfl) (by kernel_rfl) h

def kp.insn_Load : Keep := { keep := fun n => [[0], [0, 2]].getD n [], order := fun n => [].getD n [] }
theorem L.insn_Load (c : CallT) (x0 : Value) (H : AH) (Q : Value → AH → Prop) (h : F.insn_Load (sy c) x0 H Q) : evBody Try.prog c kp.insn_Load Try.f26 [x0] H Q :=
  evBody_of (pl := []) Try.f26 _ H Q (bodyOf Try.f26) (by kernel_rfl) (by kernel_rfl) (by kernel_rfl) h

def kp.insn_Return : Keep := { keep := fun n => [[0], [0, 2]].getD n [], order := fun n => [].getD n [] }
theorem L.insn_Return (c : CallT) (x0 : Value) (H : AH) (Q : Value → AH → Prop) (h : F.insn_Return (sy c) x0 H Q) : evBody Try.prog c kp.insn_Return Try.f27 [x0] H Q :=
  evBody_of (pl := []) Try.f27 _ H Q (bodyOf Try.f27) (by kernel_rfl) (by kernel_rfl) (by kernel_rfl) h

def kp.insn_Skip : Keep := { keep := fun n => [[0], [0, 2]].getD n [], order := fun n => [].getD n [] }
theorem L.insn_Skip (c : CallT) (x0 : Value) (H : AH) (Q : Value → AH → Prop) (h : F.insn_Skip (sy c) x0 H Q) : evBody Try.prog c kp.insn_Skip Try.f28 [x0] H Q :=
  evBody_of (pl := []) Try.f28 _ H Q (bodyOf Try.f28) (by kernel_rfl) (by kernel_rfl) (by kernel_rfl) h

def kp.insn_Mask : Keep := { keep := fun n => [[0], [0, 2]].getD n [], order := fun n => [].getD n [] }
theorem L.insn_Mask (c : CallT) (x0 : Value) (H : AH) (Q : Value → AH → Prop) (h : F.insn_Mask (sy c) x0 H Q) : evBody Try.prog c kp.insn_Mask Try.f29 [x0] H Q :=
  evBody_of (pl := []) Try.f29 _ H Q (bodyOf Try.f29) (by kernel_rfl) (by kernel_rfl) (by kernel_rfl) h

def kp.insn_If : Keep := { keep := fun n => [[0, 1, 2, 3], [0, 1, 2, 3, 8]].getD n [], order := fun n => [].getD n [] }
theorem L.insn_If (c : CallT) (x0 x1 x2 x3 : Value) (H : AH) (Q : Value → AH → Prop) (h : F.insn_If (sy c) x0 x1 x2 x3 H Q) : evBody Try.prog c kp.insn_If Try.f30 [x0, x1, x2, x3] H Q :=
  evBody_of (pl := []) Try.f30 _ H Q (bodyOf Try.f30) (by kernel_rfl) (by kernel_rfl) (by kernel_rfl) h

def kp.insn_Insn_Bytes : Keep := { keep := fun n => [[0], [1, 2], [1, 2, 3], [1, 2, 3], [1, 2, 3, 20], [1, 2, 3, 20], [1, 2, 3, 4, 20], [1, 2, 3, 20], [2, 3]].getD n [], order := fun n => [[], [], [(0, 0), (1, 1), (2, 3), (3, 0), (4, 8), (5, 24), (6, 56), (7, 0), (8, 128), (9, 0), (10, 512), (11, 7), (12, 2055), (13, 6271), (14, 14463), (15, 31231), (16, 63999), (17, 131071), (18, 262143)]].getD n [] }
def pl.insn_Insn_Bytes (c : CallT) (Q : Value → AH → Prop) : Plan := [
  (122, fun S T H => F.insn_Insn_Bytes_l1 (sy c) Q (T 1) (T 2) (T 3) (T 20) H (S 0))]
theorem L.insn_Insn_Bytes (c : CallT) (x0 : Value) (H : AH) (Q : Value → AH → Prop) (h : F.insn_Insn_Bytes (sy c) x0 H Q) : evBody Try.prog c kp.insn_Insn_Bytes Try.f31 [x0] H Q :=
  evBody_of (pl := pl.insn_Insn_Bytes c Q) Try.f31 _ H Q (bodyOf Try.f31) (by kernel_rfl) (by kernel_rfl) (by kernel_rfl) h

def kp.pinfoldlaw03_Ref : Keep := { keep := fun n => [[0], [1, 2]].getD n [], order := fun n => [].getD n [] }
theorem L.pinfoldlaw03_Ref (c : CallT) (x0 : Value) (H : AH) (Q : Value → AH → Prop) (h : F.pinfoldlaw03_Ref (sy c) x0 H Q) : evBody Try.prog c kp.pinfoldlaw03_Ref Try.f33 [x0] H Q :=
  evBody_of (pl := []) Try.f33 _ H Q (bodyOf Try.f33) (by kernel_rfl) (by kernel_rfl) (by kernel_rfl) h

def kp.pinfoldref03_Bytes : Keep := { keep := fun n => [[0], [1]].getD n [], order := fun n => [].getD n [] }
theorem L.pinfoldref03_Bytes (c : CallT) (x0 : Value) (H : AH) (Q : Value → AH → Prop) (h : F.pinfoldref03_Bytes (sy c) x0 H Q) : evBody Try.prog c kp.pinfoldref03_Bytes Try.f32 [x0] H Q :=
  evBody_of (pl := []) Try.f32 _ H Q (bodyOf Try.f32) (by kernel_rfl) (by kernel_rfl) (by kernel_rfl) h

def kp.insn_Of : Keep := { keep := fun n => [[0], [1, 2], [1, 2, 3], [1, 2, 3, 6, 7, 8], [1, 2, 3, 6, 7, 8], [1, 2, 3, 4, 5, 6, 7, 8], [1, 2, 3, 6, 7, 8], [1, 2, 3]].getD n [], order := fun n => [].getD n [] }
def pl.insn_Of (c : CallT) (Q : Value → AH → Prop) : Plan := [
  (58, fun S T H => F.insn_Of_l1 (sy c) Q (T 1) (T 2) (T 3) (T 6) (T 7) (T 8) H (S 0))]
theorem L.insn_Of (c : CallT) (x0 : Value) (H : AH) (Q : Value → AH → Prop) (h : F.insn_Of (sy c) x0 H Q) : evBody Try.prog c kp.insn_Of Try.f34 [x0] H Q :=
  evBody_of (pl := pl.insn_Of c Q) Try.f34 _ H Q (bodyOf Try.f34) (by kernel_rfl) (by kernel_rfl) (by kernel_rfl) h

def kp.insn_Encode : Keep := { keep := fun n => [[0], [0], [0, 3], [3, 11, 12, 13], [3, 11, 12, 13], [3, 5, 11, 12, 13], [3, 6, 11, 12, 13], [3, 11, 12, 13], [3]].getD n [], order := fun n => [].getD n [] }
def pl.insn_Encode (c : CallT) (Q : Value → AH → Prop) : Plan := [
  (58, fun S T H => F.insn_Encode_l1 (sy c) Q (T 3) (T 11) (T 12) (T 13) H (S 0))]
theorem L.insn_Encode (c : CallT) (x0 : Value) (H : AH) (Q : Value → AH → Prop) (h : F.insn_Encode (sy c) x0 H Q) : evBody Try.prog c kp.insn_Encode Try.f35 [x0] H Q :=
  evBody_of (pl := pl.insn_Encode c Q) Try.f35 _ H Q (bodyOf Try.f35) (by kernel_rfl) (by kernel_rfl) (by kernel_rfl) h

def kp.insn_Decode : Keep := { keep := fun n => [[0], [0], [], [0], [], [0], [0, 4], [0, 4], [0, 4], [4]].getD n [], order := fun n => [].getD n [] }
def pl.insn_Decode (c : CallT) (Q : Value → AH → Prop) : Plan := [
  (60, fun S T H => F.insn_Decode_l1 (sy c) Q (T 0) (T 4) H (S 0))]
theorem L.insn_Decode (c : CallT) (x0 : Value) (H : AH) (Q : Value → AH → Prop) (h : F.insn_Decode (sy c) x0 H Q) : evBody Try.prog c kp.insn_Decode Try.f36 [x0] H Q :=
  evBody_of (pl := pl.insn_Decode c Q) Try.f36 _ H Q (bodyOf Try.f36) (by kernel_rfl) (by kernel_rfl) (by kernel_rfl) h

def kp.pinfoldlaw03_same : Keep := { keep := fun n => [[0, 1], [0, 1], [], [0, 1], [0, 1, 12, 13], [0, 1, 12, 13], [0, 1, 5, 12, 13], [], [0, 1, 12, 13], []].getD n [], order := fun n => [[], [], [], [], [], [], [(0, 0), (1, 0), (2, 3), (3, 7), (4, 0), (5, 0), (6, 48), (7, 112), (8, 255)]].getD n [] }
def pl.pinfoldlaw03_same (c : CallT) (Q : Value → AH → Prop) : Plan := [
  (58, fun S T H => F.pinfoldlaw03_same_l1 (sy c) Q (T 0) (T 1) (T 12) (T 13) H (S 0))]
theorem L.pinfoldlaw03_same (c : CallT) (x0 x1 : Value) (H : AH) (Q : Value → AH → Prop) (h : F.pinfoldlaw03_same (sy c) x0 x1 H Q) : evBody Try.prog c kp.pinfoldlaw03_same Try.f37 [x0, x1] H Q :=
  evBody_of (pl := pl.pinfoldlaw03_same c Q) Try.f37 _ H Q (bodyOf Try.f37) (by kernel_rfl) (by kernel_rfl) (by kernel_rfl) h

def kp.record_Record_Bytes : Keep := { keep := fun n => [[0], [1, 2], [1, 2, 3], [1, 2, 3], [1, 2, 3], [1, 2, 3], [2, 3, 21, 22], [2, 3, 21, 22], [2, 3, 4, 5, 21, 22], [2, 3, 21, 22], [2, 3]].getD n [], order := fun n => [[], [], [(0, 0), (1, 0), (2, 2), (3, 6), (4, 15)], [(0, 0), (1, 0), (2, 2), (3, 6), (4, 15)], [(0, 0), (1, 0), (2, 2), (3, 7)]].getD n [] }
def pl.record_Record_Bytes (c : CallT) (Q : Value → AH → Prop) : Plan := [
  (506, fun S T H => F.record_Record_Bytes_l1 (sy c) Q (T 2) (T 3) (T 21) (T 22) H (S 0))]
theorem L.record_Record_Bytes (c : CallT) (x0 : Value) (H : AH) (Q : Value → AH → Prop) (h : F.record_Record_Bytes (sy c) x0 H Q) : evBody Try.prog c kp.record_Record_Bytes Try.f38 [x0] H Q :=
  evBody_of (pl := pl.record_Record_Bytes c Q) Try.f38 _ H Q (bodyOf Try.f38) (by kernel_rfl) (by kernel_rfl) (by kernel_rfl) h

def kp.pinfoldlaw04_Ref : Keep := { keep := fun n => [[0], [1, 2]].getD n [], order := fun n => [].getD n [] }
theorem L.pinfoldlaw04_Ref (c : CallT) (x0 : Value) (H : AH) (Q : Value → AH → Prop) (h : F.pinfoldlaw04_Ref (sy c) x0 H Q) : evBody Try.prog c kp.pinfoldlaw04_Ref Try.f39 [x0] H Q :=
  evBody_of (pl := []) Try.f39 _ H Q (bodyOf Try.f39) (by kernel_rfl) (by kernel_rfl) (by kernel_rfl) h

def kp.record_Of : Keep := { keep := fun n => [[0], [1, 2], [1, 2, 3], [1, 2, 3, 14], [1, 2, 3, 14], [1, 2, 3, 4, 14], [1, 2, 3, 14], [2, 3]].getD n [], order := fun n => [[], [(0, 0), (3, 0), (6, 0), (9, 0), (1, 1), (2, 3), (4, 11), (5, 27), (7, 91), (8, 255), (10, 1023)]].getD n [] }
def pl.record_Of (c : CallT) (Q : Value → AH → Prop) : Plan := [
  (58, fun S T H => F.record_Of_l1 (sy c) Q (T 1) (T 2) (T 3) (T 14) H (S 0))]
theorem L.record_Of (c : CallT) (x0 : Value) (H : AH) (Q : Value → AH → Prop) (h : F.record_Of (sy c) x0 H Q) : evBody Try.prog c kp.record_Of Try.f40 [x0] H Q :=
  evBody_of (pl := pl.record_Of c Q) Try.f40 _ H Q (bodyOf Try.f40) (by kernel_rfl) (by kernel_rfl) (by kernel_rfl) h

def kp.record_Record_Word : Keep := { keep := fun n => [[0, 1], [1, 2], [], [1, 2], [1, 6]].getD n [], order := fun n => [].getD n [] }
theorem L.record_Record_Word (c : CallT) (x0 x1 : Value) (H : AH) (Q : Value → AH → Prop) (h : F.record_Record_Word (sy c) x0 x1 H Q) : evBody Try.prog c kp.record_Record_Word Try.f41 [x0, x1] H Q :=
  evBody_of (pl := []) Try.f41 _ H Q (bodyOf Try.f41) (by kernel_rfl) (by kernel_rfl) (by kernel_rfl) h

def kp.record_Half : Keep := { keep := fun n => [[0, 1], [0, 1], [1, 5], [5], [5]].getD n [], order := fun n => [].getD n [] }
theorem L.record_Half (c : CallT) (x0 x1 : Value) (H : AH) (Q : Value → AH → Prop) (h : F.record_Half (sy c) x0 x1 H Q) : evBody Try.prog c kp.record_Half Try.f42 [x0, x1] H Q :=
  evBody_of (pl := []) Try.f42 _ H Q (bodyOf Try.f42) (by kernel_rfl) (by kernel_rfl) (by kernel_rfl) h

def kp.pinfoldlaw11_Awake : Keep := { keep := fun n => [[], [], [1], [2]].getD n [], order := fun n => [[], [], [(0, 0), (2, 0), (3, 4), (7, 0), (1, 0), (4, 14), (5, 31), (6, 63), (8, 255)]].getD n [] }
theorem L.pinfoldlaw11_Awake (c : CallT) (H : AH) (Q : Value → AH → Prop) (h : F.pinfoldlaw11_Awake (sy c) H Q) : evBody Try.prog c kp.pinfoldlaw11_Awake Try.f43 [] H Q :=
  evBody_of (pl := []) Try.f43 _ H Q (bodyOf Try.f43) (by kernel_rfl) (by kernel_rfl) (by kernel_rfl) h

def kp.pinfoldlaw09_Few : Keep := { keep := fun n => [[0], [1], [1, 8, 9, 10], [1, 8, 9, 10], [1, 4, 8, 9, 10], [], [1, 8, 9, 10], [1], [1, 20, 21, 22], [1, 20, 21, 22], [1, 6, 20, 21, 22], [], [1, 20, 21, 22], [1]].getD n [], order := fun n => [].getD n [] }
def pl.pinfoldlaw09_Few (c : CallT) (Q : Value → AH → Prop) : Plan := [
  (58, fun S T H => F.pinfoldlaw09_Few_l2 (sy c) Q (T 1) (T 20) (T 21) (T 22) H (S 0)),
  (26, fun S T H => F.pinfoldlaw09_Few_l1 (sy c) Q (T 1) (T 8) (T 9) (T 10) H (S 0))]
theorem L.pinfoldlaw09_Few (c : CallT) (x0 : Value) (H : AH) (Q : Value → AH → Prop) (h : F.pinfoldlaw09_Few (sy c) x0 H Q) : evBody Try.prog c kp.pinfoldlaw09_Few Try.f44 [x0] H Q :=
  evBody_of (pl := pl.pinfoldlaw09_Few c Q) Try.f44 _ H Q (bodyOf Try.f44) (by kernel_rfl) (by kernel_rfl) (by kernel_rfl) h

def kp.pinfoldlaw09_Small_Policy : Keep := { keep := fun n => [[0], [1, 2], [1, 2, 3], [1, 2, 3, 4], [1, 2, 3, 4, 38, 39, 40], [1, 2, 3, 4, 38, 39, 40], [1, 2, 3, 4, 5, 6, 38, 39, 40], [1, 2, 3, 4, 6, 38, 39, 40], [1, 2, 3, 4, 6, 7, 38, 39, 40], [1, 2, 3, 4, 7, 38, 39, 40, 65, 66, 67], [1, 2, 3, 4, 7, 38, 39, 40, 65, 66, 67], [1, 2, 3, 4, 7, 8, 9, 38, 39, 40, 65, 66, 67], [1, 2, 3, 4, 7, 9, 38, 39, 40, 65, 66, 67], [1, 2, 3, 4, 7, 38, 39, 40, 65, 66, 67], [1, 2, 3, 4, 7, 38, 39, 40], [1, 2, 3, 4, 38, 39, 40], [1, 2, 4], [1, 2, 4, 10], [1, 2, 4, 10, 11], [1, 2, 4, 10, 11, 92, 93, 94], [1, 2, 4, 10, 11, 92, 93, 94], [1, 2, 4, 10, 11, 12, 13, 92, 93, 94], [1, 2, 4, 10, 11, 12, 14, 92, 93, 94], [1, 2, 4, 10, 11, 14, 15, 92, 93, 94], [1, 2, 4, 10, 11, 14, 15, 92, 93, 94], [1, 2, 4, 10, 11, 14, 15, 92, 93, 94], [1, 2, 4, 10, 11, 92, 93, 94], [1, 2, 4, 11], [1, 2, 4, 11, 16], [2, 4, 11, 16, 131, 132, 133], [2, 4, 11, 16, 131, 132, 133], [2, 4, 11, 16, 17, 18, 131, 132, 133], [2, 4, 11, 16, 17, 19, 131, 132, 133], [2, 4, 11, 16, 19, 20, 131, 132, 133], [2, 4, 11, 16, 19, 20, 131, 132, 133], [2, 4, 11, 16, 19, 20, 131, 132, 133], [2, 4, 11, 16, 131, 132, 133], [2, 4]].getD n [], order := fun n => [[], [], [(0, 0), (1, 0), (2, 2), (3, 6), (4, 15), (5, 31), (6, 0), (7, 64), (8, 0), (9, 256), (11, 0), (12, 2048), (13, 6144), (15, 0), (10, 960), (14, 16383), (16, 65535)], [], [], [], [], [(0, 0), (1, 0), (2, 2), (3, 6), (4, 0), (5, 16), (6, 62), (7, 127), (8, 255), (9, 511), (10, 1023), (11, 0), (12, 2048), (13, 0), (14, 8192), (17, 0), (15, 30720), (16, 65535), (18, 262143)], [], [], [], [], [(0, 0), (1, 1), (2, 0), (3, 4), (4, 12), (5, 31), (6, 63), (7, 127)]].getD n [] }
def pl.pinfoldlaw09_Small_Policy (c : CallT) (Q : Value → AH → Prop) : Plan := [
  (4090, fun S T H => F.pinfoldlaw09_Small_Policy_l2 (sy c) Q (T 2) (T 4) (T 11) (T 16) (T 131) (T 132) (T 133) H (S 0)),
  (1018, fun S T H => F.pinfoldlaw09_Small_Policy_l1 (sy c) Q (T 1) (T 2) (T 4) (T 10) (T 11) (T 92) (T 93) (T 94) H (S 0)),
  (31, fun S T H => F.pinfoldlaw09_Small_Policy_j1 (sy c) Q (T 1) (T 2) (T 4) H),
  (250682, fun S T H => F.pinfoldlaw09_Small_Policy_l4 (sy c) Q (S 1) (T 1) (T 2) (T 3) (T 4) (T 7) (T 38) (T 39) (T 40) (T 65) (T 66) (T 67) H (S 0)),
  (122, fun S T H => F.pinfoldlaw09_Small_Policy_l3 (sy c) Q (T 1) (T 2) (T 3) (T 4) (T 38) (T 39) (T 40) H (S 0))]
theorem L.pinfoldlaw09_Small_Policy (c : CallT) (x0 : Value) (H : AH) (Q : Value → AH → Prop) (h : F.pinfoldlaw09_Small_Policy (sy c) x0 H Q) : evBody Try.prog c kp.pinfoldlaw09_Small_Policy Try.f45 [x0] H Q :=
  evBody_of (pl := pl.pinfoldlaw09_Small_Policy c Q) Try.f45 _ H Q (bodyOf Try.f45) (by kernel_rfl) (by kernel_rfl) (by kernel_rfl) h

def kp.pinfoldlaw09_Ref : Keep := { keep := fun n => [[0], [1, 2], [1, 2, 3], [1, 2, 3, 22, 23, 24], [1, 2, 3, 22, 23, 24], [1, 2, 3, 5, 22, 23, 24], [1, 2, 3, 5, 6, 22, 23, 24], [1, 2, 3, 6, 22, 23, 24, 34, 35, 36], [1, 2, 3, 6, 22, 23, 24, 34, 35, 36], [1, 2, 3, 6, 8, 22, 23, 24, 34, 35, 36], [1, 2, 3, 6, 22, 23, 24, 34, 35, 36], [1, 2, 3, 6, 22, 23, 24], [1, 2, 3, 22, 23, 24], [1, 2, 3], [1, 2, 3, 56, 57, 58], [1, 2, 3, 56, 57, 58], [1, 2, 3, 10, 56, 57, 58], [1, 2, 3, 56, 57, 58], [1, 2, 3], [2, 3, 75, 76, 77], [2, 3, 75, 76, 77], [2, 3, 12, 75, 76, 77], [2, 3, 75, 76, 77], [2, 3]].getD n [], order := fun n => [[], [], [], [], [], [], [], [], [], [(0, 0), (1, 1), (2, 0), (3, 4), (4, 12), (5, 31), (6, 63), (7, 127)]].getD n [] }
def pl.pinfoldlaw09_Ref (c : CallT) (Q : Value → AH → Prop) : Plan := [
  (59802, fun S T H => F.pinfoldlaw09_Ref_l2 (sy c) Q (S 1) (T 1) (T 2) (T 3) (T 6) (T 22) (T 23) (T 24) (T 34) (T 35) (T 36) H (S 0)),
  (250, fun S T H => F.pinfoldlaw09_Ref_l4 (sy c) Q (T 2) (T 3) (T 75) (T 76) (T 77) H (S 0)),
  (122, fun S T H => F.pinfoldlaw09_Ref_l3 (sy c) Q (T 1) (T 2) (T 3) (T 56) (T 57) (T 58) H (S 0)),
  (58, fun S T H => F.pinfoldlaw09_Ref_l1 (sy c) Q (T 1) (T 2) (T 3) (T 22) (T 23) (T 24) H (S 0))]
theorem L.pinfoldlaw09_Ref (c : CallT) (x0 : Value) (H : AH) (Q : Value → AH → Prop) (h : F.pinfoldlaw09_Ref (sy c) x0 H Q) : evBody Try.prog c kp.pinfoldlaw09_Ref Try.f46 [x0] H Q :=
  evBody_of (pl := pl.pinfoldlaw09_Ref c Q) Try.f46 _ H Q (bodyOf Try.f46) (by kernel_rfl) (by kernel_rfl) (by kernel_rfl) h

def kp.pinfoldlaw11_Records : Keep := { keep := fun n => [[0, 1, 2], [1, 2, 3], [2, 3, 7], [3, 7, 17, 18, 19], [3, 7, 17, 18, 19], [3, 7, 8, 9, 17, 18, 19], [3, 7, 9, 17, 18, 19], [3, 7, 9, 10, 17, 18, 19], [3, 7, 9, 10, 11, 17, 18, 19], [3, 7, 9, 11, 17, 18, 19, 48, 49, 50], [3, 7, 9, 11, 17, 18, 19, 48, 49, 50], [3, 7, 9, 11, 12, 13, 17, 18, 19, 48, 49, 50], [3, 7, 9, 11, 12, 13, 17, 18, 19, 48, 49, 50], [3, 7, 9, 11, 17, 18, 19, 48, 49, 50], [3, 7, 11, 17, 18, 19], [3, 7, 17, 18, 19], [7]].getD n [], order := fun n => [[], [], [], [], [], [], [(0, 0), (1, 1), (2, 0), (3, 4), (4, 0), (5, 16), (6, 48), (7, 124), (8, 255), (9, 511), (10, 0), (11, 2047)]].getD n [] }
def pl.pinfoldlaw11_Records (c : CallT) (Q : Value → AH → Prop) : Plan := [
  (239226, fun S T H => F.pinfoldlaw11_Records_l2 (sy c) Q (S 1) (T 3) (T 7) (T 9) (T 11) (T 17) (T 18) (T 19) (T 48) (T 49) (T 50) H (S 0)),
  (58, fun S T H => F.pinfoldlaw11_Records_l1 (sy c) Q (T 3) (T 7) (T 17) (T 18) (T 19) H (S 0))]
theorem L.pinfoldlaw11_Records (c : CallT) (x0 x1 x2 : Value) (H : AH) (Q : Value → AH → Prop) (h : F.pinfoldlaw11_Records (sy c) x0 x1 x2 H Q) : evBody Try.prog c kp.pinfoldlaw11_Records Try.f47 [x0, x1, x2] H Q :=
  evBody_of (pl := pl.pinfoldlaw11_Records c Q) Try.f47 _ H Q (bodyOf Try.f47) (by kernel_rfl) (by kernel_rfl) (by kernel_rfl) h

def kp.mean_Matches : Keep := { keep := fun n => [[0, 1], [2, 3], [], [2, 3], [3, 13, 14, 15], [3, 13, 14, 15], [3, 6, 13, 14, 15], [], [3, 13, 14, 15], []].getD n [], order := fun n => [].getD n [] }
def pl.mean_Matches (c : CallT) (Q : Value → AH → Prop) : Plan := [
  (58, fun S T H => F.mean_Matches_l1 (sy c) Q (T 3) (T 13) (T 14) (T 15) H (S 0))]
theorem L.mean_Matches (c : CallT) (x0 x1 : Value) (H : AH) (Q : Value → AH → Prop) (h : F.mean_Matches (sy c) x0 x1 H Q) : evBody Try.prog c kp.mean_Matches Try.f48 [x0, x1] H Q :=
  evBody_of (pl := pl.mean_Matches c Q) Try.f48 _ H Q (bodyOf Try.f48) (by kernel_rfl) (by kernel_rfl) (by kernel_rfl) h

def kp.pinfoldlaw11_Ref : Keep := { keep := fun n => [[0], [1, 2]].getD n [], order := fun n => [].getD n [] }
theorem L.pinfoldlaw11_Ref (c : CallT) (x0 : Value) (H : AH) (Q : Value → AH → Prop) (h : F.pinfoldlaw11_Ref (sy c) x0 H Q) : evBody Try.prog c kp.pinfoldlaw11_Ref Try.f50 [x0] H Q :=
  evBody_of (pl := []) Try.f50 _ H Q (bodyOf Try.f50) (by kernel_rfl) (by kernel_rfl) (by kernel_rfl) h

def kp.pinfoldref09_Matches : Keep := { keep := fun n => [[0, 1], [2, 3], [], [2, 3], [2, 3, 5], [2, 3, 5], [2, 3, 5], [], []].getD n [], order := fun n => [[], [], [], [], [], [], [(0, 0), (1, 1), (2, 0), (3, 7), (4, 15), (5, 0), (6, 63), (7, 127)]].getD n [] }
def pl.pinfoldref09_Matches (c : CallT) (Q : Value → AH → Prop) : Plan := [
  (58, fun S T H => F.pinfoldref09_Matches_l1 (sy c) Q (T 2) (T 3) (T 5) H (S 0))]
theorem L.pinfoldref09_Matches (c : CallT) (x0 x1 : Value) (H : AH) (Q : Value → AH → Prop) (h : F.pinfoldref09_Matches (sy c) x0 x1 H Q) : evBody Try.prog c kp.pinfoldref09_Matches Try.f49 [x0, x1] H Q :=
  evBody_of (pl := pl.pinfoldref09_Matches c Q) Try.f49 _ H Q (bodyOf Try.f49) (by kernel_rfl) (by kernel_rfl) (by kernel_rfl) h

def kp.mean_Holds : Keep := { keep := fun n => [[0, 1], [2, 3], [], [2, 3], [2, 5], [2, 5, 20], [2, 5], [2, 5, 20], [2, 5], [2, 5, 20], [2, 5], [2, 5, 20], [2, 5], [2, 5, 20], [2, 5], [2, 5, 20], [2, 5], [2, 5, 20], [2, 5], []].getD n [], order := fun n => [].getD n [] }
theorem L.mean_Holds (c : CallT) (x0 x1 : Value) (H : AH) (Q : Value → AH → Prop) (h : F.mean_Holds (sy c) x0 x1 H Q) : evBody Try.prog c kp.mean_Holds Try.f51 [x0, x1] H Q :=
  evBody_of (pl := []) Try.f51 _ H Q (bodyOf Try.f51) (by kernel_rfl) (by kernel_rfl) (by kernel_rfl) h

def kp.pinfoldref09_Holds : Keep := { keep := fun n => [[0, 1], [2, 3], [], [2, 3], [2, 5], [2, 5, 20], [2, 5], [2, 5, 20], [2, 5], [2, 5, 20], [2, 5], [2, 5, 20], [2, 5], [2, 5, 20], [2, 5], [2, 5, 20], [2, 5], [2, 5, 20], [2, 5], []].getD n [], order := fun n => [].getD n [] }
theorem L.pinfoldref09_Holds (c : CallT) (x0 x1 : Value) (H : AH) (Q : Value → AH → Prop) (h : F.pinfoldref09_Holds (sy c) x0 x1 H Q) : evBody Try.prog c kp.pinfoldref09_Holds Try.f52 [x0, x1] H Q :=
  evBody_of (pl := []) Try.f52 _ H Q (bodyOf Try.f52) (by kernel_rfl) (by kernel_rfl) (by kernel_rfl) h

def kp.mean_Says : Keep := { keep := fun n => [[0, 1], [2, 3], [], [2, 3], [2, 3, 5, 6], [3, 5, 6, 15, 16, 17], [3, 5, 6, 15, 16, 17], [3, 8, 15, 16, 17], [3, 5, 6, 8, 15, 16, 17], [3, 5, 6, 8, 15, 16, 17], [3, 5, 6, 8, 15, 16, 17], [3, 5, 6, 15, 16, 17], [5]].getD n [], order := fun n => [].getD n [] }
def pl.mean_Says (c : CallT) (Q : Value → AH → Prop) : Plan := [
  (122, fun S T H => F.mean_Says_l1 (sy c) Q (T 3) (T 5) (T 6) (T 15) (T 16) (T 17) H (S 0))]
theorem L.mean_Says (c : CallT) (x0 x1 : Value) (H : AH) (Q : Value → AH → Prop) (h : F.mean_Says (sy c) x0 x1 H Q) : evBody Try.prog c kp.mean_Says Try.f53 [x0, x1] H Q :=
  evBody_of (pl := pl.mean_Says c Q) Try.f53 _ H Q (bodyOf Try.f53) (by kernel_rfl) (by kernel_rfl) (by kernel_rfl) h

def kp.pinfoldref09_Says : Keep := { keep := fun n => [[0, 1], [2, 3], [], [2, 3], [2, 3, 5], [2, 3, 5], [2, 3, 5], [2, 3, 5, 6], [2, 3, 5, 6], [2, 3, 5, 6], [2, 6], [2]].getD n [], order := fun n => [[], [], [], [], [], [], [], [], [], [(0, 0), (1, 1), (2, 0), (3, 7), (4, 15), (5, 31), (7, 0), (6, 63), (8, 255), (9, 511), (10, 1023), (11, 2047), (12, 1023), (13, 8191), (14, 16383), (15, 1023), (16, 65535), (17, 131071)]].getD n [] }
def pl.pinfoldref09_Says (c : CallT) (Q : Value → AH → Prop) : Plan := [
  (3730, fun S T H => F.pinfoldref09_Says_l2 (sy c) Q (S 1) (T 2) (T 3) (T 5) (T 6) H (S 0)),
  (58, fun S T H => F.pinfoldref09_Says_l1 (sy c) Q (T 2) (T 3) (T 5) H (S 0))]
theorem L.pinfoldref09_Says (c : CallT) (x0 x1 : Value) (H : AH) (Q : Value → AH → Prop) (h : F.pinfoldref09_Says (sy c) x0 x1 H Q) : evBody Try.prog c kp.pinfoldref09_Says Try.f54 [x0, x1] H Q :=
  evBody_of (pl := pl.pinfoldref09_Says c Q) Try.f54 _ H Q (bodyOf Try.f54) (by kernel_rfl) (by kernel_rfl) (by kernel_rfl) h

def kp.pinfoldlaw09_Cond_Cond : Keep := { keep := fun n => [[0], [1, 2], [1, 2, 3], [1, 2, 3, 4], [1, 2, 3, 4], [2, 4], [2, 4]].getD n [], order := fun n => [[], [], [(0, 0), (1, 1), (2, 3), (3, 7), (4, 0), (5, 16), (6, 48), (7, 112), (8, 0), (9, 0), (10, 512), (11, 1536), (12, 0), (13, 4096), (14, 15872), (15, 32512), (16, 65280), (17, 131071), (18, 0), (19, 524287)]].getD n [] }
theorem L.pinfoldlaw09_Cond_Cond (c : CallT) (x0 : Value) (H : AH) (Q : Value → AH → Prop) (h : F.pinfoldlaw09_Cond_Cond (sy c) x0 H Q) : evBody Try.prog c kp.pinfoldlaw09_Cond_Cond Try.f55 [x0] H Q :=
  evBody_of (pl := []) Try.f55 _ H Q (bodyOf Try.f55) (by kernel_rfl) (by kernel_rfl) (by kernel_rfl) h

def kp.mean_All : Keep := { keep := fun n => [[0, 1], [0, 3], [0, 3, 5], [0, 3, 5, 6], [0, 3, 5, 6], [0, 3, 5, 6], [5]].getD n [], order := fun n => [[], [], [], [], [], [(0, 0), (1, 0), (2, 0), (3, 6), (4, 14), (5, 0), (6, 62), (7, 127), (8, 255)]].getD n [] }
def pl.mean_All (c : CallT) (Q : Value → AH → Prop) : Plan := [
  (58, fun S T H => F.mean_All_l1 (sy c) Q (T 0) (T 3) (T 5) (T 6) H (S 0))]
theorem L.mean_All (c : CallT) (x0 x1 : Value) (H : AH) (Q : Value → AH → Prop) (h : F.mean_All (sy c) x0 x1 H Q) : evBody Try.prog c kp.mean_All Try.f56 [x0, x1] H Q :=
  evBody_of (pl := pl.mean_All c Q) Try.f56 _ H Q (bodyOf Try.f56) (by kernel_rfl) (by kernel_rfl) (by kernel_rfl) h

def kp.pinfoldref09_All : Keep := { keep := fun n => [[0, 1], [0, 3], [0, 3, 5], [0, 3, 5, 6], [0, 3, 5, 6], [0, 3, 5, 6], [5]].getD n [], order := fun n => [[], [], [], [], [], [(0, 0), (1, 0), (2, 0), (3, 6), (4, 14), (5, 0), (6, 62), (7, 127), (8, 255)]].getD n [] }
def pl.pinfoldref09_All (c : CallT) (Q : Value → AH → Prop) : Plan := [
  (58, fun S T H => F.pinfoldref09_All_l1 (sy c) Q (T 0) (T 3) (T 5) (T 6) H (S 0))]
theorem L.pinfoldref09_All (c : CallT) (x0 x1 : Value) (H : AH) (Q : Value → AH → Prop) (h : F.pinfoldref09_All (sy c) x0 x1 H Q) : evBody Try.prog c kp.pinfoldref09_All Try.f57 [x0, x1] H Q :=
  evBody_of (pl := pl.pinfoldref09_All c Q) Try.f57 _ H Q (bodyOf Try.f57) (by kernel_rfl) (by kernel_rfl) (by kernel_rfl) h

def kp.mean_Speaks : Keep := { keep := fun n => [[0, 1], [2, 3, 4], [2, 3, 4, 5], [2, 3, 4, 5, 9, 10, 11], [2, 3, 4, 5, 9, 10, 11], [2, 3, 4, 5, 6, 7, 9, 10, 11], [2, 3, 4, 5, 6, 7, 9, 10, 11], [2, 3, 4, 5, 6, 7, 9, 10, 11], [2, 3, 4, 6, 9, 10, 11], [2, 3, 4, 5, 9, 10, 11], [4, 5]].getD n [], order := fun n => [[], [], [], [], [], [], [], [(0, 0), (1, 1), (2, 3), (3, 7), (4, 15), (5, 7), (6, 63), (7, 127), (8, 255), (10, 7), (11, 1031), (14, 7), (15, 16391), (16, 7), (17, 114695), (18, 245767), (19, 507911), (9, 511), (12, 4095), (13, 8191), (20, 1048575), (21, 2097151), (22, 4194303)]].getD n [] }
def pl.mean_Speaks (c : CallT) (Q : Value → AH → Prop) : Plan := [
  (58, fun S T H => F.mean_Speaks_l1 (sy c) Q (T 2) (T 3) (T 4) (T 5) (T 9) (T 10) (T 11) H (S 0))]
theorem L.mean_Speaks (c : CallT) (x0 x1 : Value) (H : AH) (Q : Value → AH → Prop) (h : F.mean_Speaks (sy c) x0 x1 H Q) : evBody Try.prog c kp.mean_Speaks Try.f58 [x0, x1] H Q :=
  evBody_of (pl := pl.mean_Speaks c Q) Try.f58 _ H Q (bodyOf Try.f58) (by kernel_rfl) (by kernel_rfl) (by kernel_rfl) h

def kp.record_Action_strength : Keep := { keep := fun n => [[0], [0], [4], [], [4], [], [4], [], []].getD n [], order := fun n => [].getD n [] }
theorem L.record_Action_strength (c : CallT) (x0 : Value) (H : AH) (Q : Value → AH → Prop) (h : F.record_Action_strength (sy c) x0 H Q) : evBody Try.prog c kp.record_Action_strength Try.f59 [x0] H Q :=
  evBody_of (pl := []) Try.f59 _ H Q (bodyOf Try.f59) (by kernel_rfl) (by kernel_rfl) (by kernel_rfl) h

def kp.record_put : Keep := { keep := fun n => [[0, 1, 2], [0, 1, 7, 8], [0, 1, 7, 8], [0, 1, 6, 7, 8], [0, 1, 7, 8]].getD n [], order := fun n => [].getD n [] }
def pl.record_put (c : CallT) (Q : Value → AH → Prop) : Plan := [
  (6, fun S T H => F.record_put_l1 (sy c) Q (T 0) (T 1) (T 7) (T 8) H (S 0))]
theorem L.record_put (c : CallT) (x0 x1 x2 : Value) (H : AH) (Q : Value → AH → Prop) (h : F.record_put (sy c) x0 x1 x2 H Q) : evBody Try.prog c kp.record_put Try.f60 [x0, x1, x2] H Q :=
  evBody_of (pl := pl.record_put c Q) Try.f60 _ H Q (bodyOf Try.f60) (by kernel_rfl) (by kernel_rfl) (by kernel_rfl) h

def kp.pinfoldref03_Of : Keep := { keep := fun n => [[0, 1, 2, 3], [0, 1, 2, 7, 8], [7, 8, 9], [7, 8, 9, 10], [7, 8, 9, 10], [7, 8, 9, 10], [7, 8, 9, 10], [8, 9]].getD n [], order := fun n => [].getD n [] }
def pl.pinfoldref03_Of (c : CallT) (Q : Value → AH → Prop) : Plan := [
  (58, fun S T H => F.pinfoldref03_Of_l1 (sy c) Q (T 7) (T 8) (T 9) (T 10) H (S 0))]
theorem L.pinfoldref03_Of (c : CallT) (x0 x1 x2 x3 : Value) (H : AH) (Q : Value → AH → Prop) (h : F.pinfoldref03_Of (sy c) x0 x1 x2 x3 H Q) : evBody Try.prog c kp.pinfoldref03_Of Try.f61 [x0, x1, x2, x3] H Q :=
  evBody_of (pl := pl.pinfoldref03_Of c Q) Try.f61 _ H Q (bodyOf Try.f61) (by kernel_rfl) (by kernel_rfl) (by kernel_rfl) h

def kp.record_take : Keep := { keep := fun n => [[0, 1], [0, 1], [0, 1, 5], [5, 10, 11, 12], [5, 10, 11, 12], [5, 6, 7, 10, 11, 12], [5, 10, 11, 12], [5]].getD n [], order := fun n => [].getD n [] }
def pl.record_take (c : CallT) (Q : Value → AH → Prop) : Plan := [
  (58, fun S T H => F.record_take_l1 (sy c) Q (T 5) (T 10) (T 11) (T 12) H (S 0))]
theorem L.record_take (c : CallT) (x0 x1 : Value) (H : AH) (Q : Value → AH → Prop) (h : F.record_take (sy c) x0 x1 H Q) : evBody Try.prog c kp.record_take Try.f62 [x0, x1] H Q :=
  evBody_of (pl := pl.record_take c Q) Try.f62 _ H Q (bodyOf Try.f62) (by kernel_rfl) (by kernel_rfl) (by kernel_rfl) h

def kp.pinfoldref01_Calls : Keep := { keep := fun n => [[], []].getD n [], order := fun n => [].getD n [] }
theorem L.pinfoldref01_Calls (c : CallT) (H : AH) (Q : Value → AH → Prop) (h : F.pinfoldref01_Calls (sy c) H Q) : evBody Try.prog c kp.pinfoldref01_Calls Try.f63 [] H Q :=
  evBody_of (pl := []) Try.f63 _ H Q (bodyOf Try.f63) (by kernel_rfl) (by kernel_rfl) (by kernel_rfl) h

def kp.pinfoldlaw09_Action : Keep := { keep := fun n => [[0, 1], [0, 1], [1, 6], [], [1, 6], [1], [6], [], []].getD n [], order := fun n => [].getD n [] }
theorem L.pinfoldlaw09_Action (c : CallT) (x0 x1 : Value) (H : AH) (Q : Value → AH → Prop) (h : F.pinfoldlaw09_Action (sy c) x0 x1 H Q) : evBody Try.prog c kp.pinfoldlaw09_Action Try.f64 [x0, x1] H Q :=
  evBody_of (pl := []) Try.f64 _ H Q (bodyOf Try.f64) (by kernel_rfl) (by kernel_rfl) (by kernel_rfl) h

def kp.pinfoldlaw09_Small_Policy_1 : Keep := { keep := fun n => [[0, 1, 2, 3], [0, 1, 2, 3], [1, 3], [0, 1, 2, 3]].getD n [], order := fun n => [[], [], [], [(0, 0), (1, 1), (2, 0), (3, 7), (4, 15), (5, 0), (6, 32), (7, 127), (8, 0), (9, 511), (10, 1023)]].getD n [] }
theorem L.pinfoldlaw09_Small_Policy_1 (c : CallT) (x0 x1 x2 x3 : Value) (H : AH) (Q : Value → AH → Prop) (h : F.pinfoldlaw09_Small_Policy_1 (sy c) x0 x1 x2 x3 H Q) : evBody Try.prog c kp.pinfoldlaw09_Small_Policy_1 Try.f65 [x0, x1, x2, x3] H Q :=
  evBody_of (pl := []) Try.f65 _ H Q (bodyOf Try.f65) (by kernel_rfl) (by kernel_rfl) (by kernel_rfl) h

def kp.pinfoldlaw09_Dirs : Keep := { keep := fun n => [[], []].getD n [], order := fun n => [].getD n [] }
theorem L.pinfoldlaw09_Dirs (c : CallT) (H : AH) (Q : Value → AH → Prop) (h : F.pinfoldlaw09_Dirs (sy c) H Q) : evBody Try.prog c kp.pinfoldlaw09_Dirs Try.f66 [] H Q :=
  evBody_of (pl := []) Try.f66 _ H Q (bodyOf Try.f66) (by kernel_rfl) (by kernel_rfl) (by kernel_rfl) h

def kp.pinfoldlaw09_RefCond : Keep := { keep := fun n => [[0], [1, 2]].getD n [], order := fun n => [].getD n [] }
theorem L.pinfoldlaw09_RefCond (c : CallT) (x0 : Value) (H : AH) (Q : Value → AH → Prop) (h : F.pinfoldlaw09_RefCond (sy c) x0 H Q) : evBody Try.prog c kp.pinfoldlaw09_RefCond Try.f67 [x0] H Q :=
  evBody_of (pl := []) Try.f67 _ H Q (bodyOf Try.f67) (by kernel_rfl) (by kernel_rfl) (by kernel_rfl) h

def kp.pinfoldlaw09_values : Keep := { keep := fun n => [[], []].getD n [], order := fun n => [].getD n [] }
theorem L.pinfoldlaw09_values (c : CallT) (H : AH) (Q : Value → AH → Prop) (h : F.pinfoldlaw09_values (sy c) H Q) : evBody Try.prog c kp.pinfoldlaw09_values Try.f68 [] H Q :=
  evBody_of (pl := []) Try.f68 _ H Q (bodyOf Try.f68) (by kernel_rfl) (by kernel_rfl) (by kernel_rfl) h

def kpL : List (Nat × Keep) := [(3, kp.pinfoldlaw04_RecordOrder), (4, kp.pinfoldlaw03_InsnKnown), (5, kp.pinfoldlaw04_RecordActions), (6, kp.pinfoldlaw03_InsnMakes), (7, kp.pinfoldlaw03_InsnBytes), (8, kp.pinfoldlaw04_RecordBytes), (9, kp.pinfoldlaw04_RecordHalves), (10, kp.pinfoldlaw11_MeanSays), (11, kp.pinfoldlaw11_MeanNarrows), (12, kp.pinfoldlaw11_MeanAll), (13, kp.pinfoldlaw11_MeanSpeaks), (14, kp.pinfoldlaw04_Awake), (15, kp.pinfoldlaw04_RecordOrder_1), (16, kp.record_Stronger), (17, kp.record_Action_Kind), (18, kp.pinfoldlaw03_Awake), (19, kp.insn_Known), (20, kp.pinfoldref03_Known), (21, kp.insn_Class), (22, kp.record_Fail), (23, kp.pinfoldref03_Strength), (24, kp.record_Action_Number), (25, kp.pinfoldref03_Stronger), (26, kp.insn_Load), (27, kp.insn_Return), (28, kp.insn_Skip), (29, kp.insn_Mask), (30, kp.insn_If), (31, kp.insn_Insn_Bytes), (33, kp.pinfoldlaw03_Ref), (32, kp.pinfoldref03_Bytes), (34, kp.insn_Of), (35, kp.insn_Encode), (36, kp.insn_Decode), (37, kp.pinfoldlaw03_same), (38, kp.record_Record_Bytes), (39, kp.pinfoldlaw04_Ref), (40, kp.record_Of), (41, kp.record_Record_Word), (42, kp.record_Half), (43, kp.pinfoldlaw11_Awake), (44, kp.pinfoldlaw09_Few), (45, kp.pinfoldlaw09_Small_Policy), (46, kp.pinfoldlaw09_Ref), (47, kp.pinfoldlaw11_Records), (48, kp.mean_Matches), (50, kp.pinfoldlaw11_Ref), (49, kp.pinfoldref09_Matches), (51, kp.mean_Holds), (52, kp.pinfoldref09_Holds), (53, kp.mean_Says), (54, kp.pinfoldref09_Says), (55, kp.pinfoldlaw09_Cond_Cond), (56, kp.mean_All), (57, kp.pinfoldref09_All), (58, kp.mean_Speaks), (59, kp.record_Action_strength), (60, kp.record_put), (61, kp.pinfoldref03_Of), (62, kp.record_take), (63, kp.pinfoldref01_Calls), (64, kp.pinfoldlaw09_Action), (65, kp.pinfoldlaw09_Small_Policy_1), (66, kp.pinfoldlaw09_Dirs), (67, kp.pinfoldlaw09_RefCond), (68, kp.pinfoldlaw09_values)]
def kps (f : FuncId) : Keep := ((kpL.find? (fun p => p.1 == f)).map (fun p => p.2)).getD { keep := fun _ => [], order := fun _ => [] }
theorem fold_pinfoldlaw04_RecordOrder (ext : CallT) (x0 x1 : Value) (H : AH) (Q : Value → AH → Prop) (h : F.pinfoldlaw04_RecordOrder (sy (CallW Try.prog kps ext)) x0 x1 H Q) : CallW Try.prog kps ext 3 [x0, x1] H Q :=
  CallW.fold (⟨Try.func3, by kernel_rfl, by kernel_rfl, by kernel_rfl⟩ : Go.AM.Good Try.prog 3 Try.f3) (Eq.mpr (by kernel_rfl : evBody Try.prog (CallW Try.prog kps ext) (kps 3) Try.f3 [x0, x1] H Q = evBody Try.prog (CallW Try.prog kps ext) kp.pinfoldlaw04_RecordOrder Try.f3 [x0, x1] H Q) (L.pinfoldlaw04_RecordOrder (CallW Try.prog kps ext) x0 x1 H Q h))
theorem fold_pinfoldlaw03_InsnKnown (ext : CallT) (x0 x1 : Value) (H : AH) (Q : Value → AH → Prop) (h : F.pinfoldlaw03_InsnKnown (sy (CallW Try.prog kps ext)) x0 x1 H Q) : CallW Try.prog kps ext 4 [x0, x1] H Q :=
  CallW.fold (⟨Try.func4, by kernel_rfl, by kernel_rfl, by kernel_rfl⟩ : Go.AM.Good Try.prog 4 Try.f4) (Eq.mpr (by kernel_rfl : evBody Try.prog (CallW Try.prog kps ext) (kps 4) Try.f4 [x0, x1] H Q = evBody Try.prog (CallW Try.prog kps ext) kp.pinfoldlaw03_InsnKnown Try.f4 [x0, x1] H Q) (L.pinfoldlaw03_InsnKnown (CallW Try.prog kps ext) x0 x1 H Q h))
theorem fold_pinfoldlaw04_RecordActions (ext : CallT) (x0 x1 x2 x3 : Value) (H : AH) (Q : Value → AH → Prop) (h : F.pinfoldlaw04_RecordActions (sy (CallW Try.prog kps ext)) x0 x1 x2 x3 H Q) : CallW Try.prog kps ext 5 [x0, x1, x2, x3] H Q :=
  CallW.fold (⟨Try.func5, by kernel_rfl, by kernel_rfl, by kernel_rfl⟩ : Go.AM.Good Try.prog 5 Try.f5) (Eq.mpr (by kernel_rfl : evBody Try.prog (CallW Try.prog kps ext) (kps 5) Try.f5 [x0, x1, x2, x3] H Q = evBody Try.prog (CallW Try.prog kps ext) kp.pinfoldlaw04_RecordActions Try.f5 [x0, x1, x2, x3] H Q) (L.pinfoldlaw04_RecordActions (CallW Try.prog kps ext) x0 x1 x2 x3 H Q h))
theorem fold_pinfoldlaw03_InsnMakes (ext : CallT) (x0 x1 x2 x3 : Value) (H : AH) (Q : Value → AH → Prop) (h : F.pinfoldlaw03_InsnMakes (sy (CallW Try.prog kps ext)) x0 x1 x2 x3 H Q) : CallW Try.prog kps ext 6 [x0, x1, x2, x3] H Q :=
  CallW.fold (⟨Try.func6, by kernel_rfl, by kernel_rfl, by kernel_rfl⟩ : Go.AM.Good Try.prog 6 Try.f6) (Eq.mpr (by kernel_rfl : evBody Try.prog (CallW Try.prog kps ext) (kps 6) Try.f6 [x0, x1, x2, x3] H Q = evBody Try.prog (CallW Try.prog kps ext) kp.pinfoldlaw03_InsnMakes Try.f6 [x0, x1, x2, x3] H Q) (L.pinfoldlaw03_InsnMakes (CallW Try.prog kps ext) x0 x1 x2 x3 H Q h))
theorem fold_pinfoldlaw03_InsnBytes (ext : CallT) (x0 x1 x2 : Value) (H : AH) (Q : Value → AH → Prop) (h : F.pinfoldlaw03_InsnBytes (sy (CallW Try.prog kps ext)) x0 x1 x2 H Q) : CallW Try.prog kps ext 7 [x0, x1, x2] H Q :=
  CallW.fold (⟨Try.func7, by kernel_rfl, by kernel_rfl, by kernel_rfl⟩ : Go.AM.Good Try.prog 7 Try.f7) (Eq.mpr (by kernel_rfl : evBody Try.prog (CallW Try.prog kps ext) (kps 7) Try.f7 [x0, x1, x2] H Q = evBody Try.prog (CallW Try.prog kps ext) kp.pinfoldlaw03_InsnBytes Try.f7 [x0, x1, x2] H Q) (L.pinfoldlaw03_InsnBytes (CallW Try.prog kps ext) x0 x1 x2 H Q h))
theorem fold_pinfoldlaw04_RecordBytes (ext : CallT) (x0 x1 x2 : Value) (H : AH) (Q : Value → AH → Prop) (h : F.pinfoldlaw04_RecordBytes (sy (CallW Try.prog kps ext)) x0 x1 x2 H Q) : CallW Try.prog kps ext 8 [x0, x1, x2] H Q :=
  CallW.fold (⟨Try.func8, by kernel_rfl, by kernel_rfl, by kernel_rfl⟩ : Go.AM.Good Try.prog 8 Try.f8) (Eq.mpr (by kernel_rfl : evBody Try.prog (CallW Try.prog kps ext) (kps 8) Try.f8 [x0, x1, x2] H Q = evBody Try.prog (CallW Try.prog kps ext) kp.pinfoldlaw04_RecordBytes Try.f8 [x0, x1, x2] H Q) (L.pinfoldlaw04_RecordBytes (CallW Try.prog kps ext) x0 x1 x2 H Q h))
theorem fold_pinfoldlaw04_RecordHalves (ext : CallT) (x0 x1 : Value) (H : AH) (Q : Value → AH → Prop) (h : F.pinfoldlaw04_RecordHalves (sy (CallW Try.prog kps ext)) x0 x1 H Q) : CallW Try.prog kps ext 9 [x0, x1] H Q :=
  CallW.fold (⟨Try.func9, by kernel_rfl, by kernel_rfl, by kernel_rfl⟩ : Go.AM.Good Try.prog 9 Try.f9) (Eq.mpr (by kernel_rfl : evBody Try.prog (CallW Try.prog kps ext) (kps 9) Try.f9 [x0, x1] H Q = evBody Try.prog (CallW Try.prog kps ext) kp.pinfoldlaw04_RecordHalves Try.f9 [x0, x1] H Q) (L.pinfoldlaw04_RecordHalves (CallW Try.prog kps ext) x0 x1 H Q h))
theorem fold_pinfoldlaw11_MeanSays (ext : CallT) (x0 x1 x2 x3 : Value) (H : AH) (Q : Value → AH → Prop) (h : F.pinfoldlaw11_MeanSays (sy (CallW Try.prog kps ext)) x0 x1 x2 x3 H Q) : CallW Try.prog kps ext 10 [x0, x1, x2, x3] H Q :=
  CallW.fold (⟨Try.func10, by kernel_rfl, by kernel_rfl, by kernel_rfl⟩ : Go.AM.Good Try.prog 10 Try.f10) (Eq.mpr (by kernel_rfl : evBody Try.prog (CallW Try.prog kps ext) (kps 10) Try.f10 [x0, x1, x2, x3] H Q = evBody Try.prog (CallW Try.prog kps ext) kp.pinfoldlaw11_MeanSays Try.f10 [x0, x1, x2, x3] H Q) (L.pinfoldlaw11_MeanSays (CallW Try.prog kps ext) x0 x1 x2 x3 H Q h))
theorem fold_pinfoldlaw11_MeanNarrows (ext : CallT) (x0 x1 x2 x3 : Value) (H : AH) (Q : Value → AH → Prop) (h : F.pinfoldlaw11_MeanNarrows (sy (CallW Try.prog kps ext)) x0 x1 x2 x3 H Q) : CallW Try.prog kps ext 11 [x0, x1, x2, x3] H Q :=
  CallW.fold (⟨Try.func11, by kernel_rfl, by kernel_rfl, by kernel_rfl⟩ : Go.AM.Good Try.prog 11 Try.f11) (Eq.mpr (by kernel_rfl : evBody Try.prog (CallW Try.prog kps ext) (kps 11) Try.f11 [x0, x1, x2, x3] H Q = evBody Try.prog (CallW Try.prog kps ext) kp.pinfoldlaw11_MeanNarrows Try.f11 [x0, x1, x2, x3] H Q) (L.pinfoldlaw11_MeanNarrows (CallW Try.prog kps ext) x0 x1 x2 x3 H Q h))
theorem fold_pinfoldlaw11_MeanAll (ext : CallT) (x0 x1 x2 x3 : Value) (H : AH) (Q : Value → AH → Prop) (h : F.pinfoldlaw11_MeanAll (sy (CallW Try.prog kps ext)) x0 x1 x2 x3 H Q) : CallW Try.prog kps ext 12 [x0, x1, x2, x3] H Q :=
  CallW.fold (⟨Try.func12, by kernel_rfl, by kernel_rfl, by kernel_rfl⟩ : Go.AM.Good Try.prog 12 Try.f12) (Eq.mpr (by kernel_rfl : evBody Try.prog (CallW Try.prog kps ext) (kps 12) Try.f12 [x0, x1, x2, x3] H Q = evBody Try.prog (CallW Try.prog kps ext) kp.pinfoldlaw11_MeanAll Try.f12 [x0, x1, x2, x3] H Q) (L.pinfoldlaw11_MeanAll (CallW Try.prog kps ext) x0 x1 x2 x3 H Q h))
theorem fold_pinfoldlaw11_MeanSpeaks (ext : CallT) (x0 x1 x2 x3 : Value) (H : AH) (Q : Value → AH → Prop) (h : F.pinfoldlaw11_MeanSpeaks (sy (CallW Try.prog kps ext)) x0 x1 x2 x3 H Q) : CallW Try.prog kps ext 13 [x0, x1, x2, x3] H Q :=
  CallW.fold (⟨Try.func13, by kernel_rfl, by kernel_rfl, by kernel_rfl⟩ : Go.AM.Good Try.prog 13 Try.f13) (Eq.mpr (by kernel_rfl : evBody Try.prog (CallW Try.prog kps ext) (kps 13) Try.f13 [x0, x1, x2, x3] H Q = evBody Try.prog (CallW Try.prog kps ext) kp.pinfoldlaw11_MeanSpeaks Try.f13 [x0, x1, x2, x3] H Q) (L.pinfoldlaw11_MeanSpeaks (CallW Try.prog kps ext) x0 x1 x2 x3 H Q h))
theorem fold_pinfoldlaw04_Awake (ext : CallT) (H : AH) (Q : Value → AH → Prop) (h : F.pinfoldlaw04_Awake (sy (CallW Try.prog kps ext)) H Q) : CallW Try.prog kps ext 14 [] H Q :=
  CallW.fold (⟨Try.func14, by kernel_rfl, by kernel_rfl, by kernel_rfl⟩ : Go.AM.Good Try.prog 14 Try.f14) (Eq.mpr (by kernel_rfl : evBody Try.prog (CallW Try.prog kps ext) (kps 14) Try.f14 [] H Q = evBody Try.prog (CallW Try.prog kps ext) kp.pinfoldlaw04_Awake Try.f14 [] H Q) (L.pinfoldlaw04_Awake (CallW Try.prog kps ext) H Q h))
theorem fold_pinfoldlaw04_RecordOrder_1 (ext : CallT) (x0 : Value) (H : AH) (Q : Value → AH → Prop) (h : F.pinfoldlaw04_RecordOrder_1 (sy (CallW Try.prog kps ext)) x0 H Q) : CallW Try.prog kps ext 15 [x0] H Q :=
  CallW.fold (⟨Try.func15, by kernel_rfl, by kernel_rfl, by kernel_rfl⟩ : Go.AM.Good Try.prog 15 Try.f15) (Eq.mpr (by kernel_rfl : evBody Try.prog (CallW Try.prog kps ext) (kps 15) Try.f15 [x0] H Q = evBody Try.prog (CallW Try.prog kps ext) kp.pinfoldlaw04_RecordOrder_1 Try.f15 [x0] H Q) (L.pinfoldlaw04_RecordOrder_1 (CallW Try.prog kps ext) x0 H Q h))
theorem fold_record_Stronger (ext : CallT) (x0 x1 : Value) (H : AH) (Q : Value → AH → Prop) (h : F.record_Stronger (sy (CallW Try.prog kps ext)) x0 x1 H Q) : CallW Try.prog kps ext 16 [x0, x1] H Q :=
  CallW.fold (⟨Try.func16, by kernel_rfl, by kernel_rfl, by kernel_rfl⟩ : Go.AM.Good Try.prog 16 Try.f16) (Eq.mpr (by kernel_rfl : evBody Try.prog (CallW Try.prog kps ext) (kps 16) Try.f16 [x0, x1] H Q = evBody Try.prog (CallW Try.prog kps ext) kp.record_Stronger Try.f16 [x0, x1] H Q) (L.record_Stronger (CallW Try.prog kps ext) x0 x1 H Q h))
theorem fold_record_Action_Kind (ext : CallT) (x0 : Value) (H : AH) (Q : Value → AH → Prop) (h : F.record_Action_Kind (sy (CallW Try.prog kps ext)) x0 H Q) : CallW Try.prog kps ext 17 [x0] H Q :=
  CallW.fold (⟨Try.func17, by kernel_rfl, by kernel_rfl, by kernel_rfl⟩ : Go.AM.Good Try.prog 17 Try.f17) (Eq.mpr (by kernel_rfl : evBody Try.prog (CallW Try.prog kps ext) (kps 17) Try.f17 [x0] H Q = evBody Try.prog (CallW Try.prog kps ext) kp.record_Action_Kind Try.f17 [x0] H Q) (L.record_Action_Kind (CallW Try.prog kps ext) x0 H Q h))
theorem fold_pinfoldlaw03_Awake (ext : CallT) (H : AH) (Q : Value → AH → Prop) (h : F.pinfoldlaw03_Awake (sy (CallW Try.prog kps ext)) H Q) : CallW Try.prog kps ext 18 [] H Q :=
  CallW.fold (⟨Try.func18, by kernel_rfl, by kernel_rfl, by kernel_rfl⟩ : Go.AM.Good Try.prog 18 Try.f18) (Eq.mpr (by kernel_rfl : evBody Try.prog (CallW Try.prog kps ext) (kps 18) Try.f18 [] H Q = evBody Try.prog (CallW Try.prog kps ext) kp.pinfoldlaw03_Awake Try.f18 [] H Q) (L.pinfoldlaw03_Awake (CallW Try.prog kps ext) H Q h))
theorem fold_insn_Known (ext : CallT) (x0 : Value) (H : AH) (Q : Value → AH → Prop) (h : F.insn_Known (sy (CallW Try.prog kps ext)) x0 H Q) : CallW Try.prog kps ext 19 [x0] H Q :=
  CallW.fold (⟨Try.func19, by kernel_rfl, by kernel_rfl, by kernel_rfl⟩ : Go.AM.Good Try.prog 19 Try.f19) (Eq.mpr (by kernel_rfl : evBody Try.prog (CallW Try.prog kps ext) (kps 19) Try.f19 [x0] H Q = evBody Try.prog (CallW Try.prog kps ext) kp.insn_Known Try.f19 [x0] H Q) (L.insn_Known (CallW Try.prog kps ext) x0 H Q h))
theorem fold_pinfoldref03_Known (ext : CallT) (x0 : Value) (H : AH) (Q : Value → AH → Prop) (h : F.pinfoldref03_Known (sy (CallW Try.prog kps ext)) x0 H Q) : CallW Try.prog kps ext 20 [x0] H Q :=
  CallW.fold (⟨Try.func20, by kernel_rfl, by kernel_rfl, by kernel_rfl⟩ : Go.AM.Good Try.prog 20 Try.f20) (Eq.mpr (by kernel_rfl : evBody Try.prog (CallW Try.prog kps ext) (kps 20) Try.f20 [x0] H Q = evBody Try.prog (CallW Try.prog kps ext) kp.pinfoldref03_Known Try.f20 [x0] H Q) (L.pinfoldref03_Known (CallW Try.prog kps ext) x0 H Q h))
theorem fold_insn_Class (ext : CallT) (x0 : Value) (H : AH) (Q : Value → AH → Prop) (h : F.insn_Class (sy (CallW Try.prog kps ext)) x0 H Q) : CallW Try.prog kps ext 21 [x0] H Q :=
  CallW.fold (⟨Try.func21, by kernel_rfl, by kernel_rfl, by kernel_rfl⟩ : Go.AM.Good Try.prog 21 Try.f21) (Eq.mpr (by kernel_rfl : evBody Try.prog (CallW Try.prog kps ext) (kps 21) Try.f21 [x0] H Q = evBody Try.prog (CallW Try.prog kps ext) kp.insn_Class Try.f21 [x0] H Q) (L.insn_Class (CallW Try.prog kps ext) x0 H Q h))
theorem fold_record_Fail (ext : CallT) (x0 : Value) (H : AH) (Q : Value → AH → Prop) (h : F.record_Fail (sy (CallW Try.prog kps ext)) x0 H Q) : CallW Try.prog kps ext 22 [x0] H Q :=
  CallW.fold (⟨Try.func22, by kernel_rfl, by kernel_rfl, by kernel_rfl⟩ : Go.AM.Good Try.prog 22 Try.f22) (Eq.mpr (by kernel_rfl : evBody Try.prog (CallW Try.prog kps ext) (kps 22) Try.f22 [x0] H Q = evBody Try.prog (CallW Try.prog kps ext) kp.record_Fail Try.f22 [x0] H Q) (L.record_Fail (CallW Try.prog kps ext) x0 H Q h))
theorem fold_pinfoldref03_Strength (ext : CallT) (x0 : Value) (H : AH) (Q : Value → AH → Prop) (h : F.pinfoldref03_Strength (sy (CallW Try.prog kps ext)) x0 H Q) : CallW Try.prog kps ext 23 [x0] H Q :=
  CallW.fold (⟨Try.func23, by kernel_rfl, by kernel_rfl, by kernel_rfl⟩ : Go.AM.Good Try.prog 23 Try.f23) (Eq.mpr (by kernel_rfl : evBody Try.prog (CallW Try.prog kps ext) (kps 23) Try.f23 [x0] H Q = evBody Try.prog (CallW Try.prog kps ext) kp.pinfoldref03_Strength Try.f23 [x0] H Q) (L.pinfoldref03_Strength (CallW Try.prog kps ext) x0 H Q h))
theorem fold_record_Action_Number (ext : CallT) (x0 : Value) (H : AH) (Q : Value → AH → Prop) (h : F.record_Action_Number (sy (CallW Try.prog kps ext)) x0 H Q) : CallW Try.prog kps ext 24 [x0] H Q :=
  CallW.fold (⟨Try.func24, by kernel_rfl, by kernel_rfl, by kernel_rfl⟩ : Go.AM.Good Try.prog 24 Try.f24) (Eq.mpr (by kernel_rfl : evBody Try.prog (CallW Try.prog kps ext) (kps 24) Try.f24 [x0] H Q = evBody Try.prog (CallW Try.prog kps ext) kp.record_Action_Number Try.f24 [x0] H Q) (L.record_Action_Number (CallW Try.prog kps ext) x0 H Q h))
theorem fold_pinfoldref03_Stronger (ext : CallT) (x0 x1 : Value) (H : AH) (Q : Value → AH → Prop) (h : F.pinfoldref03_Stronger (sy (CallW Try.prog kps ext)) x0 x1 H Q) : CallW Try.prog kps ext 25 [x0, x1] H Q :=
  CallW.fold (⟨Try.func25, by kernel_rfl, by kernel_rfl, by kernel_rfl⟩ : Go.AM.Good Try.prog 25 Try.f25) (Eq.mpr (by kernel_rfl : evBody Try.prog (CallW Try.prog kps ext) (kps 25) Try.f25 [x0, x1] H Q = evBody Try.prog (CallW Try.prog kps ext) kp.pinfoldref03_Stronger Try.f25 [x0, x1] H Q) (L.pinfoldref03_Stronger (CallW Try.prog kps ext) x0 x1 H Q h))
theorem fold_insn_Load (ext : CallT) (x0 : Value) (H : AH) (Q : Value → AH → Prop) (h : F.insn_Load (sy (CallW Try.prog kps ext)) x0 H Q) : CallW Try.prog kps ext 26 [x0] H Q :=
  CallW.fold (⟨Try.func26, by kernel_rfl, by kernel_rfl, by kernel_rfl⟩ : Go.AM.Good Try.prog 26 Try.f26) (Eq.mpr (by kernel_rfl : evBody Try.prog (CallW Try.prog kps ext) (kps 26) Try.f26 [x0] H Q = evBody Try.prog (CallW Try.prog kps ext) kp.insn_Load Try.f26 [x0] H Q) (L.insn_Load (CallW Try.prog kps ext) x0 H Q h))
theorem fold_insn_Return (ext : CallT) (x0 : Value) (H : AH) (Q : Value → AH → Prop) (h : F.insn_Return (sy (CallW Try.prog kps ext)) x0 H Q) : CallW Try.prog kps ext 27 [x0] H Q :=
  CallW.fold (⟨Try.func27, by kernel_rfl, by kernel_rfl, by kernel_rfl⟩ : Go.AM.Good Try.prog 27 Try.f27) (Eq.mpr (by kernel_rfl : evBody Try.prog (CallW Try.prog kps ext) (kps 27) Try.f27 [x0] H Q = evBody Try.prog (CallW Try.prog kps ext) kp.insn_Return Try.f27 [x0] H Q) (L.insn_Return (CallW Try.prog kps ext) x0 H Q h))
theorem fold_insn_Skip (ext : CallT) (x0 : Value) (H : AH) (Q : Value → AH → Prop) (h : F.insn_Skip (sy (CallW Try.prog kps ext)) x0 H Q) : CallW Try.prog kps ext 28 [x0] H Q :=
  CallW.fold (⟨Try.func28, by kernel_rfl, by kernel_rfl, by kernel_rfl⟩ : Go.AM.Good Try.prog 28 Try.f28) (Eq.mpr (by kernel_rfl : evBody Try.prog (CallW Try.prog kps ext) (kps 28) Try.f28 [x0] H Q = evBody Try.prog (CallW Try.prog kps ext) kp.insn_Skip Try.f28 [x0] H Q) (L.insn_Skip (CallW Try.prog kps ext) x0 H Q h))
theorem fold_insn_Mask (ext : CallT) (x0 : Value) (H : AH) (Q : Value → AH → Prop) (h : F.insn_Mask (sy (CallW Try.prog kps ext)) x0 H Q) : CallW Try.prog kps ext 29 [x0] H Q :=
  CallW.fold (⟨Try.func29, by kernel_rfl, by kernel_rfl, by kernel_rfl⟩ : Go.AM.Good Try.prog 29 Try.f29) (Eq.mpr (by kernel_rfl : evBody Try.prog (CallW Try.prog kps ext) (kps 29) Try.f29 [x0] H Q = evBody Try.prog (CallW Try.prog kps ext) kp.insn_Mask Try.f29 [x0] H Q) (L.insn_Mask (CallW Try.prog kps ext) x0 H Q h))
theorem fold_insn_If (ext : CallT) (x0 x1 x2 x3 : Value) (H : AH) (Q : Value → AH → Prop) (h : F.insn_If (sy (CallW Try.prog kps ext)) x0 x1 x2 x3 H Q) : CallW Try.prog kps ext 30 [x0, x1, x2, x3] H Q :=
  CallW.fold (⟨Try.func30, by kernel_rfl, by kernel_rfl, by kernel_rfl⟩ : Go.AM.Good Try.prog 30 Try.f30) (Eq.mpr (by kernel_rfl : evBody Try.prog (CallW Try.prog kps ext) (kps 30) Try.f30 [x0, x1, x2, x3] H Q = evBody Try.prog (CallW Try.prog kps ext) kp.insn_If Try.f30 [x0, x1, x2, x3] H Q) (L.insn_If (CallW Try.prog kps ext) x0 x1 x2 x3 H Q h))
theorem fold_insn_Insn_Bytes (ext : CallT) (x0 : Value) (H : AH) (Q : Value → AH → Prop) (h : F.insn_Insn_Bytes (sy (CallW Try.prog kps ext)) x0 H Q) : CallW Try.prog kps ext 31 [x0] H Q :=
  CallW.fold (⟨Try.func31, by kernel_rfl, by kernel_rfl, by kernel_rfl⟩ : Go.AM.Good Try.prog 31 Try.f31) (Eq.mpr (by kernel_rfl : evBody Try.prog (CallW Try.prog kps ext) (kps 31) Try.f31 [x0] H Q = evBody Try.prog (CallW Try.prog kps ext) kp.insn_Insn_Bytes Try.f31 [x0] H Q) (L.insn_Insn_Bytes (CallW Try.prog kps ext) x0 H Q h))
theorem fold_pinfoldlaw03_Ref (ext : CallT) (x0 : Value) (H : AH) (Q : Value → AH → Prop) (h : F.pinfoldlaw03_Ref (sy (CallW Try.prog kps ext)) x0 H Q) : CallW Try.prog kps ext 33 [x0] H Q :=
  CallW.fold (⟨Try.func33, by kernel_rfl, by kernel_rfl, by kernel_rfl⟩ : Go.AM.Good Try.prog 33 Try.f33) (Eq.mpr (by kernel_rfl : evBody Try.prog (CallW Try.prog kps ext) (kps 33) Try.f33 [x0] H Q = evBody Try.prog (CallW Try.prog kps ext) kp.pinfoldlaw03_Ref Try.f33 [x0] H Q) (L.pinfoldlaw03_Ref (CallW Try.prog kps ext) x0 H Q h))
theorem fold_pinfoldref03_Bytes (ext : CallT) (x0 : Value) (H : AH) (Q : Value → AH → Prop) (h : F.pinfoldref03_Bytes (sy (CallW Try.prog kps ext)) x0 H Q) : CallW Try.prog kps ext 32 [x0] H Q :=
  CallW.fold (⟨Try.func32, by kernel_rfl, by kernel_rfl, by kernel_rfl⟩ : Go.AM.Good Try.prog 32 Try.f32) (Eq.mpr (by kernel_rfl : evBody Try.prog (CallW Try.prog kps ext) (kps 32) Try.f32 [x0] H Q = evBody Try.prog (CallW Try.prog kps ext) kp.pinfoldref03_Bytes Try.f32 [x0] H Q) (L.pinfoldref03_Bytes (CallW Try.prog kps ext) x0 H Q h))
theorem fold_insn_Of (ext : CallT) (x0 : Value) (H : AH) (Q : Value → AH → Prop) (h : F.insn_Of (sy (CallW Try.prog kps ext)) x0 H Q) : CallW Try.prog kps ext 34 [x0] H Q :=
  CallW.fold (⟨Try.func34, by kernel_rfl, by kernel_rfl, by kernel_rfl⟩ : Go.AM.Good Try.prog 34 Try.f34) (Eq.mpr (by kernel_rfl : evBody Try.prog (CallW Try.prog kps ext) (kps 34) Try.f34 [x0] H Q = evBody Try.prog (CallW Try.prog kps ext) kp.insn_Of Try.f34 [x0] H Q) (L.insn_Of (CallW Try.prog kps ext) x0 H Q h))
theorem fold_insn_Encode (ext : CallT) (x0 : Value) (H : AH) (Q : Value → AH → Prop) (h : F.insn_Encode (sy (CallW Try.prog kps ext)) x0 H Q) : CallW Try.prog kps ext 35 [x0] H Q :=
  CallW.fold (⟨Try.func35, by kernel_rfl, by kernel_rfl, by kernel_rfl⟩ : Go.AM.Good Try.prog 35 Try.f35) (Eq.mpr (by kernel_rfl : evBody Try.prog (CallW Try.prog kps ext) (kps 35) Try.f35 [x0] H Q = evBody Try.prog (CallW Try.prog kps ext) kp.insn_Encode Try.f35 [x0] H Q) (L.insn_Encode (CallW Try.prog kps ext) x0 H Q h))
theorem fold_insn_Decode (ext : CallT) (x0 : Value) (H : AH) (Q : Value → AH → Prop) (h : F.insn_Decode (sy (CallW Try.prog kps ext)) x0 H Q) : CallW Try.prog kps ext 36 [x0] H Q :=
  CallW.fold (⟨Try.func36, by kernel_rfl, by kernel_rfl, by kernel_rfl⟩ : Go.AM.Good Try.prog 36 Try.f36) (Eq.mpr (by kernel_rfl : evBody Try.prog (CallW Try.prog kps ext) (kps 36) Try.f36 [x0] H Q = evBody Try.prog (CallW Try.prog kps ext) kp.insn_Decode Try.f36 [x0] H Q) (L.insn_Decode (CallW Try.prog kps ext) x0 H Q h))
theorem fold_pinfoldlaw03_same (ext : CallT) (x0 x1 : Value) (H : AH) (Q : Value → AH → Prop) (h : F.pinfoldlaw03_same (sy (CallW Try.prog kps ext)) x0 x1 H Q) : CallW Try.prog kps ext 37 [x0, x1] H Q :=
  CallW.fold (⟨Try.func37, by kernel_rfl, by kernel_rfl, by kernel_rfl⟩ : Go.AM.Good Try.prog 37 Try.f37) (Eq.mpr (by kernel_rfl : evBody Try.prog (CallW Try.prog kps ext) (kps 37) Try.f37 [x0, x1] H Q = evBody Try.prog (CallW Try.prog kps ext) kp.pinfoldlaw03_same Try.f37 [x0, x1] H Q) (L.pinfoldlaw03_same (CallW Try.prog kps ext) x0 x1 H Q h))
theorem fold_record_Record_Bytes (ext : CallT) (x0 : Value) (H : AH) (Q : Value → AH → Prop) (h : F.record_Record_Bytes (sy (CallW Try.prog kps ext)) x0 H Q) : CallW Try.prog kps ext 38 [x0] H Q :=
  CallW.fold (⟨Try.func38, by kernel_rfl, by kernel_rfl, by kernel_rfl⟩ : Go.AM.Good Try.prog 38 Try.f38) (Eq.mpr (by kernel_rfl : evBody Try.prog (CallW Try.prog kps ext) (kps 38) Try.f38 [x0] H Q = evBody Try.prog (CallW Try.prog kps ext) kp.record_Record_Bytes Try.f38 [x0] H Q) (L.record_Record_Bytes (CallW Try.prog kps ext) x0 H Q h))
theorem fold_pinfoldlaw04_Ref (ext : CallT) (x0 : Value) (H : AH) (Q : Value → AH → Prop) (h : F.pinfoldlaw04_Ref (sy (CallW Try.prog kps ext)) x0 H Q) : CallW Try.prog kps ext 39 [x0] H Q :=
  CallW.fold (⟨Try.func39, by kernel_rfl, by kernel_rfl, by kernel_rfl⟩ : Go.AM.Good Try.prog 39 Try.f39) (Eq.mpr (by kernel_rfl : evBody Try.prog (CallW Try.prog kps ext) (kps 39) Try.f39 [x0] H Q = evBody Try.prog (CallW Try.prog kps ext) kp.pinfoldlaw04_Ref Try.f39 [x0] H Q) (L.pinfoldlaw04_Ref (CallW Try.prog kps ext) x0 H Q h))
theorem fold_record_Of (ext : CallT) (x0 : Value) (H : AH) (Q : Value → AH → Prop) (h : F.record_Of (sy (CallW Try.prog kps ext)) x0 H Q) : CallW Try.prog kps ext 40 [x0] H Q :=
  CallW.fold (⟨Try.func40, by kernel_rfl, by kernel_rfl, by kernel_rfl⟩ : Go.AM.Good Try.prog 40 Try.f40) (Eq.mpr (by kernel_rfl : evBody Try.prog (CallW Try.prog kps ext) (kps 40) Try.f40 [x0] H Q = evBody Try.prog (CallW Try.prog kps ext) kp.record_Of Try.f40 [x0] H Q) (L.record_Of (CallW Try.prog kps ext) x0 H Q h))
theorem fold_record_Record_Word (ext : CallT) (x0 x1 : Value) (H : AH) (Q : Value → AH → Prop) (h : F.record_Record_Word (sy (CallW Try.prog kps ext)) x0 x1 H Q) : CallW Try.prog kps ext 41 [x0, x1] H Q :=
  CallW.fold (⟨Try.func41, by kernel_rfl, by kernel_rfl, by kernel_rfl⟩ : Go.AM.Good Try.prog 41 Try.f41) (Eq.mpr (by kernel_rfl : evBody Try.prog (CallW Try.prog kps ext) (kps 41) Try.f41 [x0, x1] H Q = evBody Try.prog (CallW Try.prog kps ext) kp.record_Record_Word Try.f41 [x0, x1] H Q) (L.record_Record_Word (CallW Try.prog kps ext) x0 x1 H Q h))
theorem fold_record_Half (ext : CallT) (x0 x1 : Value) (H : AH) (Q : Value → AH → Prop) (h : F.record_Half (sy (CallW Try.prog kps ext)) x0 x1 H Q) : CallW Try.prog kps ext 42 [x0, x1] H Q :=
  CallW.fold (⟨Try.func42, by kernel_rfl, by kernel_rfl, by kernel_rfl⟩ : Go.AM.Good Try.prog 42 Try.f42) (Eq.mpr (by kernel_rfl : evBody Try.prog (CallW Try.prog kps ext) (kps 42) Try.f42 [x0, x1] H Q = evBody Try.prog (CallW Try.prog kps ext) kp.record_Half Try.f42 [x0, x1] H Q) (L.record_Half (CallW Try.prog kps ext) x0 x1 H Q h))
theorem fold_pinfoldlaw11_Awake (ext : CallT) (H : AH) (Q : Value → AH → Prop) (h : F.pinfoldlaw11_Awake (sy (CallW Try.prog kps ext)) H Q) : CallW Try.prog kps ext 43 [] H Q :=
  CallW.fold (⟨Try.func43, by kernel_rfl, by kernel_rfl, by kernel_rfl⟩ : Go.AM.Good Try.prog 43 Try.f43) (Eq.mpr (by kernel_rfl : evBody Try.prog (CallW Try.prog kps ext) (kps 43) Try.f43 [] H Q = evBody Try.prog (CallW Try.prog kps ext) kp.pinfoldlaw11_Awake Try.f43 [] H Q) (L.pinfoldlaw11_Awake (CallW Try.prog kps ext) H Q h))
theorem fold_pinfoldlaw09_Few (ext : CallT) (x0 : Value) (H : AH) (Q : Value → AH → Prop) (h : F.pinfoldlaw09_Few (sy (CallW Try.prog kps ext)) x0 H Q) : CallW Try.prog kps ext 44 [x0] H Q :=
  CallW.fold (⟨Try.func44, by kernel_rfl, by kernel_rfl, by kernel_rfl⟩ : Go.AM.Good Try.prog 44 Try.f44) (Eq.mpr (by kernel_rfl : evBody Try.prog (CallW Try.prog kps ext) (kps 44) Try.f44 [x0] H Q = evBody Try.prog (CallW Try.prog kps ext) kp.pinfoldlaw09_Few Try.f44 [x0] H Q) (L.pinfoldlaw09_Few (CallW Try.prog kps ext) x0 H Q h))
theorem fold_pinfoldlaw09_Small_Policy (ext : CallT) (x0 : Value) (H : AH) (Q : Value → AH → Prop) (h : F.pinfoldlaw09_Small_Policy (sy (CallW Try.prog kps ext)) x0 H Q) : CallW Try.prog kps ext 45 [x0] H Q :=
  CallW.fold (⟨Try.func45, by kernel_rfl, by kernel_rfl, by kernel_rfl⟩ : Go.AM.Good Try.prog 45 Try.f45) (Eq.mpr (by kernel_rfl : evBody Try.prog (CallW Try.prog kps ext) (kps 45) Try.f45 [x0] H Q = evBody Try.prog (CallW Try.prog kps ext) kp.pinfoldlaw09_Small_Policy Try.f45 [x0] H Q) (L.pinfoldlaw09_Small_Policy (CallW Try.prog kps ext) x0 H Q h))
theorem fold_pinfoldlaw09_Ref (ext : CallT) (x0 : Value) (H : AH) (Q : Value → AH → Prop) (h : F.pinfoldlaw09_Ref (sy (CallW Try.prog kps ext)) x0 H Q) : CallW Try.prog kps ext 46 [x0] H Q :=
  CallW.fold (⟨Try.func46, by kernel_rfl, by kernel_rfl, by kernel_rfl⟩ : Go.AM.Good Try.prog 46 Try.f46) (Eq.mpr (by kernel_rfl : evBody Try.prog (CallW Try.prog kps ext) (kps 46) Try.f46 [x0] H Q = evBody Try.prog (CallW Try.prog kps ext) kp.pinfoldlaw09_Ref Try.f46 [x0] H Q) (L.pinfoldlaw09_Ref (CallW Try.prog kps ext) x0 H Q h))
theorem fold_pinfoldlaw11_Records (ext : CallT) (x0 x1 x2 : Value) (H : AH) (Q : Value → AH → Prop) (h : F.pinfoldlaw11_Records (sy (CallW Try.prog kps ext)) x0 x1 x2 H Q) : CallW Try.prog kps ext 47 [x0, x1, x2] H Q :=
  CallW.fold (⟨Try.func47, by kernel_rfl, by kernel_rfl, by kernel_rfl⟩ : Go.AM.Good Try.prog 47 Try.f47) (Eq.mpr (by kernel_rfl : evBody Try.prog (CallW Try.prog kps ext) (kps 47) Try.f47 [x0, x1, x2] H Q = evBody Try.prog (CallW Try.prog kps ext) kp.pinfoldlaw11_Records Try.f47 [x0, x1, x2] H Q) (L.pinfoldlaw11_Records (CallW Try.prog kps ext) x0 x1 x2 H Q h))
theorem fold_mean_Matches (ext : CallT) (x0 x1 : Value) (H : AH) (Q : Value → AH → Prop) (h : F.mean_Matches (sy (CallW Try.prog kps ext)) x0 x1 H Q) : CallW Try.prog kps ext 48 [x0, x1] H Q :=
  CallW.fold (⟨Try.func48, by kernel_rfl, by kernel_rfl, by kernel_rfl⟩ : Go.AM.Good Try.prog 48 Try.f48) (Eq.mpr (by kernel_rfl : evBody Try.prog (CallW Try.prog kps ext) (kps 48) Try.f48 [x0, x1] H Q = evBody Try.prog (CallW Try.prog kps ext) kp.mean_Matches Try.f48 [x0, x1] H Q) (L.mean_Matches (CallW Try.prog kps ext) x0 x1 H Q h))
theorem fold_pinfoldlaw11_Ref (ext : CallT) (x0 : Value) (H : AH) (Q : Value → AH → Prop) (h : F.pinfoldlaw11_Ref (sy (CallW Try.prog kps ext)) x0 H Q) : CallW Try.prog kps ext 50 [x0] H Q :=
  CallW.fold (⟨Try.func50, by kernel_rfl, by kernel_rfl, by kernel_rfl⟩ : Go.AM.Good Try.prog 50 Try.f50) (Eq.mpr (by kernel_rfl : evBody Try.prog (CallW Try.prog kps ext) (kps 50) Try.f50 [x0] H Q = evBody Try.prog (CallW Try.prog kps ext) kp.pinfoldlaw11_Ref Try.f50 [x0] H Q) (L.pinfoldlaw11_Ref (CallW Try.prog kps ext) x0 H Q h))
theorem fold_pinfoldref09_Matches (ext : CallT) (x0 x1 : Value) (H : AH) (Q : Value → AH → Prop) (h : F.pinfoldref09_Matches (sy (CallW Try.prog kps ext)) x0 x1 H Q) : CallW Try.prog kps ext 49 [x0, x1] H Q :=
  CallW.fold (⟨Try.func49, by kernel_rfl, by kernel_rfl, by kernel_rfl⟩ : Go.AM.Good Try.prog 49 Try.f49) (Eq.mpr (by kernel_rfl : evBody Try.prog (CallW Try.prog kps ext) (kps 49) Try.f49 [x0, x1] H Q = evBody Try.prog (CallW Try.prog kps ext) kp.pinfoldref09_Matches Try.f49 [x0, x1] H Q) (L.pinfoldref09_Matches (CallW Try.prog kps ext) x0 x1 H Q h))
theorem fold_mean_Holds (ext : CallT) (x0 x1 : Value) (H : AH) (Q : Value → AH → Prop) (h : F.mean_Holds (sy (CallW Try.prog kps ext)) x0 x1 H Q) : CallW Try.prog kps ext 51 [x0, x1] H Q :=
  CallW.fold (⟨Try.func51, by kernel_rfl, by kernel_rfl, by kernel_rfl⟩ : Go.AM.Good Try.prog 51 Try.f51) (Eq.mpr (by kernel_rfl : evBody Try.prog (CallW Try.prog kps ext) (kps 51) Try.f51 [x0, x1] H Q = evBody Try.prog (CallW Try.prog kps ext) kp.mean_Holds Try.f51 [x0, x1] H Q) (L.mean_Holds (CallW Try.prog kps ext) x0 x1 H Q h))
theorem fold_pinfoldref09_Holds (ext : CallT) (x0 x1 : Value) (H : AH) (Q : Value → AH → Prop) (h : F.pinfoldref09_Holds (sy (CallW Try.prog kps ext)) x0 x1 H Q) : CallW Try.prog kps ext 52 [x0, x1] H Q :=
  CallW.fold (⟨Try.func52, by kernel_rfl, by kernel_rfl, by kernel_rfl⟩ : Go.AM.Good Try.prog 52 Try.f52) (Eq.mpr (by kernel_rfl : evBody Try.prog (CallW Try.prog kps ext) (kps 52) Try.f52 [x0, x1] H Q = evBody Try.prog (CallW Try.prog kps ext) kp.pinfoldref09_Holds Try.f52 [x0, x1] H Q) (L.pinfoldref09_Holds (CallW Try.prog kps ext) x0 x1 H Q h))
theorem fold_mean_Says (ext : CallT) (x0 x1 : Value) (H : AH) (Q : Value → AH → Prop) (h : F.mean_Says (sy (CallW Try.prog kps ext)) x0 x1 H Q) : CallW Try.prog kps ext 53 [x0, x1] H Q :=
  CallW.fold (⟨Try.func53, by kernel_rfl, by kernel_rfl, by kernel_rfl⟩ : Go.AM.Good Try.prog 53 Try.f53) (Eq.mpr (by kernel_rfl : evBody Try.prog (CallW Try.prog kps ext) (kps 53) Try.f53 [x0, x1] H Q = evBody Try.prog (CallW Try.prog kps ext) kp.mean_Says Try.f53 [x0, x1] H Q) (L.mean_Says (CallW Try.prog kps ext) x0 x1 H Q h))
theorem fold_pinfoldref09_Says (ext : CallT) (x0 x1 : Value) (H : AH) (Q : Value → AH → Prop) (h : F.pinfoldref09_Says (sy (CallW Try.prog kps ext)) x0 x1 H Q) : CallW Try.prog kps ext 54 [x0, x1] H Q :=
  CallW.fold (⟨Try.func54, by kernel_rfl, by kernel_rfl, by kernel_rfl⟩ : Go.AM.Good Try.prog 54 Try.f54) (Eq.mpr (by kernel_rfl : evBody Try.prog (CallW Try.prog kps ext) (kps 54) Try.f54 [x0, x1] H Q = evBody Try.prog (CallW Try.prog kps ext) kp.pinfoldref09_Says Try.f54 [x0, x1] H Q) (L.pinfoldref09_Says (CallW Try.prog kps ext) x0 x1 H Q h))
theorem fold_pinfoldlaw09_Cond_Cond (ext : CallT) (x0 : Value) (H : AH) (Q : Value → AH → Prop) (h : F.pinfoldlaw09_Cond_Cond (sy (CallW Try.prog kps ext)) x0 H Q) : CallW Try.prog kps ext 55 [x0] H Q :=
  CallW.fold (⟨Try.func55, by kernel_rfl, by kernel_rfl, by kernel_rfl⟩ : Go.AM.Good Try.prog 55 Try.f55) (Eq.mpr (by kernel_rfl : evBody Try.prog (CallW Try.prog kps ext) (kps 55) Try.f55 [x0] H Q = evBody Try.prog (CallW Try.prog kps ext) kp.pinfoldlaw09_Cond_Cond Try.f55 [x0] H Q) (L.pinfoldlaw09_Cond_Cond (CallW Try.prog kps ext) x0 H Q h))
theorem fold_mean_All (ext : CallT) (x0 x1 : Value) (H : AH) (Q : Value → AH → Prop) (h : F.mean_All (sy (CallW Try.prog kps ext)) x0 x1 H Q) : CallW Try.prog kps ext 56 [x0, x1] H Q :=
  CallW.fold (⟨Try.func56, by kernel_rfl, by kernel_rfl, by kernel_rfl⟩ : Go.AM.Good Try.prog 56 Try.f56) (Eq.mpr (by kernel_rfl : evBody Try.prog (CallW Try.prog kps ext) (kps 56) Try.f56 [x0, x1] H Q = evBody Try.prog (CallW Try.prog kps ext) kp.mean_All Try.f56 [x0, x1] H Q) (L.mean_All (CallW Try.prog kps ext) x0 x1 H Q h))
theorem fold_pinfoldref09_All (ext : CallT) (x0 x1 : Value) (H : AH) (Q : Value → AH → Prop) (h : F.pinfoldref09_All (sy (CallW Try.prog kps ext)) x0 x1 H Q) : CallW Try.prog kps ext 57 [x0, x1] H Q :=
  CallW.fold (⟨Try.func57, by kernel_rfl, by kernel_rfl, by kernel_rfl⟩ : Go.AM.Good Try.prog 57 Try.f57) (Eq.mpr (by kernel_rfl : evBody Try.prog (CallW Try.prog kps ext) (kps 57) Try.f57 [x0, x1] H Q = evBody Try.prog (CallW Try.prog kps ext) kp.pinfoldref09_All Try.f57 [x0, x1] H Q) (L.pinfoldref09_All (CallW Try.prog kps ext) x0 x1 H Q h))
theorem fold_mean_Speaks (ext : CallT) (x0 x1 : Value) (H : AH) (Q : Value → AH → Prop) (h : F.mean_Speaks (sy (CallW Try.prog kps ext)) x0 x1 H Q) : CallW Try.prog kps ext 58 [x0, x1] H Q :=
  CallW.fold (⟨Try.func58, by kernel_rfl, by kernel_rfl, by kernel_rfl⟩ : Go.AM.Good Try.prog 58 Try.f58) (Eq.mpr (by kernel_rfl : evBody Try.prog (CallW Try.prog kps ext) (kps 58) Try.f58 [x0, x1] H Q = evBody Try.prog (CallW Try.prog kps ext) kp.mean_Speaks Try.f58 [x0, x1] H Q) (L.mean_Speaks (CallW Try.prog kps ext) x0 x1 H Q h))
theorem fold_record_Action_strength (ext : CallT) (x0 : Value) (H : AH) (Q : Value → AH → Prop) (h : F.record_Action_strength (sy (CallW Try.prog kps ext)) x0 H Q) : CallW Try.prog kps ext 59 [x0] H Q :=
  CallW.fold (⟨Try.func59, by kernel_rfl, by kernel_rfl, by kernel_rfl⟩ : Go.AM.Good Try.prog 59 Try.f59) (Eq.mpr (by kernel_rfl : evBody Try.prog (CallW Try.prog kps ext) (kps 59) Try.f59 [x0] H Q = evBody Try.prog (CallW Try.prog kps ext) kp.record_Action_strength Try.f59 [x0] H Q) (L.record_Action_strength (CallW Try.prog kps ext) x0 H Q h))
theorem fold_record_put (ext : CallT) (x0 x1 x2 : Value) (H : AH) (Q : Value → AH → Prop) (h : F.record_put (sy (CallW Try.prog kps ext)) x0 x1 x2 H Q) : CallW Try.prog kps ext 60 [x0, x1, x2] H Q :=
  CallW.fold (⟨Try.func60, by kernel_rfl, by kernel_rfl, by kernel_rfl⟩ : Go.AM.Good Try.prog 60 Try.f60) (Eq.mpr (by kernel_rfl : evBody Try.prog (CallW Try.prog kps ext) (kps 60) Try.f60 [x0, x1, x2] H Q = evBody Try.prog (CallW Try.prog kps ext) kp.record_put Try.f60 [x0, x1, x2] H Q) (L.record_put (CallW Try.prog kps ext) x0 x1 x2 H Q h))
theorem fold_pinfoldref03_Of (ext : CallT) (x0 x1 x2 x3 : Value) (H : AH) (Q : Value → AH → Prop) (h : F.pinfoldref03_Of (sy (CallW Try.prog kps ext)) x0 x1 x2 x3 H Q) : CallW Try.prog kps ext 61 [x0, x1, x2, x3] H Q :=
  CallW.fold (⟨Try.func61, by kernel_rfl, by kernel_rfl, by kernel_rfl⟩ : Go.AM.Good Try.prog 61 Try.f61) (Eq.mpr (by kernel_rfl : evBody Try.prog (CallW Try.prog kps ext) (kps 61) Try.f61 [x0, x1, x2, x3] H Q = evBody Try.prog (CallW Try.prog kps ext) kp.pinfoldref03_Of Try.f61 [x0, x1, x2, x3] H Q) (L.pinfoldref03_Of (CallW Try.prog kps ext) x0 x1 x2 x3 H Q h))
theorem fold_record_take (ext : CallT) (x0 x1 : Value) (H : AH) (Q : Value → AH → Prop) (h : F.record_take (sy (CallW Try.prog kps ext)) x0 x1 H Q) : CallW Try.prog kps ext 62 [x0, x1] H Q :=
  CallW.fold (⟨Try.func62, by kernel_rfl, by kernel_rfl, by kernel_rfl⟩ : Go.AM.Good Try.prog 62 Try.f62) (Eq.mpr (by kernel_rfl : evBody Try.prog (CallW Try.prog kps ext) (kps 62) Try.f62 [x0, x1] H Q = evBody Try.prog (CallW Try.prog kps ext) kp.record_take Try.f62 [x0, x1] H Q) (L.record_take (CallW Try.prog kps ext) x0 x1 H Q h))
theorem fold_pinfoldref01_Calls (ext : CallT) (H : AH) (Q : Value → AH → Prop) (h : F.pinfoldref01_Calls (sy (CallW Try.prog kps ext)) H Q) : CallW Try.prog kps ext 63 [] H Q :=
  CallW.fold (⟨Try.func63, by kernel_rfl, by kernel_rfl, by kernel_rfl⟩ : Go.AM.Good Try.prog 63 Try.f63) (Eq.mpr (by kernel_rfl : evBody Try.prog (CallW Try.prog kps ext) (kps 63) Try.f63 [] H Q = evBody Try.prog (CallW Try.prog kps ext) kp.pinfoldref01_Calls Try.f63 [] H Q) (L.pinfoldref01_Calls (CallW Try.prog kps ext) H Q h))
theorem fold_pinfoldlaw09_Action (ext : CallT) (x0 x1 : Value) (H : AH) (Q : Value → AH → Prop) (h : F.pinfoldlaw09_Action (sy (CallW Try.prog kps ext)) x0 x1 H Q) : CallW Try.prog kps ext 64 [x0, x1] H Q :=
  CallW.fold (⟨Try.func64, by kernel_rfl, by kernel_rfl, by kernel_rfl⟩ : Go.AM.Good Try.prog 64 Try.f64) (Eq.mpr (by kernel_rfl : evBody Try.prog (CallW Try.prog kps ext) (kps 64) Try.f64 [x0, x1] H Q = evBody Try.prog (CallW Try.prog kps ext) kp.pinfoldlaw09_Action Try.f64 [x0, x1] H Q) (L.pinfoldlaw09_Action (CallW Try.prog kps ext) x0 x1 H Q h))
theorem fold_pinfoldlaw09_Small_Policy_1 (ext : CallT) (x0 x1 x2 x3 : Value) (H : AH) (Q : Value → AH → Prop) (h : F.pinfoldlaw09_Small_Policy_1 (sy (CallW Try.prog kps ext)) x0 x1 x2 x3 H Q) : CallW Try.prog kps ext 65 [x0, x1, x2, x3] H Q :=
  CallW.fold (⟨Try.func65, by kernel_rfl, by kernel_rfl, by kernel_rfl⟩ : Go.AM.Good Try.prog 65 Try.f65) (Eq.mpr (by kernel_rfl : evBody Try.prog (CallW Try.prog kps ext) (kps 65) Try.f65 [x0, x1, x2, x3] H Q = evBody Try.prog (CallW Try.prog kps ext) kp.pinfoldlaw09_Small_Policy_1 Try.f65 [x0, x1, x2, x3] H Q) (L.pinfoldlaw09_Small_Policy_1 (CallW Try.prog kps ext) x0 x1 x2 x3 H Q h))
theorem fold_pinfoldlaw09_Dirs (ext : CallT) (H : AH) (Q : Value → AH → Prop) (h : F.pinfoldlaw09_Dirs (sy (CallW Try.prog kps ext)) H Q) : CallW Try.prog kps ext 66 [] H Q :=
  CallW.fold (⟨Try.func66, by kernel_rfl, by kernel_rfl, by kernel_rfl⟩ : Go.AM.Good Try.prog 66 Try.f66) (Eq.mpr (by kernel_rfl : evBody Try.prog (CallW Try.prog kps ext) (kps 66) Try.f66 [] H Q = evBody Try.prog (CallW Try.prog kps ext) kp.pinfoldlaw09_Dirs Try.f66 [] H Q) (L.pinfoldlaw09_Dirs (CallW Try.prog kps ext) H Q h))
theorem fold_pinfoldlaw09_RefCond (ext : CallT) (x0 : Value) (H : AH) (Q : Value → AH → Prop) (h : F.pinfoldlaw09_RefCond (sy (CallW Try.prog kps ext)) x0 H Q) : CallW Try.prog kps ext 67 [x0] H Q :=
  CallW.fold (⟨Try.func67, by kernel_rfl, by kernel_rfl, by kernel_rfl⟩ : Go.AM.Good Try.prog 67 Try.f67) (Eq.mpr (by kernel_rfl : evBody Try.prog (CallW Try.prog kps ext) (kps 67) Try.f67 [x0] H Q = evBody Try.prog (CallW Try.prog kps ext) kp.pinfoldlaw09_RefCond Try.f67 [x0] H Q) (L.pinfoldlaw09_RefCond (CallW Try.prog kps ext) x0 H Q h))
theorem fold_pinfoldlaw09_values (ext : CallT) (H : AH) (Q : Value → AH → Prop) (h : F.pinfoldlaw09_values (sy (CallW Try.prog kps ext)) H Q) : CallW Try.prog kps ext 68 [] H Q :=
  CallW.fold (⟨Try.func68, by kernel_rfl, by kernel_rfl, by kernel_rfl⟩ : Go.AM.Good Try.prog 68 Try.f68) (Eq.mpr (by kernel_rfl : evBody Try.prog (CallW Try.prog kps ext) (kps 68) Try.f68 [] H Q = evBody Try.prog (CallW Try.prog kps ext) kp.pinfoldlaw09_values Try.f68 [] H Q) (L.pinfoldlaw09_values (CallW Try.prog kps ext) H Q h))
theorem fold (ext : CallT) : Go.AM.Fold (sy (CallW Try.prog kps ext)) where
  mono := CallW.mono
  pinfoldlaw04_RecordOrder := fold_pinfoldlaw04_RecordOrder ext
  pinfoldlaw03_InsnKnown := fold_pinfoldlaw03_InsnKnown ext
  pinfoldlaw04_RecordActions := fold_pinfoldlaw04_RecordActions ext
  pinfoldlaw03_InsnMakes := fold_pinfoldlaw03_InsnMakes ext
  pinfoldlaw03_InsnBytes := fold_pinfoldlaw03_InsnBytes ext
  pinfoldlaw04_RecordBytes := fold_pinfoldlaw04_RecordBytes ext
  pinfoldlaw04_RecordHalves := fold_pinfoldlaw04_RecordHalves ext
  pinfoldlaw11_MeanSays := fold_pinfoldlaw11_MeanSays ext
  pinfoldlaw11_MeanNarrows := fold_pinfoldlaw11_MeanNarrows ext
  pinfoldlaw11_MeanAll := fold_pinfoldlaw11_MeanAll ext
  pinfoldlaw11_MeanSpeaks := fold_pinfoldlaw11_MeanSpeaks ext
  pinfoldlaw04_Awake := fold_pinfoldlaw04_Awake ext
  pinfoldlaw04_RecordOrder_1 := fold_pinfoldlaw04_RecordOrder_1 ext
  record_Stronger := fold_record_Stronger ext
  record_Action_Kind := fold_record_Action_Kind ext
  pinfoldlaw03_Awake := fold_pinfoldlaw03_Awake ext
  insn_Known := fold_insn_Known ext
  pinfoldref03_Known := fold_pinfoldref03_Known ext
  insn_Class := fold_insn_Class ext
  record_Fail := fold_record_Fail ext
  pinfoldref03_Strength := fold_pinfoldref03_Strength ext
  record_Action_Number := fold_record_Action_Number ext
  pinfoldref03_Stronger := fold_pinfoldref03_Stronger ext
  insn_Load := fold_insn_Load ext
  insn_Return := fold_insn_Return ext
  insn_Skip := fold_insn_Skip ext
  insn_Mask := fold_insn_Mask ext
  insn_If := fold_insn_If ext
  insn_Insn_Bytes := fold_insn_Insn_Bytes ext
  pinfoldlaw03_Ref := fold_pinfoldlaw03_Ref ext
  pinfoldref03_Bytes := fold_pinfoldref03_Bytes ext
  insn_Of := fold_insn_Of ext
  insn_Encode := fold_insn_Encode ext
  insn_Decode := fold_insn_Decode ext
  pinfoldlaw03_same := fold_pinfoldlaw03_same ext
  record_Record_Bytes := fold_record_Record_Bytes ext
  pinfoldlaw04_Ref := fold_pinfoldlaw04_Ref ext
  record_Of := fold_record_Of ext
  record_Record_Word := fold_record_Record_Word ext
  record_Half := fold_record_Half ext
  pinfoldlaw11_Awake := fold_pinfoldlaw11_Awake ext
  pinfoldlaw09_Few := fold_pinfoldlaw09_Few ext
  pinfoldlaw09_Small_Policy := fold_pinfoldlaw09_Small_Policy ext
  pinfoldlaw09_Ref := fold_pinfoldlaw09_Ref ext
  pinfoldlaw11_Records := fold_pinfoldlaw11_Records ext
  mean_Matches := fold_mean_Matches ext
  pinfoldlaw11_Ref := fold_pinfoldlaw11_Ref ext
  pinfoldref09_Matches := fold_pinfoldref09_Matches ext
  mean_Holds := fold_mean_Holds ext
  pinfoldref09_Holds := fold_pinfoldref09_Holds ext
  mean_Says := fold_mean_Says ext
  pinfoldref09_Says := fold_pinfoldref09_Says ext
  pinfoldlaw09_Cond_Cond := fold_pinfoldlaw09_Cond_Cond ext
  mean_All := fold_mean_All ext
  pinfoldref09_All := fold_pinfoldref09_All ext
  mean_Speaks := fold_mean_Speaks ext
  record_Action_strength := fold_record_Action_strength ext
  record_put := fold_record_put ext
  pinfoldref03_Of := fold_pinfoldref03_Of ext
  record_take := fold_record_take ext
  pinfoldref01_Calls := fold_pinfoldref01_Calls ext
  pinfoldlaw09_Action := fold_pinfoldlaw09_Action ext
  pinfoldlaw09_Small_Policy_1 := fold_pinfoldlaw09_Small_Policy_1 ext
  pinfoldlaw09_Dirs := fold_pinfoldlaw09_Dirs ext
  pinfoldlaw09_RefCond := fold_pinfoldlaw09_RefCond ext
  pinfoldlaw09_values := fold_pinfoldlaw09_values ext
end Go.Proofs.Ytjpdppohflailaa
