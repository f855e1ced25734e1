/- THE FUNCTIONS, HELD AGAINST THE PROGRAM: written by program (gen2.py). -/
import Derived.Test.YtakplbkhbalfoaaIa238F
import Derived.Test.YtakplbkhbalfoaaProg
import Derived.KernelRfl
set_option linter.all false
set_option maxRecDepth 100000
set_option maxHeartbeats 4000000
namespace Go.Proofs.Ytakplbkhbalfoaa
open Go.AM
attribute [local irreducible] evD obls
def fidL : List Nat := [0, 0, 0, 0, 0, 0, 0, 0, 0, 0, 0, 0, 0, 0, 0, 0, 0, 0, 0, 0, 0, 0, 0, 0, 0, 0, 0, 0, 0, 0, 0, 0, 0, 0, 0, 0, 0, 0, 0, 0, 0, 0, 0, 0, 0, 0, 0, 0, 0, 0, 0, 0, 0, 0, 0, 0, 0, 0, 0, 0, 0, 0, 0, 0, 0, 0, 0, 0, 0, 0, 0, 0, 0, 0, 0, 0, 0, 0, 18, 0, 0, 0, 0, 0, 0, 0, 0, 0, 0, 0, 0, 0, 0, 0, 0, 0, 0, 0, 3, 9, 10, 11, 12, 14, 15, 13, 4, 16, 17, 5, 19, 20, 21, 22, 6, 23, 24, 25, 26, 27, 7, 28, 29, 30, 31, 32, 8, 33, 34, 35, 36, 37, 38, 39, 40, 41, 42, 43, 44, 47, 46, 48, 49, 50, 51, 52, 54, 53, 56, 57, 58, 59, 60, 61, 62, 63, 45, 65, 64, 66, 67, 55, 68, 69, 79, 80, 70, 71, 73, 76, 77, 78, 75, 74, 72, 81, 82, 84, 87, 88, 89, 86, 85, 83, 90, 91, 92, 94, 93, 95, 96, 98, 97, 99, 100, 101]
def tidL : List Nat := []
def sy (c : CallT) : Sy := { call := c, fid := fun n => fidL.getD n 0, tid := fun n => tidL.getD n 0 }
def kp.f31 : Keep := { keep := fun n => [[0], [0], [], [0], [], [0], [0, 3, 4], [3, 4, 21, 22, 23], [3, 4, 21, 22, 23], [3, 4, 5, 6, 21, 22, 23], [3, 4, 6, 21, 22, 23], [3, 4, 6, 21, 22, 23], [3, 4, 21, 22, 23], [3, 4], [3, 4, 36], [3, 4, 36], [3, 4, 7, 36], [3, 4, 7, 8, 36], [3, 4, 7, 8, 9, 36], [3, 4, 7, 8, 9, 36, 47, 48], [3, 4, 7, 8, 9, 36, 47, 48], [3, 4, 7, 8, 9, 10, 36, 47, 48], [3, 4, 7, 8, 9, 10, 36, 47, 48, 58, 59, 60], [3, 4, 7, 8, 9, 10, 36, 47, 48, 58, 59, 60], [3, 4, 7, 8, 9, 10, 12, 36, 47, 48, 58, 59, 60], [3, 4, 7, 8, 9, 10, 12, 36, 47, 48, 58, 59, 60], [], [3, 4, 7, 8, 9, 10, 36, 47, 48, 58, 59, 60], [3, 4, 7, 8, 9, 10, 36, 47, 48, 58, 59, 60], [3, 4, 7, 8, 9, 36, 47, 48], [3, 4, 7, 8, 9, 36], [3, 4, 7, 8, 9, 13, 36], [], [3, 4, 36], []].getD n [], order := fun n => [[], [], [], [], [], [], [], [], [], [], [], [], [], [], [], [], [], [], [], [], [], [], [], [], [], [(0, 0), (1, 0), (2, 2), (3, 7), (4, 15), (5, 31), (6, 31), (7, 127), (8, 255), (9, 511), (10, 1023), (11, 31), (12, 4095), (13, 8191), (14, 16383), (15, 32767), (16, 32767), (17, 131071), (18, 262143), (19, 524287), (20, 32767), (21, 1081343), (22, 4194303), (23, 8388607)]].getD n [] }
def pl.f31 (c : CallT) (Q : Value → AH → Prop) : Plan := [
  (265501286, fun S T H => F.f31_l4 (sy c) Q (S 2) (S 1) (T 3) (T 4) (T 7) (T 8) (T 9) (T 10) (T 36) (T 47) (T 48) (T 58) (T 59) (T 60) H (S 0)),
  (1037114, fun S T H => F.f31_l3 (sy c) Q (S 1) (T 3) (T 4) (T 7) (T 8) (T 9) (T 36) (T 47) (T 48) H (S 0)),
  (506, fun S T H => F.f31_l2 (sy c) Q (T 3) (T 4) (T 36) H (S 0)),
  (250, fun S T H => F.f31_l1 (sy c) Q (T 3) (T 4) (T 21) (T 22) (T 23) H (S 0))]
theorem L.f31 (c : CallT) (x0 : Value) (H : AH) (Q : Value → AH → Prop) (h : F.f31 (sy c) x0 H Q) : evBody Try.prog c kp.f31 Try.f8 [x0] H Q :=
  evBody_of (pl := pl.f31 c Q) Try.f8 _ H Q (bodyOf Try.f8) (by kernel_rfl) (by kernel_rfl) (by kernel_rfl) h

def kp.f29 : Keep := { keep := fun n => [[], [], [1], [1, 2, 3], [1, 2, 3, 4], [1, 2, 3, 4, 5], [2, 3, 4, 5, 6]].getD n [], order := fun n => [].getD n [] }
theorem L.f29 (c : CallT) (H : AH) (Q : Value → AH → Prop) (h : F.f29 (sy c) H Q) : evBody Try.prog c kp.f29 Try.f9 [] H Q :=
  evBody_of (pl := []) Try.f9 _ H Q (bodyOf Try.f9) (by kernel_rfl) (by kernel_rfl) (by kernel_rfl) h

def kp.f32 : Keep := { keep := fun n => [[0], [0], [0, 5, 6, 7], [0, 5, 6, 7], [0, 4, 5, 6, 7], [], [0, 5, 6, 7], [0]].getD n [], order := fun n => [].getD n [] }
def pl.f32 (c : CallT) (Q : Value → AH → Prop) : Plan := [
  (26, fun S T H => F.f32_l1 (sy c) Q (T 0) (T 5) (T 6) (T 7) H (S 0))]
theorem L.f32 (c : CallT) (x0 : Value) (H : AH) (Q : Value → AH → Prop) (h : F.f32 (sy c) x0 H Q) : evBody Try.prog c kp.f32 Try.f33 [x0] H Q :=
  evBody_of (pl := pl.f32 c Q) Try.f33 _ H Q (bodyOf Try.f33) (by kernel_rfl) (by kernel_rfl) (by kernel_rfl) h

def kp.f6 : Keep := { keep := fun n => [[0], [0], [3], [3]].getD n [], order := fun n => [].getD n [] }
theorem L.f6 (c : CallT) (x0 : Value) (H : AH) (Q : Value → AH → Prop) (h : F.f6 (sy c) x0 H Q) : evBody Try.prog c kp.f6 Try.f10 [x0] H Q :=
  evBody_of (pl := []) Try.f10 _ H Q (bodyOf Try.f10) (by kernel_rfl) (by kernel_rfl) (by kernel_rfl) h

def kp.f35 : Keep := { keep := fun n => [[0], [0]].getD n [], order := fun n => [].getD n [] }
theorem L.f35 (c : CallT) (x0 : Value) (H : AH) (Q : Value → AH → Prop) (h : F.f35 (sy c) x0 H Q) : evBody Try.prog c kp.f35 Try.f18 [x0] H Q :=
  evBody_of (pl := []) Try.f18 _ H Q (bodyOf Try.f18) (by kernel_rfl) (by kernel_rfl) (by kernel_rfl) h

def kp.f30 : Keep := { keep := fun n => [[0, 1, 2], [0, 1, 5], [0, 1, 5, 7, 8], [0, 1, 5, 7, 8, 9, 10], [0, 1, 5, 8, 10], [0, 1, 5, 7, 8, 9, 10], [0, 1, 5, 7, 8, 9, 10, 11, 12], [0, 1, 5, 7, 8, 9, 10, 11, 12, 13], [0, 1, 5, 7, 9, 11, 13], [0, 1, 5, 7, 9, 11, 14], [1, 5, 7, 9, 14, 15, 16], [15, 16, 17, 18], [0, 1, 5, 7, 8, 9, 10, 11, 12, 13], [0, 1, 7, 8, 9, 11, 12], [0, 1, 5, 7, 8, 9, 10, 11, 12, 13], [0, 1, 5, 7, 9, 11], [0, 1, 5, 7, 8, 9, 10, 11, 12, 13], [0, 1, 7, 8, 9, 10, 11, 12], [0, 1, 5, 7, 9, 11, 13], [0, 1, 5, 7, 11], [0, 1, 5, 7, 9, 11, 13], [0, 1, 5, 7, 11], [0, 1, 5, 7, 9, 11, 13], [0, 1, 5, 7, 11], [0, 1, 7, 9, 11], [1, 7, 9, 19, 20], [19, 20, 21, 22]].getD n [], order := fun n => [[], [(0, 0), (1, 1), (2, 3), (3, 7), (4, 0), (5, 16), (6, 48), (7, 112), (8, 15), (9, 511)], [(1, 0), (2, 2), (3, 6), (10, 0), (11, 1024), (12, 3072), (0, 0), (4, 1), (5, 17), (6, 63), (7, 127), (8, 255), (9, 17), (13, 529), (14, 8721), (15, 32273), (16, 65041), (17, 130577), (18, 9215), (19, 524287)], [], [(0, 0), (1, 1), (2, 0), (3, 4), (4, 12), (5, 3), (6, 63)], [], [], [], [], [], [], [], [], [], [], [(0, 0), (1, 0), (2, 0), (3, 0), (4, 8), (6, 0), (7, 0), (8, 0), (9, 0), (10, 512), (5, 31), (11, 2047), (12, 4095), (13, 8191)], [], [], [], [(0, 0), (1, 0), (2, 0), (3, 4), (5, 0), (6, 0), (7, 0), (8, 128), (4, 15), (9, 511), (10, 1023), (11, 2047)], [], [(0, 0), (1, 0), (2, 0), (3, 4), (4, 0), (5, 16), (7, 0), (8, 0), (9, 0), (10, 512), (11, 0), (12, 2048), (6, 63), (13, 8191), (14, 16383), (15, 32767)], [], [(0, 0), (1, 0), (2, 0), (3, 4), (5, 0), (6, 0), (7, 0), (8, 128), (4, 15), (9, 511), (10, 1023), (11, 2047)]].getD n [] }
def pl.f30 (c : CallT) (Q : Value → AH → Prop) : Plan := [
  (31, fun S T H => F.f30_j1 (sy c) Q (T 0) (T 1) (T 5) (T 7) (T 8) (T 9) (T 10) H)]
theorem L.f30 (c : CallT) (x0 x1 x2 : Value) (H : AH) (Q : Value → AH → Prop) (h : F.f30 (sy c) x0 x1 x2 H Q) : evBody Try.prog c kp.f30 Try.f34 [x0, x1, x2] H Q :=
  evBody_of (pl := pl.f30 c Q) Try.f34 _ H Q (bodyOf Try.f34) (by kernel_rfl) (by kernel_rfl) (by kernel_rfl) h

def kp.f17 : Keep := { keep := fun n => [[0, 1], [0, 1], [0, 1, 5], [0, 1, 5, 14, 15, 16], [0, 1, 5, 14, 15, 16], [0, 1, 5, 7, 14, 15, 16], [0, 1, 5, 7, 8, 14, 15, 16], [0, 1, 5, 7, 8, 14, 15, 16], [0, 1, 5, 7, 8, 9, 14, 15, 16], [0, 1, 5, 7, 8, 14, 15, 16, 37, 38, 39], [0, 1, 5, 7, 8, 14, 15, 16, 37, 38, 39], [0, 1, 5, 7, 8, 12, 14, 15, 16, 37, 38, 39], [0, 1, 5, 7, 8, 12, 14, 15, 16, 37, 38, 39], [0, 1, 5, 7, 8, 14, 15, 16, 37, 38, 39], [0, 1, 5, 14, 15, 16], [5]].getD n [], order := fun n => [].getD n [] }
def pl.f17 (c : CallT) (Q : Value → AH → Prop) : Plan := [
  (119614, fun S T H => F.f17_l2 (sy c) Q (S 1) (T 0) (T 1) (T 5) (T 7) (T 8) (T 14) (T 15) (T 16) (T 37) (T 38) (T 39) H (S 0)),
  (58, fun S T H => F.f17_l1 (sy c) Q (T 0) (T 1) (T 5) (T 14) (T 15) (T 16) H (S 0))]
theorem L.f17 (c : CallT) (x0 x1 : Value) (H : AH) (Q : Value → AH → Prop) (h : F.f17 (sy c) x0 x1 H Q) : evBody Try.prog c kp.f17 Try.f35 [x0, x1] H Q :=
  evBody_of (pl := pl.f17 c Q) Try.f35 _ H Q (bodyOf Try.f35) (by kernel_rfl) (by kernel_rfl) (by kernel_rfl) h

def kp.f11 : Keep := { keep := fun n => [[0, 1], [0, 1], [], [0, 1]].getD n [], order := fun n => [].getD n [] }
theorem L.f11 (c : CallT) (x0 x1 : Value) (H : AH) (Q : Value → AH → Prop) (h : F.f11 (sy c) x0 x1 H Q) : evBody Try.prog c kp.f11 Try.f15 [x0, x1] H Q :=
  evBody_of (pl := []) Try.f15 _ H Q (bodyOf Try.f15) (by kernel_rfl) (by kernel_rfl) (by kernel_rfl) h

def kp.f14 : Keep := { keep := fun n => [[0, 1, 2, 3, 4], [0, 1, 2, 3, 4], [0, 1, 2, 3, 4, 12, 13], [13], [0, 1, 2, 3, 4, 12], [], [0, 1, 2, 3, 4, 12], [], [0, 1, 2, 3, 4, 12], [], [0, 1, 2, 3, 4, 12], [], [0, 1, 2, 3, 4, 12], [0, 1, 2, 3, 4, 12, 14], [0, 1, 2, 3, 4, 12, 14], [0, 1, 2, 3, 4, 12, 14], [0, 1, 2, 3, 4, 12, 14, 15], [0, 1, 2, 4, 12, 14, 15, 80], [0, 1, 2, 12, 14, 15], [0, 2, 4, 12, 14, 15, 80], [0, 2, 4, 12, 14, 15], [0, 2, 12, 14, 15], [0, 2, 12, 14], [0, 14], [14]].getD n [], order := fun n => [[], [], [], [], [], [], [], [], [(0, 0), (1, 1), (2, 3), (3, 7), (4, 15), (5, 0), (6, 32), (7, 96), (8, 224), (9, 511), (10, 1023)]].getD n [] }
def pl.f14 (c : CallT) (Q : Value → AH → Prop) : Plan := [
  (255, fun S T H => F.f14_j1 (sy c) Q (T 0) (T 2) (T 12) (T 14) (T 15) H),
  (124, fun S T H => F.f14_l1 (sy c) Q (T 0) (T 1) (T 2) (T 3) (T 4) (T 12) (T 14) H (S 0))]
theorem L.f14 (c : CallT) (x0 x1 x2 x3 x4 : Value) (H : AH) (Q : Value → AH → Prop) (h : F.f14 (sy c) x0 x1 x2 x3 x4 H Q) : evBody Try.prog c kp.f14 Try.f11 [x0, x1, x2, x3, x4] H Q :=
  evBody_of (pl := pl.f14 c Q) Try.f11 _ H Q (bodyOf Try.f11) (by kernel_rfl) (by kernel_rfl) (by kernel_rfl) h

def kp.f7 : Keep := { keep := fun n => [[0, 1, 2, 3], [0, 1, 2, 3], [0, 1, 2, 3, 9], [0, 2, 3, 9, 10, 11], [], [0, 2, 3, 9, 10, 11], [], [0, 2, 3, 9, 10, 11], [11], [0, 2, 3, 9, 10], [], [0, 2, 3, 9, 10], [], [0, 2, 3, 9, 10], [0, 9], [0], []].getD n [], order := fun n => [].getD n [] }
theorem L.f7 (c : CallT) (x0 x1 x2 x3 : Value) (H : AH) (Q : Value → AH → Prop) (h : F.f7 (sy c) x0 x1 x2 x3 H Q) : evBody Try.prog c kp.f7 Try.f17 [x0, x1, x2, x3] H Q :=
  evBody_of (pl := []) Try.f17 _ H Q (bodyOf Try.f17) (by kernel_rfl) (by kernel_rfl) (by kernel_rfl) h

def kp.f9 : Keep := { keep := fun n => [[0, 1, 2, 3], [0, 1, 2, 3], [0, 1, 2, 3, 9, 10], [10], [0, 1, 2, 3, 9], [0, 1, 2, 3, 9, 11], [], [0, 1, 2, 3, 9, 11], [], [0, 1, 2, 3, 9, 11], [], [0, 1, 2, 9, 11], [0, 9, 11], [0, 9], [0, 9], []].getD n [], order := fun n => [].getD n [] }
theorem L.f9 (c : CallT) (x0 x1 x2 x3 : Value) (H : AH) (Q : Value → AH → Prop) (h : F.f9 (sy c) x0 x1 x2 x3 H Q) : evBody Try.prog c kp.f9 Try.f14 [x0, x1, x2, x3] H Q :=
  evBody_of (pl := []) Try.f14 _ H Q (bodyOf Try.f14) (by kernel_rfl) (by kernel_rfl) (by kernel_rfl) h

def kp.f33 : Keep := { keep := fun n => [[], []].getD n [], order := fun n => [].getD n [] }
theorem L.f33 (c : CallT) (H : AH) (Q : Value → AH → Prop) (h : F.f33 (sy c) H Q) : evBody Try.prog c kp.f33 Try.f57 [] H Q :=
  evBody_of (pl := []) Try.f57 _ H Q (bodyOf Try.f57) (by kernel_rfl) (by kernel_rfl) (by kernel_rfl) h

def kp.f42 : Keep := { keep := fun n => [[0, 1, 2, 3, 4], [0, 1, 2, 3, 4], [0, 1, 2, 3, 4, 12], [12], [0, 1, 2, 3, 4], [], [0, 1, 2, 3, 4], [], [0, 1, 2, 3, 4], [0, 1, 2, 3, 4, 13], [0, 1, 2, 3, 4, 13], [0, 1, 2, 3, 4, 13], [0, 1, 2, 3, 4, 13], [0, 1, 2, 3, 4, 13], [0, 1, 2, 3, 4, 13, 14], [0, 1, 2, 3, 4, 13, 14], [0, 1, 2, 3, 4, 13, 14], [0, 1, 2, 4, 13, 14], [0, 1, 2, 13, 14], [0, 1, 2, 13], [0, 13], [13]].getD n [], order := fun n => [[], [], [], [], [], [], [(0, 0), (2, 0), (3, 4), (4, 12), (5, 28), (1, 1), (6, 63), (7, 127), (8, 255), (9, 511), (10, 1023), (11, 2047), (12, 2047), (13, 8191), (14, 16383), (15, 32767), (16, 65535)], [], [], [], [], [], [], [], [], [], [], [], [(0, 0), (1, 1), (2, 3), (3, 7), (4, 0), (5, 0), (6, 63), (7, 127)], [(0, 0), (1, 1), (2, 3), (3, 7), (4, 0), (5, 0), (6, 32), (7, 96), (8, 224), (9, 0), (10, 992), (11, 2016), (12, 4064), (13, 0), (14, 0), (15, 24576), (16, 65504), (17, 131071), (18, 262143), (19, 524287)]].getD n [] }
def pl.f42 (c : CallT) (Q : Value → AH → Prop) : Plan := [
  (2047, fun S T H => F.f42_j3 (sy c) Q (T 0) (T 1) (T 2) (T 13) (T 14) H),
  (1023, fun S T H => F.f42_j2 (sy c) Q (T 0) (T 1) (T 2) (T 3) (T 4) (T 13) (T 14) H),
  (255, fun S T H => F.f42_j1 (sy c) Q (T 0) (T 1) (T 2) (T 3) (T 4) (T 13) H),
  (252, fun S T H => F.f42_l1 (sy c) Q (T 0) (T 1) (T 2) (T 3) (T 4) (T 13) H (S 0))]
theorem L.f42 (c : CallT) (x0 x1 x2 x3 x4 : Value) (H : AH) (Q : Value → AH → Prop) (h : F.f42 (sy c) x0 x1 x2 x3 x4 H Q) : evBody Try.prog c kp.f42 Try.f19 [x0, x1, x2, x3, x4] H Q :=
  evBody_of (pl := pl.f42 c Q) Try.f19 _ H Q (bodyOf Try.f19) (by kernel_rfl) (by kernel_rfl) (by kernel_rfl) h

def kp.f36 : Keep := { keep := fun n => [[0, 1, 2, 3], [0, 1, 2, 3], [0, 1, 2, 3, 9], [], [0, 1, 2, 3, 9], [], [0, 1, 2, 3, 9], [0, 1, 2, 3, 9, 10], [10], [0, 1, 2, 3, 9], [], [0, 1, 2, 3, 9], [], [0, 1, 2, 3, 9], [0, 9], [0], []].getD n [], order := fun n => [[], [], [], [], [], [], [], [], [], [], [], [], [], [(0, 0), (1, 1), (2, 3), (3, 7), (4, 0), (5, 0), (6, 32), (7, 96), (8, 224), (9, 0), (10, 992), (11, 2016), (12, 4064), (13, 0), (14, 0), (15, 24576), (16, 65504), (17, 131071), (18, 262143), (19, 524287)]].getD n [] }
theorem L.f36 (c : CallT) (x0 x1 x2 x3 : Value) (H : AH) (Q : Value → AH → Prop) (h : F.f36 (sy c) x0 x1 x2 x3 H Q) : evBody Try.prog c kp.f36 Try.f58 [x0, x1, x2, x3] H Q :=
  evBody_of (pl := []) Try.f58 _ H Q (bodyOf Try.f58) (by kernel_rfl) (by kernel_rfl) (by kernel_rfl) h

def kp.f38 : Keep := { keep := fun n => [[0, 1, 2, 3], [0, 1, 2, 3], [0, 1, 2, 3, 9, 10], [10], [0, 1, 2, 3, 9], [0, 1, 2, 3, 9, 11], [], [0, 1, 2, 3, 9, 11], [], [0, 1, 2, 3, 9, 11], [], [0, 1, 2, 9, 11], [0, 9, 11], [0, 9], [0, 9], []].getD n [], order := fun n => [[], [], [], [], [], [], [], [], [], [], [], [(0, 0), (1, 1), (2, 3), (3, 7), (4, 0), (5, 0), (6, 32), (7, 96), (8, 224), (9, 0), (10, 992), (11, 2016), (12, 4064), (13, 0), (14, 0), (16, 0), (15, 24576), (17, 122880), (18, 262112), (19, 524287), (20, 1048575), (21, 2097151)]].getD n [] }
theorem L.f38 (c : CallT) (x0 x1 x2 x3 : Value) (H : AH) (Q : Value → AH → Prop) (h : F.f38 (sy c) x0 x1 x2 x3 H Q) : evBody Try.prog c kp.f38 Try.f53 [x0, x1, x2, x3] H Q :=
  evBody_of (pl := []) Try.f53 _ H Q (bodyOf Try.f53) (by kernel_rfl) (by kernel_rfl) (by kernel_rfl) h

def kp.f15 : Keep := { keep := fun n => [[0, 1, 2, 3, 4], [0, 1, 2, 3, 4], [0, 1, 2, 3, 4, 11, 12], [12], [0, 1, 2, 3, 4, 11], [0, 1, 2, 3, 4, 11, 12, 13], [12], [0, 1, 2, 3, 4, 11, 13], [0, 1, 2, 3, 4, 11, 13, 14], [0, 1, 2, 3, 4, 11, 13, 14, 15, 16], [], [0, 1, 2, 3, 4, 11, 13, 14, 15, 16], [], [0, 1, 2, 3, 4, 11, 13, 14, 15, 16], [0, 1, 2, 3, 4, 11, 13, 14, 16, 17], [17], [0, 1, 2, 3, 4, 11, 13, 14, 16], [0, 1, 2, 3, 4, 11, 13, 14], [0, 1, 2, 3, 4, 11, 13, 14, 18], [18], [0, 1, 2, 3, 4, 11, 13, 14], [0, 3, 4, 11, 13, 14], [0, 3, 14], [0, 3, 14], [0], []].getD n [], order := fun n => [].getD n [] }
def pl.f15 (c : CallT) (Q : Value → AH → Prop) : Plan := [
  (32767, fun S T H => F.f15_j2 (sy c) Q (T 0) H),
  (4095, fun S T H => F.f15_j1 (sy c) Q (T 0) (T 1) (T 2) (T 3) (T 4) (T 11) (T 13) (T 14) H)]
theorem L.f15 (c : CallT) (x0 x1 x2 x3 x4 : Value) (H : AH) (Q : Value → AH → Prop) (h : F.f15 (sy c) x0 x1 x2 x3 x4 H Q) : evBody Try.prog c kp.f15 Try.f16 [x0, x1, x2, x3, x4] H Q :=
  evBody_of (pl := pl.f15 c Q) Try.f16 _ H Q (bodyOf Try.f16) (by kernel_rfl) (by kernel_rfl) (by kernel_rfl) h

def kp.f43 : Keep := { keep := fun n => [[0, 1, 2, 3, 4], [0, 1, 2, 3, 4], [0, 1, 2, 3, 4, 11, 12], [12], [0, 1, 2, 3, 4, 11], [0, 1, 2, 3, 4, 11, 13], [13], [0, 1, 2, 3, 4, 11], [0, 1, 2, 3, 4, 11, 14], [], [0, 1, 2, 3, 4, 11, 14], [], [0, 1, 2, 3, 4, 11, 14], [], [0, 1, 2, 3, 4, 11, 14], [], [0, 1, 2, 3, 4, 11, 14], [0, 1, 2, 3, 4, 11, 14, 15], [], [0, 1, 2, 3, 4, 11, 14, 15], [], [0, 1, 2, 3, 4, 11, 14, 15], [0, 1, 2, 3, 4, 11, 14, 15], [0, 1, 2, 3, 4, 11, 15, 16], [], [0, 1, 2, 3, 4, 11, 15, 16], [], [0, 1, 2, 3, 4, 11, 15, 16], [], [0, 1, 2, 3, 4, 11, 15], [0, 1, 2, 3, 4, 11, 15], [0, 3, 4, 11, 15], [0, 3, 11, 15], [0, 3, 11], [0], []].getD n [], order := fun n => [[], [], [], [], [], [], [], [], [], [], [], [], [], [], [], [], [], [], [], [], [], [], [], [], [], [], [], [], [], [], [(0, 0), (1, 1), (2, 3), (3, 7), (4, 0), (5, 0), (6, 32), (7, 96), (8, 224), (9, 0), (10, 992), (11, 2016), (12, 4064), (13, 0), (14, 0), (16, 0), (15, 24576), (17, 122880), (18, 262112), (19, 524287), (20, 1048575), (21, 2097151)], [(0, 0), (1, 1), (2, 3), (3, 7), (4, 0), (5, 0), (6, 32), (7, 96), (8, 224), (9, 0), (10, 992), (11, 2016), (12, 4064), (13, 0), (14, 0), (15, 24576), (16, 65504), (17, 131071), (18, 262143), (19, 524287)]].getD n [] }
def pl.f43 (c : CallT) (Q : Value → AH → Prop) : Plan := [
  (131071, fun S T H => F.f43_j2 (sy c) Q (T 0) H),
  (16383, fun S T H => F.f43_j1 (sy c) Q (T 0) (T 1) (T 2) (T 3) (T 4) (T 11) (T 15) H)]
theorem L.f43 (c : CallT) (x0 x1 x2 x3 x4 : Value) (H : AH) (Q : Value → AH → Prop) (h : F.f43 (sy c) x0 x1 x2 x3 x4 H Q) : evBody Try.prog c kp.f43 Try.f26 [x0, x1, x2, x3, x4] H Q :=
  evBody_of (pl := pl.f43 c Q) Try.f26 _ H Q (bodyOf Try.f26) (by kernel_rfl) (by kernel_rfl) (by kernel_rfl) h

def kp.f12 : Keep := { keep := fun n => [[0, 1, 2], [0, 1, 2], [0, 1, 2, 7], [], [0, 1, 2, 7], [], [0, 1, 2, 7], [7], [], [0, 1, 7], [0, 1], []].getD n [], order := fun n => [].getD n [] }
theorem L.f12 (c : CallT) (x0 x1 x2 : Value) (H : AH) (Q : Value → AH → Prop) (h : F.f12 (sy c) x0 x1 x2 H Q) : evBody Try.prog c kp.f12 Try.f12 [x0, x1, x2] H Q :=
  evBody_of (pl := []) Try.f12 _ H Q (bodyOf Try.f12) (by kernel_rfl) (by kernel_rfl) (by kernel_rfl) h

def kp.f39 : Keep := { keep := fun n => [[0, 1, 2], [0, 1, 2], [0, 1, 2, 7], [], [0, 1, 2, 7], [7], [], [0, 1, 7], [], [0, 1, 7], [0, 1], []].getD n [], order := fun n => [].getD n [] }
theorem L.f39 (c : CallT) (x0 x1 x2 : Value) (H : AH) (Q : Value → AH → Prop) (h : F.f39 (sy c) x0 x1 x2 H Q) : evBody Try.prog c kp.f39 Try.f59 [x0, x1, x2] H Q :=
  evBody_of (pl := []) Try.f59 _ H Q (bodyOf Try.f59) (by kernel_rfl) (by kernel_rfl) (by kernel_rfl) h

def kp.f19 : Keep := { keep := fun n => [[0, 1, 2, 3], [0, 1, 2, 3], [0, 2, 3, 9], [], [0, 2, 3, 9], [], [0, 2, 3, 9], [], [0, 2, 3, 9], [], [0, 2, 3, 9], [0, 2, 3, 9, 10], [0, 2, 3, 9, 10], [0, 9, 10], [0], []].getD n [], order := fun n => [].getD n [] }
theorem L.f19 (c : CallT) (x0 x1 x2 x3 : Value) (H : AH) (Q : Value → AH → Prop) (h : F.f19 (sy c) x0 x1 x2 x3 H Q) : evBody Try.prog c kp.f19 Try.f13 [x0, x1, x2, x3] H Q :=
  evBody_of (pl := []) Try.f13 _ H Q (bodyOf Try.f13) (by kernel_rfl) (by kernel_rfl) (by kernel_rfl) h

def kp.f46 : Keep := { keep := fun n => [[0, 1, 2, 3], [0, 1, 2, 3], [0, 2, 3, 9], [], [0, 2, 3, 9], [], [0, 2, 3, 9], [], [0, 2, 3, 9], [], [0, 2, 3, 9], [0, 2, 3, 9, 10], [0, 2, 3, 9, 10], [0, 2, 3, 9, 10], [0, 2, 3, 9, 10, 11], [0, 2, 3, 9, 10, 11], [0, 2, 3, 9, 10, 11], [0, 9, 10], [0], []].getD n [], order := fun n => [].getD n [] }
def pl.f46 (c : CallT) (Q : Value → AH → Prop) : Plan := [
  (4090, fun S T H => F.f46_l2 (sy c) Q (T 0) (T 2) (T 3) (T 9) (T 10) (T 11) H (S 0)),
  (1020, fun S T H => F.f46_l1 (sy c) Q (T 0) (T 2) (T 3) (T 9) (T 10) H (S 0))]
theorem L.f46 (c : CallT) (x0 x1 x2 x3 : Value) (H : AH) (Q : Value → AH → Prop) (h : F.f46 (sy c) x0 x1 x2 x3 H Q) : evBody Try.prog c kp.f46 Try.f60 [x0, x1, x2, x3] H Q :=
  evBody_of (pl := pl.f46 c Q) Try.f60 _ H Q (bodyOf Try.f60) (by kernel_rfl) (by kernel_rfl) (by kernel_rfl) h

def kp.f8 : Keep := { keep := fun n => [[0, 1, 2], [0, 1, 2], [0, 2, 7], [], [0, 2, 7], [], [0, 2, 7], [], [0, 2, 7], [], [0, 2, 7], [0, 7, 8], [0, 7, 8], [0], []].getD n [], order := fun n => [].getD n [] }
theorem L.f8 (c : CallT) (x0 x1 x2 : Value) (H : AH) (Q : Value → AH → Prop) (h : F.f8 (sy c) x0 x1 x2 H Q) : evBody Try.prog c kp.f8 Try.f32 [x0, x1, x2] H Q :=
  evBody_of (pl := []) Try.f32 _ H Q (bodyOf Try.f32) (by kernel_rfl) (by kernel_rfl) (by kernel_rfl) h

def kp.f37 : Keep := { keep := fun n => [[0, 1, 2], [0, 1, 2], [0, 2, 7], [], [0, 2, 7], [], [0, 2, 7], [], [0, 2, 7], [], [0, 2, 7], [0, 2, 7, 8], [0, 2, 7, 8], [0, 2, 7, 8], [0], []].getD n [], order := fun n => [].getD n [] }
def pl.f37 (c : CallT) (Q : Value → AH → Prop) : Plan := [
  (1020, fun S T H => F.f37_l1 (sy c) Q (T 0) (T 2) (T 7) (T 8) H (S 0))]
theorem L.f37 (c : CallT) (x0 x1 x2 : Value) (H : AH) (Q : Value → AH → Prop) (h : F.f37 (sy c) x0 x1 x2 H Q) : evBody Try.prog c kp.f37 Try.f61 [x0, x1, x2] H Q :=
  evBody_of (pl := pl.f37 c Q) Try.f61 _ H Q (bodyOf Try.f61) (by kernel_rfl) (by kernel_rfl) (by kernel_rfl) h

def kp.f13 : Keep := { keep := fun n => [[0, 1, 2], [0, 1, 2], [2, 8, 9], [9], [2, 8], [10, 11], [], [10]].getD n [], order := fun n => [].getD n [] }
theorem L.f13 (c : CallT) (x0 x1 x2 : Value) (H : AH) (Q : Value → AH → Prop) (h : F.f13 (sy c) x0 x1 x2 H Q) : evBody Try.prog c kp.f13 Try.f28 [x0, x1, x2] H Q :=
  evBody_of (pl := []) Try.f28 _ H Q (bodyOf Try.f28) (by kernel_rfl) (by kernel_rfl) (by kernel_rfl) h

def kp.f41 : Keep := { keep := fun n => [[0, 1, 2], [0, 1, 2], [0, 1, 2, 8], [8], [0, 1, 2], [2, 9], [9, 10], [], [9, 10]].getD n [], order := fun n => [].getD n [] }
theorem L.f41 (c : CallT) (x0 x1 x2 : Value) (H : AH) (Q : Value → AH → Prop) (h : F.f41 (sy c) x0 x1 x2 H Q) : evBody Try.prog c kp.f41 Try.f49 [x0, x1, x2] H Q :=
  evBody_of (pl := []) Try.f49 _ H Q (bodyOf Try.f49) (by kernel_rfl) (by kernel_rfl) (by kernel_rfl) h

def kp.f16 : Keep := { keep := fun n => [[0], [0], [], [0], [0, 3], [3, 11], [3, 11], [3, 4, 11], [3], [3]].getD n [], order := fun n => [].getD n [] }
def pl.f16 (c : CallT) (Q : Value → AH → Prop) : Plan := [
  (122, fun S T H => F.f16_l1 (sy c) Q (T 3) (T 11) H (S 0))]
theorem L.f16 (c : CallT) (x0 : Value) (H : AH) (Q : Value → AH → Prop) (h : F.f16 (sy c) x0 H Q) : evBody Try.prog c kp.f16 Try.f30 [x0] H Q :=
  evBody_of (pl := pl.f16 c Q) Try.f30 _ H Q (bodyOf Try.f30) (by kernel_rfl) (by kernel_rfl) (by kernel_rfl) h

def kp.f10 : Keep := { keep := fun n => [[0, 1], [0, 1], [6, 7], [7], [6], [6, 8], [8, 23], [8, 23], [8, 9, 23], [8], [8]].getD n [], order := fun n => [].getD n [] }
def pl.f10 (c : CallT) (Q : Value → AH → Prop) : Plan := [
  (250, fun S T H => F.f10_l1 (sy c) Q (T 8) (T 23) H (S 0))]
theorem L.f10 (c : CallT) (x0 x1 : Value) (H : AH) (Q : Value → AH → Prop) (h : F.f10 (sy c) x0 x1 H Q) : evBody Try.prog c kp.f10 Try.f20 [x0, x1] H Q :=
  evBody_of (pl := pl.f10 c Q) Try.f20 _ H Q (bodyOf Try.f20) (by kernel_rfl) (by kernel_rfl) (by kernel_rfl) h

def kp.f23 : Keep := { keep := fun n => [[0, 1, 2], [0, 1, 2], [2, 8, 9], [9], [2, 8], [], [2, 8], [8, 11], [], [8], [], [8], [], [8]].getD n [], order := fun n => [].getD n [] }
theorem L.f23 (c : CallT) (x0 x1 x2 : Value) (H : AH) (Q : Value → AH → Prop) (h : F.f23 (sy c) x0 x1 x2 H Q) : evBody Try.prog c kp.f23 Try.f36 [x0, x1, x2] H Q :=
  evBody_of (pl := []) Try.f36 _ H Q (bodyOf Try.f36) (by kernel_rfl) (by kernel_rfl) (by kernel_rfl) h

def kp.f20 : Keep := { keep := fun n => [[0, 1], [0, 1], [0, 1, 5], [0, 1, 5], [0, 1, 5], [5]].getD n [], order := fun n => [].getD n [] }
def pl.f20 (c : CallT) (Q : Value → AH → Prop) : Plan := [
  (28, fun S T H => F.f20_l1 (sy c) Q (T 0) (T 1) (T 5) H (S 0))]
theorem L.f20 (c : CallT) (x0 x1 : Value) (H : AH) (Q : Value → AH → Prop) (h : F.f20 (sy c) x0 x1 H Q) : evBody Try.prog c kp.f20 Try.f37 [x0, x1] H Q :=
  evBody_of (pl := pl.f20 c Q) Try.f37 _ H Q (bodyOf Try.f37) (by kernel_rfl) (by kernel_rfl) (by kernel_rfl) h

def kp.f88 : Keep := { keep := fun n => [[0, 1], [0, 1]].getD n [], order := fun n => [].getD n [] }
theorem L.f88 (c : CallT) (x0 x1 : Value) (H : AH) (Q : Value → AH → Prop) (h : F.f88 (sy c) x0 x1 H Q) : evBody Try.prog c kp.f88 Try.f38 [x0, x1] H Q :=
  evBody_of (pl := []) Try.f38 _ H Q (bodyOf Try.f38) (by kernel_rfl) (by kernel_rfl) (by kernel_rfl) h

def kp.f25 : Keep := { keep := fun n => [[0, 1], [0, 1, 4], [0, 1]].getD n [], order := fun n => [].getD n [] }
theorem L.f25 (c : CallT) (x0 x1 : Value) (H : AH) (Q : Value → AH → Prop) (h : F.f25 (sy c) x0 x1 H Q) : evBody Try.prog c kp.f25 Try.f39 [x0, x1] H Q :=
  evBody_of (pl := []) Try.f39 _ H Q (bodyOf Try.f39) (by kernel_rfl) (by kernel_rfl) (by kernel_rfl) h

def kp.f49 : Keep := { keep := fun n => [[0, 1, 2], [0, 1, 2], [0, 1, 2, 7], [7], [0, 1, 2], [2, 8], [], [2, 8], [], [8], [], [8], [], []].getD n [], order := fun n => [].getD n [] }
theorem L.f49 (c : CallT) (x0 x1 x2 : Value) (H : AH) (Q : Value → AH → Prop) (h : F.f49 (sy c) x0 x1 x2 H Q) : evBody Try.prog c kp.f49 Try.f42 [x0, x1, x2] H Q :=
  evBody_of (pl := []) Try.f42 _ H Q (bodyOf Try.f42) (by kernel_rfl) (by kernel_rfl) (by kernel_rfl) h

def kp.f40 : Keep := { keep := fun n => [[0], [0], [0, 3], [0, 3, 4], [0, 3, 4], [0, 3, 4], [0, 3, 4], [3]].getD n [], order := fun n => [].getD n [] }
def pl.f40 (c : CallT) (Q : Value → AH → Prop) : Plan := [
  (58, fun S T H => F.f40_l1 (sy c) Q (T 0) (T 3) (T 4) H (S 0))]
theorem L.f40 (c : CallT) (x0 : Value) (H : AH) (Q : Value → AH → Prop) (h : F.f40 (sy c) x0 H Q) : evBody Try.prog c kp.f40 Try.f23 [x0] H Q :=
  evBody_of (pl := pl.f40 c Q) Try.f23 _ H Q (bodyOf Try.f23) (by kernel_rfl) (by kernel_rfl) (by kernel_rfl) h

def kp.f47 : Keep := { keep := fun n => [[0, 1], [0, 1], [0, 1, 5], [0, 1, 5], [0, 1, 5], [5]].getD n [], order := fun n => [].getD n [] }
def pl.f47 (c : CallT) (Q : Value → AH → Prop) : Plan := [
  (28, fun S T H => F.f47_l1 (sy c) Q (T 0) (T 1) (T 5) H (S 0))]
theorem L.f47 (c : CallT) (x0 x1 : Value) (H : AH) (Q : Value → AH → Prop) (h : F.f47 (sy c) x0 x1 H Q) : evBody Try.prog c kp.f47 Try.f43 [x0, x1] H Q :=
  evBody_of (pl := pl.f47 c Q) Try.f43 _ H Q (bodyOf Try.f43) (by kernel_rfl) (by kernel_rfl) (by kernel_rfl) h

def kp.f53 : Keep := { keep := fun n => [[0, 1], [0, 3], [0, 3, 5], [0, 3, 5], [0, 3, 5]].getD n [], order := fun n => [[], [], [(0, 0), (1, 0), (2, 2), (3, 7), (4, 15), (5, 31), (6, 31), (7, 127), (8, 255), (9, 511), (10, 31), (11, 1055), (12, 4095), (13, 8191)], [], [(0, 0), (1, 0), (2, 0), (3, 6), (5, 0), (6, 32), (8, 0), (9, 0), (10, 768), (4, 15), (7, 127), (11, 2047), (12, 4095)]].getD n [] }
def pl.f53 (c : CallT) (Q : Value → AH → Prop) : Plan := [
  (28, fun S T H => F.f53_l1 (sy c) Q (T 0) (T 3) (T 5) H (S 0))]
theorem L.f53 (c : CallT) (x0 x1 : Value) (H : AH) (Q : Value → AH → Prop) (h : F.f53 (sy c) x0 x1 H Q) : evBody Try.prog c kp.f53 Try.f44 [x0, x1] H Q :=
  evBody_of (pl := pl.f53 c Q) Try.f44 _ H Q (bodyOf Try.f44) (by kernel_rfl) (by kernel_rfl) (by kernel_rfl) h

def kp.f44 : Keep := { keep := fun n => [[0, 1], [0, 1], [], [0, 1]].getD n [], order := fun n => [].getD n [] }
theorem L.f44 (c : CallT) (x0 x1 : Value) (H : AH) (Q : Value → AH → Prop) (h : F.f44 (sy c) x0 x1 H Q) : evBody Try.prog c kp.f44 Try.f48 [x0, x1] H Q :=
  evBody_of (pl := []) Try.f48 _ H Q (bodyOf Try.f48) (by kernel_rfl) (by kernel_rfl) (by kernel_rfl) h

def kp.f52 : Keep := { keep := fun n => [[0, 1], [0, 1], [0, 1, 5], [0, 1, 5], [0, 1, 5], [5], []].getD n [], order := fun n => [].getD n [] }
def pl.f52 (c : CallT) (Q : Value → AH → Prop) : Plan := [
  (26, fun S T H => F.f52_l1 (sy c) Q (T 0) (T 1) (T 5) H (S 0))]
theorem L.f52 (c : CallT) (x0 x1 : Value) (H : AH) (Q : Value → AH → Prop) (h : F.f52 (sy c) x0 x1 H Q) : evBody Try.prog c kp.f52 Try.f51 [x0, x1] H Q :=
  evBody_of (pl := pl.f52 c Q) Try.f51 _ H Q (bodyOf Try.f51) (by kernel_rfl) (by kernel_rfl) (by kernel_rfl) h

def kp.f54 : Keep := { keep := fun n => [[0, 1], [0, 1]].getD n [], order := fun n => [[], [(0, 0), (1, 0), (2, 0), (3, 6), (5, 0), (6, 0), (7, 64), (8, 224), (4, 15), (9, 511), (10, 1023)]].getD n [] }
theorem L.f54 (c : CallT) (x0 x1 : Value) (H : AH) (Q : Value → AH → Prop) (h : F.f54 (sy c) x0 x1 H Q) : evBody Try.prog c kp.f54 Try.f54 [x0, x1] H Q :=
  evBody_of (pl := []) Try.f54 _ H Q (bodyOf Try.f54) (by kernel_rfl) (by kernel_rfl) (by kernel_rfl) h

def kp.f51 : Keep := { keep := fun n => [[0, 1], [0, 1]].getD n [], order := fun n => [].getD n [] }
theorem L.f51 (c : CallT) (x0 x1 : Value) (H : AH) (Q : Value → AH → Prop) (h : F.f51 (sy c) x0 x1 H Q) : evBody Try.prog c kp.f51 Try.f67 [x0, x1] H Q :=
  evBody_of (pl := []) Try.f67 _ H Q (bodyOf Try.f67) (by kernel_rfl) (by kernel_rfl) (by kernel_rfl) h

def kp.f21 : Keep := { keep := fun n => [[0, 1], [0, 1], [6], [], [6], [], [6]].getD n [], order := fun n => [].getD n [] }
theorem L.f21 (c : CallT) (x0 x1 : Value) (H : AH) (Q : Value → AH → Prop) (h : F.f21 (sy c) x0 x1 H Q) : evBody Try.prog c kp.f21 Try.f40 [x0, x1] H Q :=
  evBody_of (pl := []) Try.f40 _ H Q (bodyOf Try.f40) (by kernel_rfl) (by kernel_rfl) (by kernel_rfl) h

def kp.f22 : Keep := { keep := fun n => [[0, 1, 2, 3, 4, 5], [0, 1, 2, 3, 4, 5], [], [0, 1, 2, 4, 5], [], [0, 1, 2, 4, 5], [], [0, 1, 2, 4, 5], [], [0, 1, 4, 5], [], [0, 1, 5], [1, 13], [], [1, 13], [], [13], [], []].getD n [], order := fun n => [[], [], [], [], [], [(0, 0), (1, 1), (2, 3), (3, 7), (4, 15), (5, 31), (6, 63), (7, 63), (8, 191), (9, 447), (10, 959), (11, 63), (12, 2111), (13, 6207), (14, 14399), (15, 32767), (16, 65535), (17, 131071)], [], [(0, 0), (1, 1), (2, 3), (3, 7), (4, 15), (5, 31), (6, 63), (7, 63), (8, 191), (9, 447), (10, 959), (12, 63), (13, 63), (14, 8255), (15, 24639), (16, 57407), (11, 2047), (17, 131071), (18, 262143), (19, 524287), (20, 1048575), (21, 2097151)]].getD n [] }
theorem L.f22 (c : CallT) (x0 x1 x2 x3 x4 x5 : Value) (H : AH) (Q : Value → AH → Prop) (h : F.f22 (sy c) x0 x1 x2 x3 x4 x5 H Q) : evBody Try.prog c kp.f22 Try.f41 [x0, x1, x2, x3, x4, x5] H Q :=
  evBody_of (pl := []) Try.f41 _ H Q (bodyOf Try.f41) (by kernel_rfl) (by kernel_rfl) (by kernel_rfl) h

def kp.f48 : Keep := { keep := fun n => [[0, 1], [0, 1], [10], [], [10], [], []].getD n [], order := fun n => [].getD n [] }
theorem L.f48 (c : CallT) (x0 x1 : Value) (H : AH) (Q : Value → AH → Prop) (h : F.f48 (sy c) x0 x1 H Q) : evBody Try.prog c kp.f48 Try.f50 [x0, x1] H Q :=
  evBody_of (pl := []) Try.f50 _ H Q (bodyOf Try.f50) (by kernel_rfl) (by kernel_rfl) (by kernel_rfl) h

def kp.f34 : Keep := { keep := fun n => [[0], [0], [0, 3], [0, 3], [0, 3], [], [0]].getD n [], order := fun n => [].getD n [] }
def pl.f34 (c : CallT) (Q : Value → AH → Prop) : Plan := [
  (26, fun S T H => F.f34_l1 (sy c) Q (T 0) (T 3) H (S 0))]
theorem L.f34 (c : CallT) (x0 : Value) (H : AH) (Q : Value → AH → Prop) (h : F.f34 (sy c) x0 H Q) : evBody Try.prog c kp.f34 Try.f22 [x0] H Q :=
  evBody_of (pl := pl.f34 c Q) Try.f22 _ H Q (bodyOf Try.f22) (by kernel_rfl) (by kernel_rfl) (by kernel_rfl) h

def kp.f45 : Keep := { keep := fun n => [[0, 1, 2], [0, 1, 2], [0, 1, 2, 7], [0, 1, 2, 7], [0, 1, 2, 7], [], [0, 1, 2, 7], [], [0, 1, 2, 7], [], [0, 1, 2, 7], []].getD n [], order := fun n => [].getD n [] }
def pl.f45 (c : CallT) (Q : Value → AH → Prop) : Plan := [
  (26, fun S T H => F.f45_l1 (sy c) Q (T 0) (T 1) (T 2) (T 7) H (S 0))]
theorem L.f45 (c : CallT) (x0 x1 x2 : Value) (H : AH) (Q : Value → AH → Prop) (h : F.f45 (sy c) x0 x1 x2 H Q) : evBody Try.prog c kp.f45 Try.f25 [x0, x1, x2] H Q :=
  evBody_of (pl := pl.f45 c Q) Try.f25 _ H Q (bodyOf Try.f25) (by kernel_rfl) (by kernel_rfl) (by kernel_rfl) h

def kp.f50 : Keep := { keep := fun n => [[0, 1], [0, 1], [0, 1, 5], [0, 5, 6], [0, 5, 6, 7], [0, 5, 6, 7], [0, 5, 6, 7], [0, 5, 6, 7, 8], [0, 5, 6, 7, 8], [5]].getD n [], order := fun n => [].getD n [] }
def pl.f50 (c : CallT) (Q : Value → AH → Prop) : Plan := [
  (122, fun S T H => F.f50_l1 (sy c) Q (T 0) (T 5) (T 6) (T 7) H (S 0))]
theorem L.f50 (c : CallT) (x0 x1 : Value) (H : AH) (Q : Value → AH → Prop) (h : F.f50 (sy c) x0 x1 H Q) : evBody Try.prog c kp.f50 Try.f52 [x0, x1] H Q :=
  evBody_of (pl := pl.f50 c Q) Try.f52 _ H Q (bodyOf Try.f52) (by kernel_rfl) (by kernel_rfl) (by kernel_rfl) h

def kp.f55 : Keep := { keep := fun n => [[0], [0, 2]].getD n [], order := fun n => [].getD n [] }
theorem L.f55 (c : CallT) (x0 : Value) (H : AH) (Q : Value → AH → Prop) (h : F.f55 (sy c) x0 H Q) : evBody Try.prog c kp.f55 Try.f55 [x0] H Q :=
  evBody_of (pl := []) Try.f55 _ H Q (bodyOf Try.f55) (by kernel_rfl) (by kernel_rfl) (by kernel_rfl) h

def kp.f56 : Keep := { keep := fun n => [[0], [0, 2]].getD n [], order := fun n => [].getD n [] }
theorem L.f56 (c : CallT) (x0 : Value) (H : AH) (Q : Value → AH → Prop) (h : F.f56 (sy c) x0 H Q) : evBody Try.prog c kp.f56 Try.f45 [x0] H Q :=
  evBody_of (pl := []) Try.f45 _ H Q (bodyOf Try.f45) (by kernel_rfl) (by kernel_rfl) (by kernel_rfl) h

def kp.f4 : Keep := { keep := fun n => [[0], [0], [], [0]].getD n [], order := fun n => [].getD n [] }
theorem L.f4 (c : CallT) (x0 : Value) (H : AH) (Q : Value → AH → Prop) (h : F.f4 (sy c) x0 H Q) : evBody Try.prog c kp.f4 Try.f21 [x0] H Q :=
  evBody_of (pl := []) Try.f21 _ H Q (bodyOf Try.f21) (by kernel_rfl) (by kernel_rfl) (by kernel_rfl) h

def kp.f18 : Keep := { keep := fun n => [[0, 1, 2], [0, 1, 2], [0, 2, 7], [0, 2, 7, 11], [0, 2, 7, 11], [], [0, 2, 7, 11], [], [0, 2, 7, 11], [], [0, 2, 7, 11], [0, 2, 7, 11], []].getD n [], order := fun n => [[], [], [], [], [], [], [], [], [(0, 0), (1, 1), (2, 3), (3, 7), (4, 0), (5, 16), (6, 48), (7, 112), (8, 255)], [], [(0, 0), (1, 1), (2, 3), (3, 7), (4, 0), (5, 16), (6, 48), (7, 112), (8, 255), (9, 511)]].getD n [] }
def pl.f18 (c : CallT) (Q : Value → AH → Prop) : Plan := [
  (58, fun S T H => F.f18_l1 (sy c) Q (T 0) (T 2) (T 7) (T 11) H (S 0))]
theorem L.f18 (c : CallT) (x0 x1 x2 : Value) (H : AH) (Q : Value → AH → Prop) (h : F.f18 (sy c) x0 x1 x2 H Q) : evBody Try.prog c kp.f18 Try.f24 [x0, x1, x2] H Q :=
  evBody_of (pl := pl.f18 c Q) Try.f24 _ H Q (bodyOf Try.f24) (by kernel_rfl) (by kernel_rfl) (by kernel_rfl) h

def kp.f24 : Keep := { keep := fun n => [[0, 1], [0, 1], [0, 1, 5], [0, 5, 17], [0, 5, 17], [0, 5, 7, 17], [0, 5, 7, 17], [5]].getD n [], order := fun n => [].getD n [] }
def pl.f24 (c : CallT) (Q : Value → AH → Prop) : Plan := [
  (58, fun S T H => F.f24_l1 (sy c) Q (T 0) (T 5) (T 17) H (S 0))]
theorem L.f24 (c : CallT) (x0 x1 : Value) (H : AH) (Q : Value → AH → Prop) (h : F.f24 (sy c) x0 x1 H Q) : evBody Try.prog c kp.f24 Try.f63 [x0, x1] H Q :=
  evBody_of (pl := pl.f24 c Q) Try.f63 _ H Q (bodyOf Try.f63) (by kernel_rfl) (by kernel_rfl) (by kernel_rfl) h

def kp.f26 : Keep := { keep := fun n => [[0], [0], [0]].getD n [], order := fun n => [].getD n [] }
theorem L.f26 (c : CallT) (x0 : Value) (H : AH) (Q : Value → AH → Prop) (h : F.f26 (sy c) x0 H Q) : evBody Try.prog c kp.f26 Try.f65 [x0] H Q :=
  evBody_of (pl := []) Try.f65 _ H Q (bodyOf Try.f65) (by kernel_rfl) (by kernel_rfl) (by kernel_rfl) h

def kp.f78 : Keep := { keep := fun n => [[0, 1, 2, 3], [0, 1, 2, 3, 8], [0, 1, 2, 3, 8, 9], [0, 1, 2, 3, 8, 9, 10], [0, 1, 2], [0, 1, 2, 3, 8, 9, 10], [0, 1, 2], [0, 1, 2, 3, 8, 9, 10], [0, 1, 2, 3, 8, 9, 10], [0, 1, 2, 3, 8, 9, 10], [0, 1, 2, 3, 8, 9, 10], [0, 1, 2, 3, 8, 9, 10, 11, 12], [0, 1, 2, 3, 8, 9, 10, 11], [0, 1, 2, 3, 8, 9, 10, 11], [0, 1, 2, 3, 8, 9, 10, 11], [0, 1, 2, 3, 8, 9, 10, 11, 12], [0, 1, 2, 3, 8, 9, 10, 11], [0, 1, 2, 3, 8, 9, 10, 11], [0, 1, 2, 3, 8, 9, 11], [0, 2, 3, 8, 9, 13], [0, 1, 2, 3, 10, 11], [0, 1, 2, 3, 10, 14, 15], [0, 1, 2, 3, 9, 10, 14], [0, 1, 2, 3, 9, 10, 14, 16, 17], [0, 1, 2, 3, 9, 14, 16, 17, 18], [0, 1, 2, 3, 9, 14, 16, 18], [0, 1, 2, 3, 8, 9, 14], [0, 2, 3, 8, 9, 14], [0, 1, 2, 3, 9, 14, 17, 18], [0, 1, 2, 3, 8, 9, 14], [0, 1, 3, 8, 9, 14]].getD n [], order := fun n => [[], [], [], [], [], [], [], [], [], [], [], [], [], [], [], [], [], [(0, 0), (1, 1), (2, 3), (3, 7), (4, 7), (5, 23), (6, 63), (7, 127), (8, 7), (9, 7), (10, 775), (11, 1799), (12, 4095), (13, 8191), (14, 16383)]].getD n [] }
def pl.f78 (c : CallT) (Q : Value → AH → Prop) : Plan := [
  (7295, fun S T H => F.f78_j3 (sy c) Q (S 0) (T 0) (T 1) (T 2) (T 3) (T 8) (T 9) (T 10) (T 11) H),
  (3647, fun S T H => F.f78_j2 (sy c) Q (S 0) (T 0) (T 1) (T 2) (T 3) (T 8) (T 9) (T 10) (T 11) (T 12) H),
  (911, fun S T H => F.f78_j1 (sy c) Q (S 0) (T 0) (T 1) (T 2) (T 3) (T 8) (T 9) (T 10) H),
  (14, fun S T H => F.f78_l1 (sy c) Q (T 0) (T 1) (T 2) (T 3) (T 8) (T 9) H (S 0))]
theorem L.f78 (c : CallT) (x0 x1 x2 x3 : Value) (H : AH) (Q : Value → AH → Prop) (h : F.f78 (sy c) x0 x1 x2 x3 H Q) : evBody Try.prog c kp.f78 Try.f68 [x0, x1, x2, x3] H Q :=
  evBody_of (pl := pl.f78 c Q) Try.f68 _ H Q (bodyOf Try.f68) (by kernel_rfl) (by kernel_rfl) (by kernel_rfl) h

def kp.f79 : Keep := { keep := fun n => [[0, 1, 2, 3], [0, 1, 2, 3, 8], [0, 1, 2, 3, 8, 9], [0, 1, 2, 3, 8, 9, 10], [0, 1, 2], [0, 1, 2, 3, 8, 9, 10], [0, 1, 2], [0, 1, 2, 3, 8, 9, 10], [0, 1, 2, 3, 8, 9, 10], [0, 1, 2, 3, 8, 9, 10], [0, 1, 2, 3, 8, 9, 10], [0, 1, 2, 3, 8, 9, 10, 11, 12], [0, 1, 2, 3, 8, 9, 10, 11], [0, 1, 2, 3, 8, 9, 10, 11], [0, 1, 2, 3, 8, 9, 10, 11], [0, 1, 2, 3, 8, 9, 10, 11, 12], [0, 1, 2, 3, 8, 9, 10, 11], [0, 1, 2, 3, 8, 9, 10, 11], [0, 1, 2, 3, 8, 9, 11], [0, 2, 3, 8, 9, 13], [0, 1, 2, 3, 10, 11], [0, 1, 2, 3, 10, 14, 15], [0, 1, 2, 3, 9, 10, 14], [0, 1, 2, 3, 9, 10, 14, 16, 17], [0, 1, 2, 3, 9, 14, 16, 17, 18], [0, 1, 2, 3, 9, 14, 16, 18], [0, 1, 2, 3, 8, 9, 14], [0, 2, 3, 8, 9, 14], [0, 1, 2, 3, 9, 14, 17, 18], [0, 1, 2, 3, 8, 9, 14], [0, 1, 3, 8, 9, 14]].getD n [], order := fun n => [[], [], [], [], [], [], [], [], [], [], [], [], [], [], [], [], [], [(0, 0), (1, 1), (2, 3), (3, 7), (4, 7), (5, 23), (6, 63), (7, 127), (8, 7), (9, 7), (10, 775), (11, 1799), (12, 4095), (13, 8191), (14, 16383)]].getD n [] }
def pl.f79 (c : CallT) (Q : Value → AH → Prop) : Plan := [
  (7295, fun S T H => F.f79_j3 (sy c) Q (S 0) (T 0) (T 1) (T 2) (T 3) (T 8) (T 9) (T 10) (T 11) H),
  (3647, fun S T H => F.f79_j2 (sy c) Q (S 0) (T 0) (T 1) (T 2) (T 3) (T 8) (T 9) (T 10) (T 11) (T 12) H),
  (911, fun S T H => F.f79_j1 (sy c) Q (S 0) (T 0) (T 1) (T 2) (T 3) (T 8) (T 9) (T 10) H),
  (14, fun S T H => F.f79_l1 (sy c) Q (T 0) (T 1) (T 2) (T 3) (T 8) (T 9) H (S 0))]
theorem L.f79 (c : CallT) (x0 x1 x2 x3 : Value) (H : AH) (Q : Value → AH → Prop) (h : F.f79 (sy c) x0 x1 x2 x3 H Q) : evBody Try.prog c kp.f79 Try.f64 [x0, x1, x2, x3] H Q :=
  evBody_of (pl := pl.f79 c Q) Try.f64 _ H Q (bodyOf Try.f64) (by kernel_rfl) (by kernel_rfl) (by kernel_rfl) h

def kp.f85 : Keep := { keep := fun n => [[0, 1], [0, 1]].getD n [], order := fun n => [].getD n [] }
theorem L.f85 (c : CallT) (x0 x1 : Value) (H : AH) (Q : Value → AH → Prop) (h : F.f85 (sy c) x0 x1 H Q) : evBody Try.prog c kp.f85 Try.f46 [x0, x1] H Q :=
  evBody_of (pl := []) Try.f46 _ H Q (bodyOf Try.f46) (by kernel_rfl) (by kernel_rfl) (by kernel_rfl) h

def kp.f5 : Keep := { keep := fun n => [[0], [0]].getD n [], order := fun n => [].getD n [] }
theorem L.f5 (c : CallT) (x0 : Value) (H : AH) (Q : Value → AH → Prop) (h : F.f5 (sy c) x0 H Q) : evBody Try.prog c kp.f5 Try.f47 [x0] H Q :=
  evBody_of (pl := []) Try.f47 _ H Q (bodyOf Try.f47) (by kernel_rfl) (by kernel_rfl) (by kernel_rfl) h

def kp.f27 : Keep := { keep := fun n => [[0], [0, 2], [0], [0], [0, 2], [0, 2], [0, 2], [0, 2]].getD n [], order := fun n => [].getD n [] }
def pl.f27 (c : CallT) (Q : Value → AH → Prop) : Plan := [
  (15, fun S T H => F.f27_j2 (sy c) Q (T 0) (T 2) H),
  (7, fun S T H => F.f27_j1 (sy c) Q (T 0) (T 2) H)]
theorem L.f27 (c : CallT) (x0 : Value) (H : AH) (Q : Value → AH → Prop) (h : F.f27 (sy c) x0 H Q) : evBody Try.prog c kp.f27 Try.f79 [x0] H Q :=
  evBody_of (pl := pl.f27 c Q) Try.f79 _ H Q (bodyOf Try.f79) (by kernel_rfl) (by kernel_rfl) (by kernel_rfl) h

def kp.f28 : Keep := { keep := fun n => [[0], [0, 2], [0], [0], [0, 2], [0, 2], [0, 2], [0, 2], [0, 2], [0, 2], [0, 2]].getD n [], order := fun n => [].getD n [] }
def pl.f28 (c : CallT) (Q : Value → AH → Prop) : Plan := [
  (31, fun S T H => F.f28_j3 (sy c) Q (T 0) (T 2) H),
  (15, fun S T H => F.f28_j2 (sy c) Q (T 0) (T 2) H),
  (7, fun S T H => F.f28_j1 (sy c) Q (T 0) (T 2) H)]
theorem L.f28 (c : CallT) (x0 : Value) (H : AH) (Q : Value → AH → Prop) (h : F.f28 (sy c) x0 H Q) : evBody Try.prog c kp.f28 Try.f80 [x0] H Q :=
  evBody_of (pl := pl.f28 c Q) Try.f80 _ H Q (bodyOf Try.f80) (by kernel_rfl) (by kernel_rfl) (by kernel_rfl) h

def kp.f63 : Keep := { keep := fun n => [[0, 1, 2], [0, 1, 2, 6], [0, 1, 2, 6], [0, 1, 2, 6], [0, 1, 2, 6, 7], [0, 1, 2, 6, 7], [0, 1, 2, 6, 7]].getD n [], order := fun n => [[], [], [], [], [(0, 0), (1, 0), (2, 3), (3, 7), (4, 15), (5, 15), (6, 63), (7, 127), (8, 15), (9, 15), (10, 527), (11, 1807), (12, 3855), (13, 8191), (14, 16383)], [], [(0, 0), (1, 0), (2, 0), (3, 0), (4, 8), (5, 0), (6, 0), (7, 64), (8, 224), (9, 480), (10, 0), (11, 0), (12, 3072), (13, 7168), (14, 16355), (15, 32739), (16, 65535), (17, 131071)]].getD n [] }
def pl.f63 (c : CallT) (Q : Value → AH → Prop) : Plan := [
  (402, fun S T H => F.f63_l2 (sy c) Q (S 1) (T 0) (T 1) (T 2) (T 6) (T 7) H (S 0)),
  (6, fun S T H => F.f63_l1 (sy c) Q (T 0) (T 1) (T 2) (T 6) H (S 0))]
theorem L.f63 (c : CallT) (x0 x1 x2 : Value) (H : AH) (Q : Value → AH → Prop) (h : F.f63 (sy c) x0 x1 x2 H Q) : evBody Try.prog c kp.f63 Try.f81 [x0, x1, x2] H Q :=
  evBody_of (pl := pl.f63 c Q) Try.f81 _ H Q (bodyOf Try.f81) (by kernel_rfl) (by kernel_rfl) (by kernel_rfl) h

def kp.f61 : Keep := { keep := fun n => [[0, 1, 2], [0, 1, 2, 6], [0, 1, 2, 6, 7], [0, 6, 7, 8], [0, 6, 7, 8, 9], [0, 6, 7, 8, 9], [0, 6, 7, 8, 9], [0, 6, 7, 8], [0, 6, 7, 10], [0, 6, 7, 10], [0, 6, 7, 10], [0, 6, 7, 10]].getD n [], order := fun n => [[], [], [], [], [], [], [], [], [], [], [(0, 0), (1, 0), (2, 0), (3, 0), (4, 0), (5, 24), (6, 0), (7, 0), (8, 0), (9, 384), (10, 960), (11, 1984), (12, 0), (13, 0), (14, 12288), (15, 28672), (16, 65475), (17, 131011), (18, 262143), (19, 524287)]].getD n [] }
def pl.f61 (c : CallT) (Q : Value → AH → Prop) : Plan := [
  (126, fun S T H => F.f61_l2 (sy c) Q (T 0) (T 6) (T 7) (T 10) H (S 0)),
  (122, fun S T H => F.f61_l1 (sy c) Q (T 0) (T 6) (T 7) (T 8) (T 9) H (S 0))]
theorem L.f61 (c : CallT) (x0 x1 x2 : Value) (H : AH) (Q : Value → AH → Prop) (h : F.f61 (sy c) x0 x1 x2 H Q) : evBody Try.prog c kp.f61 Try.f82 [x0, x1, x2] H Q :=
  evBody_of (pl := pl.f61 c Q) Try.f82 _ H Q (bodyOf Try.f82) (by kernel_rfl) (by kernel_rfl) (by kernel_rfl) h

def kp.f57 : Keep := { keep := fun n => [[0, 1, 2], [0, 1, 6], [0, 1, 6], [0, 1, 6, 7], [0, 1, 6, 7, 8], [0, 1, 6, 7, 8, 9], [0, 1, 6, 7, 8, 9], [0, 1, 6, 7, 8, 9], [0, 1, 6, 7, 8, 9, 10], [0, 1, 6, 7, 8, 9, 10], [0, 1, 6, 7, 8, 9, 10]].getD n [], order := fun n => [[], [], [], [], [], [], [], [], [], [], [(0, 0), (1, 0), (2, 0), (3, 0), (4, 0), (5, 24), (6, 0), (7, 0), (8, 0), (9, 384), (10, 960), (11, 1984), (12, 0), (13, 0), (14, 12288), (15, 28672), (16, 65475), (17, 131011), (18, 262143), (19, 524287)]].getD n [] }
def pl.f57 (c : CallT) (Q : Value → AH → Prop) : Plan := [
  (15251, fun S T H => F.f57_j1 (sy c) Q (S 0) (T 0) (T 1) (T 6) (T 7) (T 8) (T 9) (T 10) H),
  (238, fun S T H => F.f57_l1 (sy c) Q (T 0) (T 1) (T 6) (T 7) (T 8) (T 9) H (S 0))]
theorem L.f57 (c : CallT) (x0 x1 x2 : Value) (H : AH) (Q : Value → AH → Prop) (h : F.f57 (sy c) x0 x1 x2 H Q) : evBody Try.prog c kp.f57 Try.f83 [x0, x1, x2] H Q :=
  evBody_of (pl := pl.f57 c Q) Try.f83 _ H Q (bodyOf Try.f83) (by kernel_rfl) (by kernel_rfl) (by kernel_rfl) h

def kp.f59 : Keep := { keep := fun n => [[0, 1, 2], [0, 1, 2], [0, 1, 8], [0, 1, 8, 9], [0, 1, 8, 9, 10], [0, 1, 8, 9, 10, 11], [0, 8, 9, 10, 11, 12], [0, 8, 9, 10, 11, 12], [0, 9, 10, 11, 12], [0, 9, 10, 11, 12], [0, 9, 10, 11, 12], [0, 9, 10, 11, 12], [9, 11], [11], [11, 49], [11], [11, 49], [11]].getD n [], order := fun n => [].getD n [] }
def pl.f59 (c : CallT) (Q : Value → AH → Prop) : Plan := [
  (255, fun S T H => F.f59_j1 (sy c) Q (T 9) (T 11) H),
  (2037, fun S T H => F.f59_j2 (sy c) Q (T 0) (T 9) (T 10) (T 11) (T 12) H)]
theorem L.f59 (c : CallT) (x0 x1 x2 : Value) (H : AH) (Q : Value → AH → Prop) (h : F.f59 (sy c) x0 x1 x2 H Q) : evBody Try.prog c kp.f59 Try.f84 [x0, x1, x2] H Q :=
  evBody_of (pl := pl.f59 c Q) Try.f84 _ H Q (bodyOf Try.f84) (by kernel_rfl) (by kernel_rfl) (by kernel_rfl) h

def kp.f80 : Keep := { keep := fun n => [[0, 1, 2], [0, 2, 6], [0, 6, 7], [0, 6, 7], [0, 6, 7], [0, 6, 7]].getD n [], order := fun n => [[], [], [], [(0, 0), (1, 0), (2, 0), (3, 0), (4, 0), (5, 0), (6, 48), (7, 112), (8, 0), (9, 0), (10, 768), (11, 1792), (12, 4083), (13, 8179), (14, 16383), (15, 32767)]].getD n [] }
def pl.f80 (c : CallT) (Q : Value → AH → Prop) : Plan := [
  (14, fun S T H => F.f80_l1 (sy c) Q (T 0) (T 6) (T 7) H (S 0))]
theorem L.f80 (c : CallT) (x0 x1 x2 : Value) (H : AH) (Q : Value → AH → Prop) (h : F.f80 (sy c) x0 x1 x2 H Q) : evBody Try.prog c kp.f80 Try.f85 [x0, x1, x2] H Q :=
  evBody_of (pl := pl.f80 c Q) Try.f85 _ H Q (bodyOf Try.f85) (by kernel_rfl) (by kernel_rfl) (by kernel_rfl) h

def kp.f72 : Keep := { keep := fun n => [[0, 1, 2], [0, 1, 2], [0, 1, 2, 7], [0, 1, 2, 7, 8], [0, 1, 2, 7, 8], [0, 1, 2, 7, 8], [0, 1, 2, 7, 8], [0, 1, 2, 7, 8], [], [0, 1, 2, 7, 8], [], [0, 1, 2, 7, 8], [0, 1, 2, 7, 8], [0, 1, 2, 7, 8], [0, 1, 2, 7, 8, 9], [0, 1, 2, 7, 8, 9], [0, 1, 2, 7, 8, 9], [0, 1, 2, 7, 8, 9], [0, 1, 2, 7, 8], [0, 1, 2, 7, 8], [0, 1, 2, 7, 8, 10], [0, 1, 2, 7, 8, 10], [0, 1, 2, 7, 8, 10], [0, 1, 2, 7, 8, 10], []].getD n [], order := fun n => [[], [], [], [], [], [(0, 0), (1, 0), (2, 3), (3, 7), (4, 15), (5, 15), (6, 63), (7, 127), (8, 15), (9, 15), (10, 527), (11, 1807), (12, 3855), (13, 8191), (14, 16383), (15, 32767)], [], [], [], [], [], [(0, 0), (1, 0), (2, 0), (3, 0), (4, 8), (5, 0), (6, 0), (7, 64), (8, 224), (9, 480), (10, 0), (11, 0), (12, 3072), (13, 7168), (14, 16355), (15, 32739), (16, 65535), (17, 131071)], [], [], [], [], [(0, 0), (1, 0), (2, 3), (3, 7), (4, 0), (5, 0), (6, 32), (7, 112), (8, 240), (9, 511), (10, 1023)], [(0, 0), (1, 0), (2, 0), (3, 0), (4, 8), (5, 0), (6, 0), (7, 64), (8, 224), (9, 480), (10, 0), (11, 0), (12, 3072), (13, 7168), (14, 16355), (15, 32739), (16, 65535), (17, 131071)], [], [], [], [], [(0, 0), (1, 0), (2, 3), (3, 7), (4, 0), (5, 0), (6, 32), (7, 112), (8, 240), (9, 511), (10, 1023)], [(0, 0), (1, 0), (2, 0), (3, 0), (4, 8), (5, 0), (6, 0), (7, 64), (8, 224), (9, 480), (10, 0), (11, 0), (12, 3072), (13, 7168), (14, 16355), (15, 32739), (16, 65535), (17, 131071)]].getD n [] }
def pl.f72 (c : CallT) (Q : Value → AH → Prop) : Plan := [
  (477690, fun S T H => F.f72_l3 (sy c) Q (S 1) (T 0) (T 1) (T 2) (T 7) (T 8) (T 10) H (S 0)),
  (29855, fun S T H => F.f72_j1 (sy c) Q (S 0) (T 0) (T 1) (T 2) (T 7) (T 8) H),
  (477674, fun S T H => F.f72_l4 (sy c) Q (S 1) (T 0) (T 1) (T 2) (T 7) (T 8) (T 9) H (S 0)),
  (3728, fun S T H => F.f72_l2 (sy c) Q (S 1) (T 0) (T 1) (T 2) (T 7) (T 8) H (S 0)),
  (58, fun S T H => F.f72_l1 (sy c) Q (T 0) (T 1) (T 2) (T 7) (T 8) H (S 0))]
theorem L.f72 (c : CallT) (x0 x1 x2 : Value) (H : AH) (Q : Value → AH → Prop) (h : F.f72 (sy c) x0 x1 x2 H Q) : evBody Try.prog c kp.f72 Try.f86 [x0, x1, x2] H Q :=
  evBody_of (pl := pl.f72 c Q) Try.f86 _ H Q (bodyOf Try.f86) (by kernel_rfl) (by kernel_rfl) (by kernel_rfl) h

def kp.f0 : Keep := { keep := fun n => [[0, 1], [0, 1]].getD n [], order := fun n => [].getD n [] }
theorem L.f0 (c : CallT) (x0 x1 : Value) (H : AH) (Q : Value → AH → Prop) (h : F.f0 (sy c) x0 x1 H Q) : evBody Try.prog c kp.f0 Try.f87 [x0, x1] H Q :=
  evBody_of (pl := []) Try.f87 _ H Q (bodyOf Try.f87) (by kernel_rfl) (by kernel_rfl) (by kernel_rfl) h

def kp.f74 : Keep := { keep := fun n => [[0, 1, 2, 3], [0, 1, 2, 3], [0, 1, 2], [0, 1, 9, 10], [0, 1, 9, 10], [0, 1, 9, 10], [0, 1, 9, 10], [0, 1, 9, 10], [0, 1, 9, 10], [0, 1, 9, 10], [0, 1, 9, 10], [9]].getD n [], order := fun n => [[], [(0, 0), (1, 0), (2, 0), (3, 0), (4, 0), (5, 0), (6, 48), (7, 112), (8, 0), (9, 0), (10, 768), (11, 1792), (12, 4083), (13, 8179), (14, 16383), (15, 32767)], [], [(0, 0), (1, 0), (2, 3), (3, 7), (4, 15), (5, 15), (6, 63), (7, 127), (8, 15), (9, 15), (10, 783), (11, 1807), (12, 4095), (13, 8191), (14, 16383)], [], [(0, 0), (1, 0), (2, 3), (3, 7), (4, 15), (5, 15), (6, 63), (7, 127), (8, 15), (9, 15), (10, 783), (11, 1807), (12, 4095), (13, 8191)], [], [], [(0, 0), (1, 0), (2, 0), (3, 0), (4, 0), (5, 0), (6, 48), (7, 112), (8, 0), (9, 0), (10, 768), (11, 1792), (12, 4083), (13, 8179), (14, 16383), (15, 32767)]].getD n [] }
def pl.f74 (c : CallT) (Q : Value → AH → Prop) : Plan := [
  (1924, fun S T H => F.f74_l3 (sy c) Q (S 1) (T 0) (T 1) (T 9) (T 10) H (S 0)),
  (960, fun S T H => F.f74_l2 (sy c) Q (S 1) (T 0) (T 1) (T 9) (T 10) H (S 0)),
  (60, fun S T H => F.f74_l1 (sy c) Q (T 0) (T 1) (T 9) (T 10) H (S 0))]
theorem L.f74 (c : CallT) (x0 x1 x2 x3 : Value) (H : AH) (Q : Value → AH → Prop) (h : F.f74 (sy c) x0 x1 x2 x3 H Q) : evBody Try.prog c kp.f74 Try.f88 [x0, x1, x2, x3] H Q :=
  evBody_of (pl := pl.f74 c Q) Try.f88 _ H Q (bodyOf Try.f88) (by kernel_rfl) (by kernel_rfl) (by kernel_rfl) h

def kp.f76 : Keep := { keep := fun n => [[0, 1, 2, 3], [0, 1, 2, 3], [0, 1, 2], [0, 1, 10, 11], [0, 1, 10, 11], [0, 1, 10, 11], [0, 1, 10, 11], [0, 1, 10, 11], [0, 1, 11], [11], [0, 1, 10, 11], [0, 1, 10, 11], [0, 1, 10, 11], [0, 1, 10, 11], [0, 1, 10, 11], [0, 1, 10, 11], [0, 1, 10, 11], [0, 1, 10, 11], [0, 1, 10, 11], [0, 1, 10, 11], [0, 1, 10, 11], [0, 1, 11], [11]].getD n [], order := fun n => [[], [(0, 0), (1, 0), (2, 0), (3, 0), (4, 0), (5, 0), (6, 48), (7, 112), (8, 0), (9, 0), (10, 768), (11, 1792), (12, 4083), (13, 8179), (14, 16383), (15, 32767)], [], [(0, 0), (1, 0), (2, 3), (3, 7), (4, 15), (5, 15), (6, 63), (7, 127), (8, 15), (9, 15), (10, 783), (11, 1807), (12, 4095), (13, 8191)], [], [(0, 0), (1, 0), (2, 3), (3, 7), (4, 15), (5, 15), (6, 63), (7, 127), (8, 15), (9, 15), (10, 783), (11, 1807), (12, 4095), (13, 8191), (14, 16383)], [], [], [(0, 0), (1, 0), (2, 0), (3, 0), (4, 0), (5, 0), (6, 48), (7, 112), (8, 0), (9, 0), (10, 768), (11, 1792), (12, 4083), (13, 8179), (14, 16383), (15, 32767)], [], [(0, 0), (1, 0), (2, 0), (3, 0), (4, 0), (5, 0), (6, 48), (7, 112), (8, 0), (9, 0), (10, 768), (11, 1792), (12, 4083), (13, 8179), (14, 16383), (15, 32767)], [], [], [(0, 0), (1, 0), (2, 3), (3, 7), (4, 15), (5, 15), (6, 63), (7, 127), (8, 15), (9, 15), (10, 783), (11, 1807), (12, 4095), (13, 8191)], [], [(0, 0), (1, 0), (2, 3), (3, 7), (4, 15), (5, 15), (6, 63), (7, 127), (8, 15), (9, 15), (10, 783), (11, 1807), (12, 4095), (13, 8191), (14, 16383)], [], [], [(0, 0), (1, 0), (2, 0), (3, 0), (4, 0), (5, 0), (6, 48), (7, 112), (8, 0), (9, 0), (10, 768), (11, 1792), (12, 4083), (13, 8179), (14, 16383), (15, 32767)], [], [], [(0, 0), (1, 0), (2, 0), (3, 0), (4, 0), (5, 0), (6, 48), (7, 112), (8, 0), (9, 0), (10, 768), (11, 1792), (12, 4083), (13, 8179), (14, 16383), (15, 32767)]].getD n [] }
def pl.f76 (c : CallT) (Q : Value → AH → Prop) : Plan := [
  (130948, fun S T H => F.f76_l5 (sy c) Q (S 1) (T 0) (T 1) (T 10) (T 11) H (S 0)),
  (65472, fun S T H => F.f76_l4 (sy c) Q (S 1) (T 0) (T 1) (T 10) (T 11) H (S 0)),
  (4092, fun S T H => F.f76_l3 (sy c) Q (T 0) (T 1) (T 10) (T 11) H (S 0)),
  (124, fun S T H => F.f76_l2 (sy c) Q (T 0) (T 1) (T 10) (T 11) H (S 0)),
  (60, fun S T H => F.f76_l1 (sy c) Q (T 0) (T 1) (T 10) (T 11) H (S 0))]
theorem L.f76 (c : CallT) (x0 x1 x2 x3 : Value) (H : AH) (Q : Value → AH → Prop) (h : F.f76 (sy c) x0 x1 x2 x3 H Q) : evBody Try.prog c kp.f76 Try.f89 [x0, x1, x2, x3] H Q :=
  evBody_of (pl := pl.f76 c Q) Try.f89 _ H Q (bodyOf Try.f89) (by kernel_rfl) (by kernel_rfl) (by kernel_rfl) h

def kp.f64 : Keep := { keep := fun n => [[0, 1, 2], [0, 1, 2, 6], [0, 1, 2, 6], [0, 1, 2, 6], [0, 1, 2, 6, 7], [0, 1, 2, 6, 7], [0, 1, 2, 6, 7]].getD n [], order := fun n => [[], [], [], [], [(0, 0), (1, 0), (2, 3), (3, 7), (4, 15), (5, 15), (6, 63), (7, 127), (8, 15), (9, 15), (10, 527), (11, 1807), (12, 3855), (13, 8191), (14, 16383)], [], [(0, 0), (1, 0), (2, 0), (3, 0), (4, 8), (5, 0), (6, 0), (7, 64), (8, 224), (9, 480), (10, 0), (11, 0), (12, 3072), (13, 7168), (14, 16355), (15, 32739), (16, 65535), (17, 131071)]].getD n [] }
def pl.f64 (c : CallT) (Q : Value → AH → Prop) : Plan := [
  (402, fun S T H => F.f64_l2 (sy c) Q (S 1) (T 0) (T 1) (T 2) (T 6) (T 7) H (S 0)),
  (6, fun S T H => F.f64_l1 (sy c) Q (T 0) (T 1) (T 2) (T 6) H (S 0))]
theorem L.f64 (c : CallT) (x0 x1 x2 : Value) (H : AH) (Q : Value → AH → Prop) (h : F.f64 (sy c) x0 x1 x2 H Q) : evBody Try.prog c kp.f64 Try.f70 [x0, x1, x2] H Q :=
  evBody_of (pl := pl.f64 c Q) Try.f70 _ H Q (bodyOf Try.f70) (by kernel_rfl) (by kernel_rfl) (by kernel_rfl) h

def kp.f62 : Keep := { keep := fun n => [[0, 1, 2], [0, 1, 2, 6], [0, 1, 2, 6, 7], [0, 6, 7, 8], [0, 6, 7, 8, 9], [0, 6, 7, 8, 9], [0, 6, 7, 8, 9], [0, 6, 7, 8], [0, 6, 7, 10], [0, 6, 7, 10], [0, 6, 7, 10], [0, 6, 7, 10]].getD n [], order := fun n => [[], [], [], [], [], [], [], [], [], [], [(0, 0), (1, 0), (2, 0), (3, 0), (4, 0), (5, 24), (6, 0), (7, 0), (8, 0), (9, 384), (10, 960), (11, 1984), (12, 0), (13, 0), (14, 12288), (15, 28672), (16, 65475), (17, 131011), (18, 262143), (19, 524287)]].getD n [] }
def pl.f62 (c : CallT) (Q : Value → AH → Prop) : Plan := [
  (126, fun S T H => F.f62_l2 (sy c) Q (T 0) (T 6) (T 7) (T 10) H (S 0)),
  (122, fun S T H => F.f62_l1 (sy c) Q (T 0) (T 6) (T 7) (T 8) (T 9) H (S 0))]
theorem L.f62 (c : CallT) (x0 x1 x2 : Value) (H : AH) (Q : Value → AH → Prop) (h : F.f62 (sy c) x0 x1 x2 H Q) : evBody Try.prog c kp.f62 Try.f71 [x0, x1, x2] H Q :=
  evBody_of (pl := pl.f62 c Q) Try.f71 _ H Q (bodyOf Try.f71) (by kernel_rfl) (by kernel_rfl) (by kernel_rfl) h

def kp.f58 : Keep := { keep := fun n => [[0, 1, 2], [0, 1, 6], [0, 1, 6], [0, 1, 6, 7], [0, 1, 6, 7, 8], [0, 1, 6, 7, 8, 9], [0, 1, 6, 7, 8, 9], [0, 1, 6, 7, 8, 9], [0, 1, 6, 7, 8, 9, 10], [0, 1, 6, 7, 8, 9, 10], [0, 1, 6, 7, 8, 9, 10]].getD n [], order := fun n => [[], [], [], [], [], [], [], [], [], [], [(0, 0), (1, 0), (2, 0), (3, 0), (4, 0), (5, 24), (6, 0), (7, 0), (8, 0), (9, 384), (10, 960), (11, 1984), (12, 0), (13, 0), (14, 12288), (15, 28672), (16, 65475), (17, 131011), (18, 262143), (19, 524287)]].getD n [] }
def pl.f58 (c : CallT) (Q : Value → AH → Prop) : Plan := [
  (15251, fun S T H => F.f58_j1 (sy c) Q (S 0) (T 0) (T 1) (T 6) (T 7) (T 8) (T 9) (T 10) H),
  (238, fun S T H => F.f58_l1 (sy c) Q (T 0) (T 1) (T 6) (T 7) (T 8) (T 9) H (S 0))]
theorem L.f58 (c : CallT) (x0 x1 x2 : Value) (H : AH) (Q : Value → AH → Prop) (h : F.f58 (sy c) x0 x1 x2 H Q) : evBody Try.prog c kp.f58 Try.f72 [x0, x1, x2] H Q :=
  evBody_of (pl := pl.f58 c Q) Try.f72 _ H Q (bodyOf Try.f72) (by kernel_rfl) (by kernel_rfl) (by kernel_rfl) h

def kp.f60 : Keep := { keep := fun n => [[0, 1, 2], [0, 1, 2], [0, 1, 8], [0, 1, 8, 9], [0, 1, 8, 9, 10], [0, 1, 8, 9, 10, 11], [0, 8, 9, 10, 11, 12], [0, 8, 9, 10, 11, 12], [0, 9, 10, 11, 12], [0, 9, 10, 11, 12], [0, 9, 10, 11, 12], [0, 9, 10, 11, 12], [9, 11], [11], [11, 49], [11], [11, 49], [11]].getD n [], order := fun n => [].getD n [] }
def pl.f60 (c : CallT) (Q : Value → AH → Prop) : Plan := [
  (255, fun S T H => F.f60_j1 (sy c) Q (T 9) (T 11) H),
  (2037, fun S T H => F.f60_j2 (sy c) Q (T 0) (T 9) (T 10) (T 11) (T 12) H)]
theorem L.f60 (c : CallT) (x0 x1 x2 : Value) (H : AH) (Q : Value → AH → Prop) (h : F.f60 (sy c) x0 x1 x2 H Q) : evBody Try.prog c kp.f60 Try.f73 [x0, x1, x2] H Q :=
  evBody_of (pl := pl.f60 c Q) Try.f73 _ H Q (bodyOf Try.f73) (by kernel_rfl) (by kernel_rfl) (by kernel_rfl) h

def kp.f81 : Keep := { keep := fun n => [[0, 1, 2], [0, 2, 6], [0, 6, 7], [0, 6, 7], [0, 6, 7], [0, 6, 7]].getD n [], order := fun n => [[], [], [], [(0, 0), (1, 0), (2, 0), (3, 0), (4, 0), (5, 0), (6, 48), (7, 112), (8, 0), (9, 0), (10, 768), (11, 1792), (12, 4083), (13, 8179), (14, 16383), (15, 32767)]].getD n [] }
def pl.f81 (c : CallT) (Q : Value → AH → Prop) : Plan := [
  (14, fun S T H => F.f81_l1 (sy c) Q (T 0) (T 6) (T 7) H (S 0))]
theorem L.f81 (c : CallT) (x0 x1 x2 : Value) (H : AH) (Q : Value → AH → Prop) (h : F.f81 (sy c) x0 x1 x2 H Q) : evBody Try.prog c kp.f81 Try.f74 [x0, x1, x2] H Q :=
  evBody_of (pl := pl.f81 c Q) Try.f74 _ H Q (bodyOf Try.f74) (by kernel_rfl) (by kernel_rfl) (by kernel_rfl) h

def kp.f73 : Keep := { keep := fun n => [[0, 1, 2], [0, 1, 2], [0, 1, 2, 7], [0, 1, 2, 7, 8], [0, 1, 2, 7, 8], [0, 1, 2, 7, 8], [0, 1, 2, 7, 8], [0, 1, 2, 7, 8], [], [0, 1, 2, 7, 8], [], [0, 1, 2, 7, 8], [0, 1, 2, 7, 8], [0, 1, 2, 7, 8], [0, 1, 2, 7, 8, 9], [0, 1, 2, 7, 8, 9], [0, 1, 2, 7, 8, 9], [0, 1, 2, 7, 8, 9], [0, 1, 2, 7, 8], [0, 1, 2, 7, 8], [0, 1, 2, 7, 8, 10], [0, 1, 2, 7, 8, 10], [0, 1, 2, 7, 8, 10], [0, 1, 2, 7, 8, 10], []].getD n [], order := fun n => [[], [], [], [], [], [(0, 0), (1, 0), (2, 3), (3, 7), (4, 15), (5, 15), (6, 63), (7, 127), (8, 15), (9, 15), (10, 527), (11, 1807), (12, 3855), (13, 8191), (14, 16383), (15, 32767)], [], [], [], [], [], [(0, 0), (1, 0), (2, 0), (3, 0), (4, 8), (5, 0), (6, 0), (7, 64), (8, 224), (9, 480), (10, 0), (11, 0), (12, 3072), (13, 7168), (14, 16355), (15, 32739), (16, 65535), (17, 131071)], [], [], [], [], [(0, 0), (1, 0), (2, 3), (3, 7), (4, 0), (5, 0), (6, 32), (7, 112), (8, 240), (9, 511), (10, 1023)], [(0, 0), (1, 0), (2, 0), (3, 0), (4, 8), (5, 0), (6, 0), (7, 64), (8, 224), (9, 480), (10, 0), (11, 0), (12, 3072), (13, 7168), (14, 16355), (15, 32739), (16, 65535), (17, 131071)], [], [], [], [], [(0, 0), (1, 0), (2, 3), (3, 7), (4, 0), (5, 0), (6, 32), (7, 112), (8, 240), (9, 511), (10, 1023)], [(0, 0), (1, 0), (2, 0), (3, 0), (4, 8), (5, 0), (6, 0), (7, 64), (8, 224), (9, 480), (10, 0), (11, 0), (12, 3072), (13, 7168), (14, 16355), (15, 32739), (16, 65535), (17, 131071)]].getD n [] }
def pl.f73 (c : CallT) (Q : Value → AH → Prop) : Plan := [
  (477690, fun S T H => F.f73_l3 (sy c) Q (S 1) (T 0) (T 1) (T 2) (T 7) (T 8) (T 10) H (S 0)),
  (29855, fun S T H => F.f73_j1 (sy c) Q (S 0) (T 0) (T 1) (T 2) (T 7) (T 8) H),
  (477674, fun S T H => F.f73_l4 (sy c) Q (S 1) (T 0) (T 1) (T 2) (T 7) (T 8) (T 9) H (S 0)),
  (3728, fun S T H => F.f73_l2 (sy c) Q (S 1) (T 0) (T 1) (T 2) (T 7) (T 8) H (S 0)),
  (58, fun S T H => F.f73_l1 (sy c) Q (T 0) (T 1) (T 2) (T 7) (T 8) H (S 0))]
theorem L.f73 (c : CallT) (x0 x1 x2 : Value) (H : AH) (Q : Value → AH → Prop) (h : F.f73 (sy c) x0 x1 x2 H Q) : evBody Try.prog c kp.f73 Try.f75 [x0, x1, x2] H Q :=
  evBody_of (pl := pl.f73 c Q) Try.f75 _ H Q (bodyOf Try.f75) (by kernel_rfl) (by kernel_rfl) (by kernel_rfl) h

def kp.f1 : Keep := { keep := fun n => [[0, 1], [0, 1]].getD n [], order := fun n => [].getD n [] }
theorem L.f1 (c : CallT) (x0 x1 : Value) (H : AH) (Q : Value → AH → Prop) (h : F.f1 (sy c) x0 x1 H Q) : evBody Try.prog c kp.f1 Try.f76 [x0, x1] H Q :=
  evBody_of (pl := []) Try.f76 _ H Q (bodyOf Try.f76) (by kernel_rfl) (by kernel_rfl) (by kernel_rfl) h

def kp.f75 : Keep := { keep := fun n => [[0, 1, 2, 3], [0, 1, 2, 3], [0, 1, 2], [0, 1, 9, 10], [0, 1, 9, 10], [0, 1, 9, 10], [0, 1, 9, 10], [0, 1, 9, 10], [0, 1, 9, 10], [0, 1, 9, 10], [0, 1, 9, 10], [9]].getD n [], order := fun n => [[], [(0, 0), (1, 0), (2, 0), (3, 0), (4, 0), (5, 0), (6, 48), (7, 112), (8, 0), (9, 0), (10, 768), (11, 1792), (12, 4083), (13, 8179), (14, 16383), (15, 32767)], [], [(0, 0), (1, 0), (2, 3), (3, 7), (4, 15), (5, 15), (6, 63), (7, 127), (8, 15), (9, 15), (10, 783), (11, 1807), (12, 4095), (13, 8191), (14, 16383)], [], [(0, 0), (1, 0), (2, 3), (3, 7), (4, 15), (5, 15), (6, 63), (7, 127), (8, 15), (9, 15), (10, 783), (11, 1807), (12, 4095), (13, 8191)], [], [], [(0, 0), (1, 0), (2, 0), (3, 0), (4, 0), (5, 0), (6, 48), (7, 112), (8, 0), (9, 0), (10, 768), (11, 1792), (12, 4083), (13, 8179), (14, 16383), (15, 32767)]].getD n [] }
def pl.f75 (c : CallT) (Q : Value → AH → Prop) : Plan := [
  (1924, fun S T H => F.f75_l3 (sy c) Q (S 1) (T 0) (T 1) (T 9) (T 10) H (S 0)),
  (960, fun S T H => F.f75_l2 (sy c) Q (S 1) (T 0) (T 1) (T 9) (T 10) H (S 0)),
  (60, fun S T H => F.f75_l1 (sy c) Q (T 0) (T 1) (T 9) (T 10) H (S 0))]
theorem L.f75 (c : CallT) (x0 x1 x2 x3 : Value) (H : AH) (Q : Value → AH → Prop) (h : F.f75 (sy c) x0 x1 x2 x3 H Q) : evBody Try.prog c kp.f75 Try.f77 [x0, x1, x2, x3] H Q :=
  evBody_of (pl := pl.f75 c Q) Try.f77 _ H Q (bodyOf Try.f77) (by kernel_rfl) (by kernel_rfl) (by kernel_rfl) h

def kp.f77 : Keep := { keep := fun n => [[0, 1, 2, 3], [0, 1, 2, 3], [0, 1, 2], [0, 1, 10, 11], [0, 1, 10, 11], [0, 1, 10, 11], [0, 1, 10, 11], [0, 1, 10, 11], [0, 1, 11], [11], [0, 1, 10, 11], [0, 1, 10, 11], [0, 1, 10, 11], [0, 1, 10, 11], [0, 1, 10, 11], [0, 1, 10, 11], [0, 1, 10, 11], [0, 1, 10, 11], [0, 1, 10, 11], [0, 1, 10, 11], [0, 1, 10, 11], [0, 1, 11], [11]].getD n [], order := fun n => [[], [(0, 0), (1, 0), (2, 0), (3, 0), (4, 0), (5, 0), (6, 48), (7, 112), (8, 0), (9, 0), (10, 768), (11, 1792), (12, 4083), (13, 8179), (14, 16383), (15, 32767)], [], [(0, 0), (1, 0), (2, 3), (3, 7), (4, 15), (5, 15), (6, 63), (7, 127), (8, 15), (9, 15), (10, 783), (11, 1807), (12, 4095), (13, 8191)], [], [(0, 0), (1, 0), (2, 3), (3, 7), (4, 15), (5, 15), (6, 63), (7, 127), (8, 15), (9, 15), (10, 783), (11, 1807), (12, 4095), (13, 8191), (14, 16383)], [], [], [(0, 0), (1, 0), (2, 0), (3, 0), (4, 0), (5, 0), (6, 48), (7, 112), (8, 0), (9, 0), (10, 768), (11, 1792), (12, 4083), (13, 8179), (14, 16383), (15, 32767)], [], [(0, 0), (1, 0), (2, 0), (3, 0), (4, 0), (5, 0), (6, 48), (7, 112), (8, 0), (9, 0), (10, 768), (11, 1792), (12, 4083), (13, 8179), (14, 16383), (15, 32767)], [], [], [(0, 0), (1, 0), (2, 3), (3, 7), (4, 15), (5, 15), (6, 63), (7, 127), (8, 15), (9, 15), (10, 783), (11, 1807), (12, 4095), (13, 8191)], [], [(0, 0), (1, 0), (2, 3), (3, 7), (4, 15), (5, 15), (6, 63), (7, 127), (8, 15), (9, 15), (10, 783), (11, 1807), (12, 4095), (13, 8191), (14, 16383)], [], [], [(0, 0), (1, 0), (2, 0), (3, 0), (4, 0), (5, 0), (6, 48), (7, 112), (8, 0), (9, 0), (10, 768), (11, 1792), (12, 4083), (13, 8179), (14, 16383), (15, 32767)], [], [], [(0, 0), (1, 0), (2, 0), (3, 0), (4, 0), (5, 0), (6, 48), (7, 112), (8, 0), (9, 0), (10, 768), (11, 1792), (12, 4083), (13, 8179), (14, 16383), (15, 32767)]].getD n [] }
def pl.f77 (c : CallT) (Q : Value → AH → Prop) : Plan := [
  (130948, fun S T H => F.f77_l5 (sy c) Q (S 1) (T 0) (T 1) (T 10) (T 11) H (S 0)),
  (65472, fun S T H => F.f77_l4 (sy c) Q (S 1) (T 0) (T 1) (T 10) (T 11) H (S 0)),
  (4092, fun S T H => F.f77_l3 (sy c) Q (T 0) (T 1) (T 10) (T 11) H (S 0)),
  (124, fun S T H => F.f77_l2 (sy c) Q (T 0) (T 1) (T 10) (T 11) H (S 0)),
  (60, fun S T H => F.f77_l1 (sy c) Q (T 0) (T 1) (T 10) (T 11) H (S 0))]
theorem L.f77 (c : CallT) (x0 x1 x2 x3 : Value) (H : AH) (Q : Value → AH → Prop) (h : F.f77 (sy c) x0 x1 x2 x3 H Q) : evBody Try.prog c kp.f77 Try.f78 [x0, x1, x2, x3] H Q :=
  evBody_of (pl := pl.f77 c Q) Try.f78 _ H Q (bodyOf Try.f78) (by kernel_rfl) (by kernel_rfl) (by kernel_rfl) h

def kp.f86 : Keep := { keep := fun n => [[0, 1, 2], [0, 1, 2], [1, 2, 10], [1, 2, 10, 11], [1, 2, 7, 8, 10], [7], []].getD n [], order := fun n => [].getD n [] }
def pl.f86 (c : CallT) (Q : Value → AH → Prop) : Plan := [
  (26, fun S T H => F.f86_l1 (sy c) Q (T 1) (T 2) (T 10) H (S 0))]
theorem L.f86 (c : CallT) (x0 x1 x2 : Value) (H : AH) (Q : Value → AH → Prop) (h : F.f86 (sy c) x0 x1 x2 H Q) : evBody Try.prog c kp.f86 Try.f66 [x0, x1, x2] H Q :=
  evBody_of (pl := pl.f86 c Q) Try.f66 _ H Q (bodyOf Try.f66) (by kernel_rfl) (by kernel_rfl) (by kernel_rfl) h

def kp.f82 : Keep := { keep := fun n => [[0, 1, 2, 3], [0, 2, 3, 8], [0, 2, 3, 8, 9], [0, 2, 3, 8, 9], [0, 2, 3, 8, 9], [0, 2, 3, 8, 9], [0, 2, 3, 8, 9], [0, 2, 3, 9]].getD n [], order := fun n => [[], [], [], [(0, 0), (1, 1), (2, 0), (3, 7), (4, 15), (5, 31), (6, 31), (7, 31), (8, 223), (9, 511), (10, 1023), (11, 31), (12, 31), (13, 31), (14, 12319), (15, 28703), (16, 63519), (17, 129055), (18, 262143), (19, 524287)], [], [(0, 0), (1, 0), (2, 0), (3, 6), (4, 15), (5, 31), (6, 0), (7, 0), (8, 0), (9, 384), (10, 960), (11, 1984), (12, 4095), (13, 8191)], [(0, 0), (1, 0), (2, 0), (3, 6), (4, 0), (5, 0), (6, 0), (7, 96), (8, 0), (9, 0), (10, 0), (11, 1536), (12, 3840), (13, 7936), (14, 0), (15, 0), (16, 0), (17, 98304), (18, 245760), (19, 507904), (20, 1048335), (21, 2096911), (22, 4194303), (23, 8388607)]].getD n [] }
def pl.f82 (c : CallT) (Q : Value → AH → Prop) : Plan := [
  (199, fun S T H => F.f82_j1 (sy c) Q (S 0) (T 0) (T 2) (T 3) (T 8) (T 9) H),
  (6, fun S T H => F.f82_l1 (sy c) Q (T 0) (T 2) (T 3) (T 8) H (S 0))]
theorem L.f82 (c : CallT) (x0 x1 x2 x3 : Value) (H : AH) (Q : Value → AH → Prop) (h : F.f82 (sy c) x0 x1 x2 x3 H Q) : evBody Try.prog c kp.f82 Try.f96 [x0, x1, x2, x3] H Q :=
  evBody_of (pl := pl.f82 c Q) Try.f96 _ H Q (bodyOf Try.f96) (by kernel_rfl) (by kernel_rfl) (by kernel_rfl) h

def kp.f69 : Keep := { keep := fun n => [[0], [0]].getD n [], order := fun n => [].getD n [] }
theorem L.f69 (c : CallT) (x0 : Value) (H : AH) (Q : Value → AH → Prop) (h : F.f69 (sy c) x0 H Q) : evBody Try.prog c kp.f69 Try.f91 [x0] H Q :=
  evBody_of (pl := []) Try.f91 _ H Q (bodyOf Try.f91) (by kernel_rfl) (by kernel_rfl) (by kernel_rfl) h

def kp.f84 : Keep := { keep := fun n => [[0], [0], [0], [0], [0]].getD n [], order := fun n => [[], [(0, 0), (1, 1), (2, 3), (3, 0), (4, 8), (5, 24), (6, 56), (7, 127), (8, 255), (9, 511)], [(0, 0), (1, 1), (2, 3), (3, 0), (4, 8), (5, 24), (6, 56), (7, 127), (8, 255), (9, 511)], [(0, 0), (1, 1), (2, 3), (3, 0), (4, 8), (5, 24), (6, 56), (7, 127), (8, 255), (9, 511)]].getD n [] }
theorem L.f84 (c : CallT) (x0 : Value) (H : AH) (Q : Value → AH → Prop) (h : F.f84 (sy c) x0 H Q) : evBody Try.prog c kp.f84 Try.f92 [x0] H Q :=
  evBody_of (pl := []) Try.f92 _ H Q (bodyOf Try.f92) (by kernel_rfl) (by kernel_rfl) (by kernel_rfl) h

def kp.f65 : Keep := { keep := fun n => [[0, 1, 2], [0, 1, 2]].getD n [], order := fun n => [].getD n [] }
theorem L.f65 (c : CallT) (x0 x1 x2 : Value) (H : AH) (Q : Value → AH → Prop) (h : F.f65 (sy c) x0 x1 x2 H Q) : evBody Try.prog c kp.f65 Try.f97 [x0, x1, x2] H Q :=
  evBody_of (pl := []) Try.f97 _ H Q (bodyOf Try.f97) (by kernel_rfl) (by kernel_rfl) (by kernel_rfl) h

def kp.f67 : Keep := { keep := fun n => [[0, 1, 2, 3, 4], [0, 1, 2, 3, 4], [0, 1, 2, 3, 4], [0, 1, 2, 4], [2]].getD n [], order := fun n => [].getD n [] }
theorem L.f67 (c : CallT) (x0 x1 x2 x3 x4 : Value) (H : AH) (Q : Value → AH → Prop) (h : F.f67 (sy c) x0 x1 x2 x3 x4 H Q) : evBody Try.prog c kp.f67 Try.f98 [x0, x1, x2, x3, x4] H Q :=
  evBody_of (pl := []) Try.f98 _ H Q (bodyOf Try.f98) (by kernel_rfl) (by kernel_rfl) (by kernel_rfl) h

def kp.f2 : Keep := { keep := fun n => [[0], [0]].getD n [], order := fun n => [].getD n [] }
theorem L.f2 (c : CallT) (x0 : Value) (H : AH) (Q : Value → AH → Prop) (h : F.f2 (sy c) x0 H Q) : evBody Try.prog c kp.f2 Try.f99 [x0] H Q :=
  evBody_of (pl := []) Try.f99 _ H Q (bodyOf Try.f99) (by kernel_rfl) (by kernel_rfl) (by kernel_rfl) h

def kp.f83 : Keep := { keep := fun n => [[0, 1, 2, 3], [0, 2, 3, 8], [0, 2, 3, 8, 9], [0, 2, 3, 8, 9], [0, 2, 3, 8, 9], [0, 2, 3, 8, 9], [0, 2, 3, 8, 9], [0, 2, 3, 9]].getD n [], order := fun n => [[], [], [], [(0, 0), (1, 1), (2, 0), (3, 7), (4, 15), (5, 31), (6, 31), (7, 31), (8, 223), (9, 511), (10, 1023), (11, 31), (12, 31), (13, 31), (14, 12319), (15, 28703), (16, 63519), (17, 129055), (18, 262143), (19, 524287)], [], [(0, 0), (1, 0), (2, 0), (3, 6), (4, 15), (5, 31), (6, 0), (7, 0), (8, 0), (9, 384), (10, 960), (11, 1984), (12, 4095), (13, 8191)], [(0, 0), (1, 0), (2, 0), (3, 6), (4, 0), (5, 0), (6, 0), (7, 96), (8, 0), (9, 0), (10, 0), (11, 1536), (12, 3840), (13, 7936), (14, 0), (15, 0), (16, 0), (17, 98304), (18, 245760), (19, 507904), (20, 1048335), (21, 2096911), (22, 4194303), (23, 8388607)]].getD n [] }
def pl.f83 (c : CallT) (Q : Value → AH → Prop) : Plan := [
  (199, fun S T H => F.f83_j1 (sy c) Q (S 0) (T 0) (T 2) (T 3) (T 8) (T 9) H),
  (6, fun S T H => F.f83_l1 (sy c) Q (T 0) (T 2) (T 3) (T 8) H (S 0))]
theorem L.f83 (c : CallT) (x0 x1 x2 x3 : Value) (H : AH) (Q : Value → AH → Prop) (h : F.f83 (sy c) x0 x1 x2 x3 H Q) : evBody Try.prog c kp.f83 Try.f90 [x0, x1, x2, x3] H Q :=
  evBody_of (pl := pl.f83 c Q) Try.f90 _ H Q (bodyOf Try.f90) (by kernel_rfl) (by kernel_rfl) (by kernel_rfl) h

def kp.f66 : Keep := { keep := fun n => [[0, 1, 2], [0, 1, 2]].getD n [], order := fun n => [].getD n [] }
theorem L.f66 (c : CallT) (x0 x1 x2 : Value) (H : AH) (Q : Value → AH → Prop) (h : F.f66 (sy c) x0 x1 x2 H Q) : evBody Try.prog c kp.f66 Try.f93 [x0, x1, x2] H Q :=
  evBody_of (pl := []) Try.f93 _ H Q (bodyOf Try.f93) (by kernel_rfl) (by kernel_rfl) (by kernel_rfl) h

def kp.f68 : Keep := { keep := fun n => [[0, 1, 2, 3, 4], [0, 1, 2, 3, 4], [0, 1, 2, 3, 4], [0, 1, 2, 4], [2]].getD n [], order := fun n => [].getD n [] }
theorem L.f68 (c : CallT) (x0 x1 x2 x3 x4 : Value) (H : AH) (Q : Value → AH → Prop) (h : F.f68 (sy c) x0 x1 x2 x3 x4 H Q) : evBody Try.prog c kp.f68 Try.f94 [x0, x1, x2, x3, x4] H Q :=
  evBody_of (pl := []) Try.f94 _ H Q (bodyOf Try.f94) (by kernel_rfl) (by kernel_rfl) (by kernel_rfl) h

def kp.f3 : Keep := { keep := fun n => [[0], [0]].getD n [], order := fun n => [].getD n [] }
theorem L.f3 (c : CallT) (x0 : Value) (H : AH) (Q : Value → AH → Prop) (h : F.f3 (sy c) x0 H Q) : evBody Try.prog c kp.f3 Try.f95 [x0] H Q :=
  evBody_of (pl := []) Try.f95 _ H Q (bodyOf Try.f95) (by kernel_rfl) (by kernel_rfl) (by kernel_rfl) h

def kp.f70 : Keep := { keep := fun n => [[0, 1, 2, 3], [0, 1, 2, 3], [1, 2, 3], [1, 2], [1, 2]].getD n [], order := fun n => [[], [(0, 0), (1, 0), (2, 3), (3, 7), (4, 0), (5, 0), (6, 48), (7, 112), (8, 255)]].getD n [] }
theorem L.f70 (c : CallT) (x0 x1 x2 x3 : Value) (H : AH) (Q : Value → AH → Prop) (h : F.f70 (sy c) x0 x1 x2 x3 H Q) : evBody Try.prog c kp.f70 Try.f101 [x0, x1, x2, x3] H Q :=
  evBody_of (pl := []) Try.f101 _ H Q (bodyOf Try.f101) (by kernel_rfl) (by kernel_rfl) (by kernel_rfl) h

def kp.f71 : Keep := { keep := fun n => [[0, 1, 2, 3], [0, 1, 2, 3], [1, 2, 3], [1, 2], [1, 2]].getD n [], order := fun n => [[], [(0, 0), (1, 0), (2, 3), (3, 7), (4, 0), (5, 0), (6, 48), (7, 112), (8, 255)]].getD n [] }
theorem L.f71 (c : CallT) (x0 x1 x2 x3 : Value) (H : AH) (Q : Value → AH → Prop) (h : F.f71 (sy c) x0 x1 x2 x3 H Q) : evBody Try.prog c kp.f71 Try.f100 [x0, x1, x2, x3] H Q :=
  evBody_of (pl := []) Try.f100 _ H Q (bodyOf Try.f100) (by kernel_rfl) (by kernel_rfl) (by kernel_rfl) h

def kpL : List (Nat × Keep) := [(8, kp.f31), (9, kp.f29), (33, kp.f32), (10, kp.f6), (18, kp.f35), (34, kp.f30), (35, kp.f17), (15, kp.f11), (11, kp.f14), (17, kp.f7), (14, kp.f9), (57, kp.f33), (19, kp.f42), (58, kp.f36), (53, kp.f38), (16, kp.f15), (26, kp.f43), (12, kp.f12), (59, kp.f39), (13, kp.f19), (60, kp.f46), (32, kp.f8), (61, kp.f37), (28, kp.f13), (49, kp.f41), (30, kp.f16), (20, kp.f10), (36, kp.f23), (37, kp.f20), (38, kp.f88), (39, kp.f25), (42, kp.f49), (23, kp.f40), (43, kp.f47), (44, kp.f53), (48, kp.f44), (51, kp.f52), (54, kp.f54), (67, kp.f51), (40, kp.f21), (41, kp.f22), (50, kp.f48), (22, kp.f34), (25, kp.f45), (52, kp.f50), (55, kp.f55), (45, kp.f56), (21, kp.f4), (24, kp.f18), (63, kp.f24), (65, kp.f26), (68, kp.f78), (64, kp.f79), (46, kp.f85), (47, kp.f5), (79, kp.f27), (80, kp.f28), (81, kp.f63), (82, kp.f61), (83, kp.f57), (84, kp.f59), (85, kp.f80), (86, kp.f72), (87, kp.f0), (88, kp.f74), (89, kp.f76), (70, kp.f64), (71, kp.f62), (72, kp.f58), (73, kp.f60), (74, kp.f81), (75, kp.f73), (76, kp.f1), (77, kp.f75), (78, kp.f77), (66, kp.f86), (96, kp.f82), (91, kp.f69), (92, kp.f84), (97, kp.f65), (98, kp.f67), (99, kp.f2), (90, kp.f83), (93, kp.f66), (94, kp.f68), (95, kp.f3), (101, kp.f70), (100, kp.f71)]
def kps (f : FuncId) : Keep := ((kpL.find? (fun p => p.1 == f)).map (fun p => p.2)).getD { keep := fun _ => [], order := fun _ => [] }
def ext : CallT := fun f args H K => (f = 62 ∧ ∃ x0 x1, args = [x0, x1] ∧ atomicAdd x0 x1 H K) ∨ False
theorem extOk : CallOk Try.prog ext := by
  rintro f args H K (⟨rfl, h⟩ | h)
  · exact atomicAdd_told Try.func62 (by kernel_rfl) (by kernel_rfl) (by kernel_rfl) (by kernel_rfl) h
  · exact h.elim
theorem fold_f31 (x0 : Value) (H : AH) (Q : Value → AH → Prop) (h : F.f31 (sy (CallW Try.prog kps ext)) x0 H Q) : CallW Try.prog kps ext 8 [x0] H Q :=
  CallW.fold (⟨Try.func8, by kernel_rfl, by kernel_rfl, by kernel_rfl⟩ : Go.AM.Good Try.prog 8 Try.f8) (Eq.mpr (by kernel_rfl : evBody Try.prog (CallW Try.prog kps ext) (kps 8) Try.f8 [x0] H Q = evBody Try.prog (CallW Try.prog kps ext) kp.f31 Try.f8 [x0] H Q) (L.f31 (CallW Try.prog kps ext) x0 H Q h))
theorem fold_f29 (H : AH) (Q : Value → AH → Prop) (h : F.f29 (sy (CallW Try.prog kps ext)) H Q) : CallW Try.prog kps ext 9 [] H Q :=
  CallW.fold (⟨Try.func9, by kernel_rfl, by kernel_rfl, by kernel_rfl⟩ : Go.AM.Good Try.prog 9 Try.f9) (Eq.mpr (by kernel_rfl : evBody Try.prog (CallW Try.prog kps ext) (kps 9) Try.f9 [] H Q = evBody Try.prog (CallW Try.prog kps ext) kp.f29 Try.f9 [] H Q) (L.f29 (CallW Try.prog kps ext) H Q h))
theorem fold_f32 (x0 : Value) (H : AH) (Q : Value → AH → Prop) (h : F.f32 (sy (CallW Try.prog kps ext)) x0 H Q) : CallW Try.prog kps ext 33 [x0] H Q :=
  CallW.fold (⟨Try.func33, by kernel_rfl, by kernel_rfl, by kernel_rfl⟩ : Go.AM.Good Try.prog 33 Try.f33) (Eq.mpr (by kernel_rfl : evBody Try.prog (CallW Try.prog kps ext) (kps 33) Try.f33 [x0] H Q = evBody Try.prog (CallW Try.prog kps ext) kp.f32 Try.f33 [x0] H Q) (L.f32 (CallW Try.prog kps ext) x0 H Q h))
theorem fold_f6 (x0 : Value) (H : AH) (Q : Value → AH → Prop) (h : F.f6 (sy (CallW Try.prog kps ext)) x0 H Q) : CallW Try.prog kps ext 10 [x0] H Q :=
  CallW.fold (⟨Try.func10, by kernel_rfl, by kernel_rfl, by kernel_rfl⟩ : Go.AM.Good Try.prog 10 Try.f10) (Eq.mpr (by kernel_rfl : evBody Try.prog (CallW Try.prog kps ext) (kps 10) Try.f10 [x0] H Q = evBody Try.prog (CallW Try.prog kps ext) kp.f6 Try.f10 [x0] H Q) (L.f6 (CallW Try.prog kps ext) x0 H Q h))
theorem fold_f35 (x0 : Value) (H : AH) (Q : Value → AH → Prop) (h : F.f35 (sy (CallW Try.prog kps ext)) x0 H Q) : CallW Try.prog kps ext 18 [x0] H Q :=
  CallW.fold (⟨Try.func18, by kernel_rfl, by kernel_rfl, by kernel_rfl⟩ : Go.AM.Good Try.prog 18 Try.f18) (Eq.mpr (by kernel_rfl : evBody Try.prog (CallW Try.prog kps ext) (kps 18) Try.f18 [x0] H Q = evBody Try.prog (CallW Try.prog kps ext) kp.f35 Try.f18 [x0] H Q) (L.f35 (CallW Try.prog kps ext) x0 H Q h))
theorem fold_f30 (x0 x1 x2 : Value) (H : AH) (Q : Value → AH → Prop) (h : F.f30 (sy (CallW Try.prog kps ext)) x0 x1 x2 H Q) : CallW Try.prog kps ext 34 [x0, x1, x2] H Q :=
  CallW.fold (⟨Try.func34, by kernel_rfl, by kernel_rfl, by kernel_rfl⟩ : Go.AM.Good Try.prog 34 Try.f34) (Eq.mpr (by kernel_rfl : evBody Try.prog (CallW Try.prog kps ext) (kps 34) Try.f34 [x0, x1, x2] H Q = evBody Try.prog (CallW Try.prog kps ext) kp.f30 Try.f34 [x0, x1, x2] H Q) (L.f30 (CallW Try.prog kps ext) x0 x1 x2 H Q h))
theorem fold_f17 (x0 x1 : Value) (H : AH) (Q : Value → AH → Prop) (h : F.f17 (sy (CallW Try.prog kps ext)) x0 x1 H Q) : CallW Try.prog kps ext 35 [x0, x1] H Q :=
  CallW.fold (⟨Try.func35, by kernel_rfl, by kernel_rfl, by kernel_rfl⟩ : Go.AM.Good Try.prog 35 Try.f35) (Eq.mpr (by kernel_rfl : evBody Try.prog (CallW Try.prog kps ext) (kps 35) Try.f35 [x0, x1] H Q = evBody Try.prog (CallW Try.prog kps ext) kp.f17 Try.f35 [x0, x1] H Q) (L.f17 (CallW Try.prog kps ext) x0 x1 H Q h))
theorem fold_f11 (x0 x1 : Value) (H : AH) (Q : Value → AH → Prop) (h : F.f11 (sy (CallW Try.prog kps ext)) x0 x1 H Q) : CallW Try.prog kps ext 15 [x0, x1] H Q :=
  CallW.fold (⟨Try.func15, by kernel_rfl, by kernel_rfl, by kernel_rfl⟩ : Go.AM.Good Try.prog 15 Try.f15) (Eq.mpr (by kernel_rfl : evBody Try.prog (CallW Try.prog kps ext) (kps 15) Try.f15 [x0, x1] H Q = evBody Try.prog (CallW Try.prog kps ext) kp.f11 Try.f15 [x0, x1] H Q) (L.f11 (CallW Try.prog kps ext) x0 x1 H Q h))
theorem fold_f14 (x0 x1 x2 x3 x4 : Value) (H : AH) (Q : Value → AH → Prop) (h : F.f14 (sy (CallW Try.prog kps ext)) x0 x1 x2 x3 x4 H Q) : CallW Try.prog kps ext 11 [x0, x1, x2, x3, x4] H Q :=
  CallW.fold (⟨Try.func11, by kernel_rfl, by kernel_rfl, by kernel_rfl⟩ : Go.AM.Good Try.prog 11 Try.f11) (Eq.mpr (by kernel_rfl : evBody Try.prog (CallW Try.prog kps ext) (kps 11) Try.f11 [x0, x1, x2, x3, x4] H Q = evBody Try.prog (CallW Try.prog kps ext) kp.f14 Try.f11 [x0, x1, x2, x3, x4] H Q) (L.f14 (CallW Try.prog kps ext) x0 x1 x2 x3 x4 H Q h))
theorem fold_f7 (x0 x1 x2 x3 : Value) (H : AH) (Q : Value → AH → Prop) (h : F.f7 (sy (CallW Try.prog kps ext)) x0 x1 x2 x3 H Q) : CallW Try.prog kps ext 17 [x0, x1, x2, x3] H Q :=
  CallW.fold (⟨Try.func17, by kernel_rfl, by kernel_rfl, by kernel_rfl⟩ : Go.AM.Good Try.prog 17 Try.f17) (Eq.mpr (by kernel_rfl : evBody Try.prog (CallW Try.prog kps ext) (kps 17) Try.f17 [x0, x1, x2, x3] H Q = evBody Try.prog (CallW Try.prog kps ext) kp.f7 Try.f17 [x0, x1, x2, x3] H Q) (L.f7 (CallW Try.prog kps ext) x0 x1 x2 x3 H Q h))
theorem fold_f9 (x0 x1 x2 x3 : Value) (H : AH) (Q : Value → AH → Prop) (h : F.f9 (sy (CallW Try.prog kps ext)) x0 x1 x2 x3 H Q) : CallW Try.prog kps ext 14 [x0, x1, x2, x3] H Q :=
  CallW.fold (⟨Try.func14, by kernel_rfl, by kernel_rfl, by kernel_rfl⟩ : Go.AM.Good Try.prog 14 Try.f14) (Eq.mpr (by kernel_rfl : evBody Try.prog (CallW Try.prog kps ext) (kps 14) Try.f14 [x0, x1, x2, x3] H Q = evBody Try.prog (CallW Try.prog kps ext) kp.f9 Try.f14 [x0, x1, x2, x3] H Q) (L.f9 (CallW Try.prog kps ext) x0 x1 x2 x3 H Q h))
theorem fold_f33 (H : AH) (Q : Value → AH → Prop) (h : F.f33 (sy (CallW Try.prog kps ext)) H Q) : CallW Try.prog kps ext 57 [] H Q :=
  CallW.fold (⟨Try.func57, by kernel_rfl, by kernel_rfl, by kernel_rfl⟩ : Go.AM.Good Try.prog 57 Try.f57) (Eq.mpr (by kernel_rfl : evBody Try.prog (CallW Try.prog kps ext) (kps 57) Try.f57 [] H Q = evBody Try.prog (CallW Try.prog kps ext) kp.f33 Try.f57 [] H Q) (L.f33 (CallW Try.prog kps ext) H Q h))
theorem fold_f42 (x0 x1 x2 x3 x4 : Value) (H : AH) (Q : Value → AH → Prop) (h : F.f42 (sy (CallW Try.prog kps ext)) x0 x1 x2 x3 x4 H Q) : CallW Try.prog kps ext 19 [x0, x1, x2, x3, x4] H Q :=
  CallW.fold (⟨Try.func19, by kernel_rfl, by kernel_rfl, by kernel_rfl⟩ : Go.AM.Good Try.prog 19 Try.f19) (Eq.mpr (by kernel_rfl : evBody Try.prog (CallW Try.prog kps ext) (kps 19) Try.f19 [x0, x1, x2, x3, x4] H Q = evBody Try.prog (CallW Try.prog kps ext) kp.f42 Try.f19 [x0, x1, x2, x3, x4] H Q) (L.f42 (CallW Try.prog kps ext) x0 x1 x2 x3 x4 H Q h))
theorem fold_f36 (x0 x1 x2 x3 : Value) (H : AH) (Q : Value → AH → Prop) (h : F.f36 (sy (CallW Try.prog kps ext)) x0 x1 x2 x3 H Q) : CallW Try.prog kps ext 58 [x0, x1, x2, x3] H Q :=
  CallW.fold (⟨Try.func58, by kernel_rfl, by kernel_rfl, by kernel_rfl⟩ : Go.AM.Good Try.prog 58 Try.f58) (Eq.mpr (by kernel_rfl : evBody Try.prog (CallW Try.prog kps ext) (kps 58) Try.f58 [x0, x1, x2, x3] H Q = evBody Try.prog (CallW Try.prog kps ext) kp.f36 Try.f58 [x0, x1, x2, x3] H Q) (L.f36 (CallW Try.prog kps ext) x0 x1 x2 x3 H Q h))
theorem fold_f38 (x0 x1 x2 x3 : Value) (H : AH) (Q : Value → AH → Prop) (h : F.f38 (sy (CallW Try.prog kps ext)) x0 x1 x2 x3 H Q) : CallW Try.prog kps ext 53 [x0, x1, x2, x3] H Q :=
  CallW.fold (⟨Try.func53, by kernel_rfl, by kernel_rfl, by kernel_rfl⟩ : Go.AM.Good Try.prog 53 Try.f53) (Eq.mpr (by kernel_rfl : evBody Try.prog (CallW Try.prog kps ext) (kps 53) Try.f53 [x0, x1, x2, x3] H Q = evBody Try.prog (CallW Try.prog kps ext) kp.f38 Try.f53 [x0, x1, x2, x3] H Q) (L.f38 (CallW Try.prog kps ext) x0 x1 x2 x3 H Q h))
theorem fold_f15 (x0 x1 x2 x3 x4 : Value) (H : AH) (Q : Value → AH → Prop) (h : F.f15 (sy (CallW Try.prog kps ext)) x0 x1 x2 x3 x4 H Q) : CallW Try.prog kps ext 16 [x0, x1, x2, x3, x4] H Q :=
  CallW.fold (⟨Try.func16, by kernel_rfl, by kernel_rfl, by kernel_rfl⟩ : Go.AM.Good Try.prog 16 Try.f16) (Eq.mpr (by kernel_rfl : evBody Try.prog (CallW Try.prog kps ext) (kps 16) Try.f16 [x0, x1, x2, x3, x4] H Q = evBody Try.prog (CallW Try.prog kps ext) kp.f15 Try.f16 [x0, x1, x2, x3, x4] H Q) (L.f15 (CallW Try.prog kps ext) x0 x1 x2 x3 x4 H Q h))
theorem fold_f43 (x0 x1 x2 x3 x4 : Value) (H : AH) (Q : Value → AH → Prop) (h : F.f43 (sy (CallW Try.prog kps ext)) x0 x1 x2 x3 x4 H Q) : CallW Try.prog kps ext 26 [x0, x1, x2, x3, x4] H Q :=
  CallW.fold (⟨Try.func26, by kernel_rfl, by kernel_rfl, by kernel_rfl⟩ : Go.AM.Good Try.prog 26 Try.f26) (Eq.mpr (by kernel_rfl : evBody Try.prog (CallW Try.prog kps ext) (kps 26) Try.f26 [x0, x1, x2, x3, x4] H Q = evBody Try.prog (CallW Try.prog kps ext) kp.f43 Try.f26 [x0, x1, x2, x3, x4] H Q) (L.f43 (CallW Try.prog kps ext) x0 x1 x2 x3 x4 H Q h))
theorem fold_f12 (x0 x1 x2 : Value) (H : AH) (Q : Value → AH → Prop) (h : F.f12 (sy (CallW Try.prog kps ext)) x0 x1 x2 H Q) : CallW Try.prog kps ext 12 [x0, x1, x2] H Q :=
  CallW.fold (⟨Try.func12, by kernel_rfl, by kernel_rfl, by kernel_rfl⟩ : Go.AM.Good Try.prog 12 Try.f12) (Eq.mpr (by kernel_rfl : evBody Try.prog (CallW Try.prog kps ext) (kps 12) Try.f12 [x0, x1, x2] H Q = evBody Try.prog (CallW Try.prog kps ext) kp.f12 Try.f12 [x0, x1, x2] H Q) (L.f12 (CallW Try.prog kps ext) x0 x1 x2 H Q h))
theorem fold_f39 (x0 x1 x2 : Value) (H : AH) (Q : Value → AH → Prop) (h : F.f39 (sy (CallW Try.prog kps ext)) x0 x1 x2 H Q) : CallW Try.prog kps ext 59 [x0, x1, x2] H Q :=
  CallW.fold (⟨Try.func59, by kernel_rfl, by kernel_rfl, by kernel_rfl⟩ : Go.AM.Good Try.prog 59 Try.f59) (Eq.mpr (by kernel_rfl : evBody Try.prog (CallW Try.prog kps ext) (kps 59) Try.f59 [x0, x1, x2] H Q = evBody Try.prog (CallW Try.prog kps ext) kp.f39 Try.f59 [x0, x1, x2] H Q) (L.f39 (CallW Try.prog kps ext) x0 x1 x2 H Q h))
theorem fold_f19 (x0 x1 x2 x3 : Value) (H : AH) (Q : Value → AH → Prop) (h : F.f19 (sy (CallW Try.prog kps ext)) x0 x1 x2 x3 H Q) : CallW Try.prog kps ext 13 [x0, x1, x2, x3] H Q :=
  CallW.fold (⟨Try.func13, by kernel_rfl, by kernel_rfl, by kernel_rfl⟩ : Go.AM.Good Try.prog 13 Try.f13) (Eq.mpr (by kernel_rfl : evBody Try.prog (CallW Try.prog kps ext) (kps 13) Try.f13 [x0, x1, x2, x3] H Q = evBody Try.prog (CallW Try.prog kps ext) kp.f19 Try.f13 [x0, x1, x2, x3] H Q) (L.f19 (CallW Try.prog kps ext) x0 x1 x2 x3 H Q h))
theorem fold_f46 (x0 x1 x2 x3 : Value) (H : AH) (Q : Value → AH → Prop) (h : F.f46 (sy (CallW Try.prog kps ext)) x0 x1 x2 x3 H Q) : CallW Try.prog kps ext 60 [x0, x1, x2, x3] H Q :=
  CallW.fold (⟨Try.func60, by kernel_rfl, by kernel_rfl, by kernel_rfl⟩ : Go.AM.Good Try.prog 60 Try.f60) (Eq.mpr (by kernel_rfl : evBody Try.prog (CallW Try.prog kps ext) (kps 60) Try.f60 [x0, x1, x2, x3] H Q = evBody Try.prog (CallW Try.prog kps ext) kp.f46 Try.f60 [x0, x1, x2, x3] H Q) (L.f46 (CallW Try.prog kps ext) x0 x1 x2 x3 H Q h))
theorem fold_f8 (x0 x1 x2 : Value) (H : AH) (Q : Value → AH → Prop) (h : F.f8 (sy (CallW Try.prog kps ext)) x0 x1 x2 H Q) : CallW Try.prog kps ext 32 [x0, x1, x2] H Q :=
  CallW.fold (⟨Try.func32, by kernel_rfl, by kernel_rfl, by kernel_rfl⟩ : Go.AM.Good Try.prog 32 Try.f32) (Eq.mpr (by kernel_rfl : evBody Try.prog (CallW Try.prog kps ext) (kps 32) Try.f32 [x0, x1, x2] H Q = evBody Try.prog (CallW Try.prog kps ext) kp.f8 Try.f32 [x0, x1, x2] H Q) (L.f8 (CallW Try.prog kps ext) x0 x1 x2 H Q h))
theorem fold_f37 (x0 x1 x2 : Value) (H : AH) (Q : Value → AH → Prop) (h : F.f37 (sy (CallW Try.prog kps ext)) x0 x1 x2 H Q) : CallW Try.prog kps ext 61 [x0, x1, x2] H Q :=
  CallW.fold (⟨Try.func61, by kernel_rfl, by kernel_rfl, by kernel_rfl⟩ : Go.AM.Good Try.prog 61 Try.f61) (Eq.mpr (by kernel_rfl : evBody Try.prog (CallW Try.prog kps ext) (kps 61) Try.f61 [x0, x1, x2] H Q = evBody Try.prog (CallW Try.prog kps ext) kp.f37 Try.f61 [x0, x1, x2] H Q) (L.f37 (CallW Try.prog kps ext) x0 x1 x2 H Q h))
theorem fold_f13 (x0 x1 x2 : Value) (H : AH) (Q : Value → AH → Prop) (h : F.f13 (sy (CallW Try.prog kps ext)) x0 x1 x2 H Q) : CallW Try.prog kps ext 28 [x0, x1, x2] H Q :=
  CallW.fold (⟨Try.func28, by kernel_rfl, by kernel_rfl, by kernel_rfl⟩ : Go.AM.Good Try.prog 28 Try.f28) (Eq.mpr (by kernel_rfl : evBody Try.prog (CallW Try.prog kps ext) (kps 28) Try.f28 [x0, x1, x2] H Q = evBody Try.prog (CallW Try.prog kps ext) kp.f13 Try.f28 [x0, x1, x2] H Q) (L.f13 (CallW Try.prog kps ext) x0 x1 x2 H Q h))
theorem fold_f41 (x0 x1 x2 : Value) (H : AH) (Q : Value → AH → Prop) (h : F.f41 (sy (CallW Try.prog kps ext)) x0 x1 x2 H Q) : CallW Try.prog kps ext 49 [x0, x1, x2] H Q :=
  CallW.fold (⟨Try.func49, by kernel_rfl, by kernel_rfl, by kernel_rfl⟩ : Go.AM.Good Try.prog 49 Try.f49) (Eq.mpr (by kernel_rfl : evBody Try.prog (CallW Try.prog kps ext) (kps 49) Try.f49 [x0, x1, x2] H Q = evBody Try.prog (CallW Try.prog kps ext) kp.f41 Try.f49 [x0, x1, x2] H Q) (L.f41 (CallW Try.prog kps ext) x0 x1 x2 H Q h))
theorem fold_f16 (x0 : Value) (H : AH) (Q : Value → AH → Prop) (h : F.f16 (sy (CallW Try.prog kps ext)) x0 H Q) : CallW Try.prog kps ext 30 [x0] H Q :=
  CallW.fold (⟨Try.func30, by kernel_rfl, by kernel_rfl, by kernel_rfl⟩ : Go.AM.Good Try.prog 30 Try.f30) (Eq.mpr (by kernel_rfl : evBody Try.prog (CallW Try.prog kps ext) (kps 30) Try.f30 [x0] H Q = evBody Try.prog (CallW Try.prog kps ext) kp.f16 Try.f30 [x0] H Q) (L.f16 (CallW Try.prog kps ext) x0 H Q h))
theorem fold_f10 (x0 x1 : Value) (H : AH) (Q : Value → AH → Prop) (h : F.f10 (sy (CallW Try.prog kps ext)) x0 x1 H Q) : CallW Try.prog kps ext 20 [x0, x1] H Q :=
  CallW.fold (⟨Try.func20, by kernel_rfl, by kernel_rfl, by kernel_rfl⟩ : Go.AM.Good Try.prog 20 Try.f20) (Eq.mpr (by kernel_rfl : evBody Try.prog (CallW Try.prog kps ext) (kps 20) Try.f20 [x0, x1] H Q = evBody Try.prog (CallW Try.prog kps ext) kp.f10 Try.f20 [x0, x1] H Q) (L.f10 (CallW Try.prog kps ext) x0 x1 H Q h))
theorem fold_f23 (x0 x1 x2 : Value) (H : AH) (Q : Value → AH → Prop) (h : F.f23 (sy (CallW Try.prog kps ext)) x0 x1 x2 H Q) : CallW Try.prog kps ext 36 [x0, x1, x2] H Q :=
  CallW.fold (⟨Try.func36, by kernel_rfl, by kernel_rfl, by kernel_rfl⟩ : Go.AM.Good Try.prog 36 Try.f36) (Eq.mpr (by kernel_rfl : evBody Try.prog (CallW Try.prog kps ext) (kps 36) Try.f36 [x0, x1, x2] H Q = evBody Try.prog (CallW Try.prog kps ext) kp.f23 Try.f36 [x0, x1, x2] H Q) (L.f23 (CallW Try.prog kps ext) x0 x1 x2 H Q h))
theorem fold_f20 (x0 x1 : Value) (H : AH) (Q : Value → AH → Prop) (h : F.f20 (sy (CallW Try.prog kps ext)) x0 x1 H Q) : CallW Try.prog kps ext 37 [x0, x1] H Q :=
  CallW.fold (⟨Try.func37, by kernel_rfl, by kernel_rfl, by kernel_rfl⟩ : Go.AM.Good Try.prog 37 Try.f37) (Eq.mpr (by kernel_rfl : evBody Try.prog (CallW Try.prog kps ext) (kps 37) Try.f37 [x0, x1] H Q = evBody Try.prog (CallW Try.prog kps ext) kp.f20 Try.f37 [x0, x1] H Q) (L.f20 (CallW Try.prog kps ext) x0 x1 H Q h))
theorem fold_f88 (x0 x1 : Value) (H : AH) (Q : Value → AH → Prop) (h : F.f88 (sy (CallW Try.prog kps ext)) x0 x1 H Q) : CallW Try.prog kps ext 38 [x0, x1] H Q :=
  CallW.fold (⟨Try.func38, by kernel_rfl, by kernel_rfl, by kernel_rfl⟩ : Go.AM.Good Try.prog 38 Try.f38) (Eq.mpr (by kernel_rfl : evBody Try.prog (CallW Try.prog kps ext) (kps 38) Try.f38 [x0, x1] H Q = evBody Try.prog (CallW Try.prog kps ext) kp.f88 Try.f38 [x0, x1] H Q) (L.f88 (CallW Try.prog kps ext) x0 x1 H Q h))
theorem fold_f25 (x0 x1 : Value) (H : AH) (Q : Value → AH → Prop) (h : F.f25 (sy (CallW Try.prog kps ext)) x0 x1 H Q) : CallW Try.prog kps ext 39 [x0, x1] H Q :=
  CallW.fold (⟨Try.func39, by kernel_rfl, by kernel_rfl, by kernel_rfl⟩ : Go.AM.Good Try.prog 39 Try.f39) (Eq.mpr (by kernel_rfl : evBody Try.prog (CallW Try.prog kps ext) (kps 39) Try.f39 [x0, x1] H Q = evBody Try.prog (CallW Try.prog kps ext) kp.f25 Try.f39 [x0, x1] H Q) (L.f25 (CallW Try.prog kps ext) x0 x1 H Q h))
theorem fold_f49 (x0 x1 x2 : Value) (H : AH) (Q : Value → AH → Prop) (h : F.f49 (sy (CallW Try.prog kps ext)) x0 x1 x2 H Q) : CallW Try.prog kps ext 42 [x0, x1, x2] H Q :=
  CallW.fold (⟨Try.func42, by kernel_rfl, by kernel_rfl, by kernel_rfl⟩ : Go.AM.Good Try.prog 42 Try.f42) (Eq.mpr (by kernel_rfl : evBody Try.prog (CallW Try.prog kps ext) (kps 42) Try.f42 [x0, x1, x2] H Q = evBody Try.prog (CallW Try.prog kps ext) kp.f49 Try.f42 [x0, x1, x2] H Q) (L.f49 (CallW Try.prog kps ext) x0 x1 x2 H Q h))
theorem fold_f40 (x0 : Value) (H : AH) (Q : Value → AH → Prop) (h : F.f40 (sy (CallW Try.prog kps ext)) x0 H Q) : CallW Try.prog kps ext 23 [x0] H Q :=
  CallW.fold (⟨Try.func23, by kernel_rfl, by kernel_rfl, by kernel_rfl⟩ : Go.AM.Good Try.prog 23 Try.f23) (Eq.mpr (by kernel_rfl : evBody Try.prog (CallW Try.prog kps ext) (kps 23) Try.f23 [x0] H Q = evBody Try.prog (CallW Try.prog kps ext) kp.f40 Try.f23 [x0] H Q) (L.f40 (CallW Try.prog kps ext) x0 H Q h))
theorem fold_f47 (x0 x1 : Value) (H : AH) (Q : Value → AH → Prop) (h : F.f47 (sy (CallW Try.prog kps ext)) x0 x1 H Q) : CallW Try.prog kps ext 43 [x0, x1] H Q :=
  CallW.fold (⟨Try.func43, by kernel_rfl, by kernel_rfl, by kernel_rfl⟩ : Go.AM.Good Try.prog 43 Try.f43) (Eq.mpr (by kernel_rfl : evBody Try.prog (CallW Try.prog kps ext) (kps 43) Try.f43 [x0, x1] H Q = evBody Try.prog (CallW Try.prog kps ext) kp.f47 Try.f43 [x0, x1] H Q) (L.f47 (CallW Try.prog kps ext) x0 x1 H Q h))
theorem fold_f53 (x0 x1 : Value) (H : AH) (Q : Value → AH → Prop) (h : F.f53 (sy (CallW Try.prog kps ext)) x0 x1 H Q) : CallW Try.prog kps ext 44 [x0, x1] H Q :=
  CallW.fold (⟨Try.func44, by kernel_rfl, by kernel_rfl, by kernel_rfl⟩ : Go.AM.Good Try.prog 44 Try.f44) (Eq.mpr (by kernel_rfl : evBody Try.prog (CallW Try.prog kps ext) (kps 44) Try.f44 [x0, x1] H Q = evBody Try.prog (CallW Try.prog kps ext) kp.f53 Try.f44 [x0, x1] H Q) (L.f53 (CallW Try.prog kps ext) x0 x1 H Q h))
theorem fold_f44 (x0 x1 : Value) (H : AH) (Q : Value → AH → Prop) (h : F.f44 (sy (CallW Try.prog kps ext)) x0 x1 H Q) : CallW Try.prog kps ext 48 [x0, x1] H Q :=
  CallW.fold (⟨Try.func48, by kernel_rfl, by kernel_rfl, by kernel_rfl⟩ : Go.AM.Good Try.prog 48 Try.f48) (Eq.mpr (by kernel_rfl : evBody Try.prog (CallW Try.prog kps ext) (kps 48) Try.f48 [x0, x1] H Q = evBody Try.prog (CallW Try.prog kps ext) kp.f44 Try.f48 [x0, x1] H Q) (L.f44 (CallW Try.prog kps ext) x0 x1 H Q h))
theorem fold_f52 (x0 x1 : Value) (H : AH) (Q : Value → AH → Prop) (h : F.f52 (sy (CallW Try.prog kps ext)) x0 x1 H Q) : CallW Try.prog kps ext 51 [x0, x1] H Q :=
  CallW.fold (⟨Try.func51, by kernel_rfl, by kernel_rfl, by kernel_rfl⟩ : Go.AM.Good Try.prog 51 Try.f51) (Eq.mpr (by kernel_rfl : evBody Try.prog (CallW Try.prog kps ext) (kps 51) Try.f51 [x0, x1] H Q = evBody Try.prog (CallW Try.prog kps ext) kp.f52 Try.f51 [x0, x1] H Q) (L.f52 (CallW Try.prog kps ext) x0 x1 H Q h))
theorem fold_f54 (x0 x1 : Value) (H : AH) (Q : Value → AH → Prop) (h : F.f54 (sy (CallW Try.prog kps ext)) x0 x1 H Q) : CallW Try.prog kps ext 54 [x0, x1] H Q :=
  CallW.fold (⟨Try.func54, by kernel_rfl, by kernel_rfl, by kernel_rfl⟩ : Go.AM.Good Try.prog 54 Try.f54) (Eq.mpr (by kernel_rfl : evBody Try.prog (CallW Try.prog kps ext) (kps 54) Try.f54 [x0, x1] H Q = evBody Try.prog (CallW Try.prog kps ext) kp.f54 Try.f54 [x0, x1] H Q) (L.f54 (CallW Try.prog kps ext) x0 x1 H Q h))
theorem fold_f51 (x0 x1 : Value) (H : AH) (Q : Value → AH → Prop) (h : F.f51 (sy (CallW Try.prog kps ext)) x0 x1 H Q) : CallW Try.prog kps ext 67 [x0, x1] H Q :=
  CallW.fold (⟨Try.func67, by kernel_rfl, by kernel_rfl, by kernel_rfl⟩ : Go.AM.Good Try.prog 67 Try.f67) (Eq.mpr (by kernel_rfl : evBody Try.prog (CallW Try.prog kps ext) (kps 67) Try.f67 [x0, x1] H Q = evBody Try.prog (CallW Try.prog kps ext) kp.f51 Try.f67 [x0, x1] H Q) (L.f51 (CallW Try.prog kps ext) x0 x1 H Q h))
theorem fold_f21 (x0 x1 : Value) (H : AH) (Q : Value → AH → Prop) (h : F.f21 (sy (CallW Try.prog kps ext)) x0 x1 H Q) : CallW Try.prog kps ext 40 [x0, x1] H Q :=
  CallW.fold (⟨Try.func40, by kernel_rfl, by kernel_rfl, by kernel_rfl⟩ : Go.AM.Good Try.prog 40 Try.f40) (Eq.mpr (by kernel_rfl : evBody Try.prog (CallW Try.prog kps ext) (kps 40) Try.f40 [x0, x1] H Q = evBody Try.prog (CallW Try.prog kps ext) kp.f21 Try.f40 [x0, x1] H Q) (L.f21 (CallW Try.prog kps ext) x0 x1 H Q h))
theorem fold_f22 (x0 x1 x2 x3 x4 x5 : Value) (H : AH) (Q : Value → AH → Prop) (h : F.f22 (sy (CallW Try.prog kps ext)) x0 x1 x2 x3 x4 x5 H Q) : CallW Try.prog kps ext 41 [x0, x1, x2, x3, x4, x5] H Q :=
  CallW.fold (⟨Try.func41, by kernel_rfl, by kernel_rfl, by kernel_rfl⟩ : Go.AM.Good Try.prog 41 Try.f41) (Eq.mpr (by kernel_rfl : evBody Try.prog (CallW Try.prog kps ext) (kps 41) Try.f41 [x0, x1, x2, x3, x4, x5] H Q = evBody Try.prog (CallW Try.prog kps ext) kp.f22 Try.f41 [x0, x1, x2, x3, x4, x5] H Q) (L.f22 (CallW Try.prog kps ext) x0 x1 x2 x3 x4 x5 H Q h))
theorem fold_f48 (x0 x1 : Value) (H : AH) (Q : Value → AH → Prop) (h : F.f48 (sy (CallW Try.prog kps ext)) x0 x1 H Q) : CallW Try.prog kps ext 50 [x0, x1] H Q :=
  CallW.fold (⟨Try.func50, by kernel_rfl, by kernel_rfl, by kernel_rfl⟩ : Go.AM.Good Try.prog 50 Try.f50) (Eq.mpr (by kernel_rfl : evBody Try.prog (CallW Try.prog kps ext) (kps 50) Try.f50 [x0, x1] H Q = evBody Try.prog (CallW Try.prog kps ext) kp.f48 Try.f50 [x0, x1] H Q) (L.f48 (CallW Try.prog kps ext) x0 x1 H Q h))
theorem fold_f34 (x0 : Value) (H : AH) (Q : Value → AH → Prop) (h : F.f34 (sy (CallW Try.prog kps ext)) x0 H Q) : CallW Try.prog kps ext 22 [x0] H Q :=
  CallW.fold (⟨Try.func22, by kernel_rfl, by kernel_rfl, by kernel_rfl⟩ : Go.AM.Good Try.prog 22 Try.f22) (Eq.mpr (by kernel_rfl : evBody Try.prog (CallW Try.prog kps ext) (kps 22) Try.f22 [x0] H Q = evBody Try.prog (CallW Try.prog kps ext) kp.f34 Try.f22 [x0] H Q) (L.f34 (CallW Try.prog kps ext) x0 H Q h))
theorem fold_f45 (x0 x1 x2 : Value) (H : AH) (Q : Value → AH → Prop) (h : F.f45 (sy (CallW Try.prog kps ext)) x0 x1 x2 H Q) : CallW Try.prog kps ext 25 [x0, x1, x2] H Q :=
  CallW.fold (⟨Try.func25, by kernel_rfl, by kernel_rfl, by kernel_rfl⟩ : Go.AM.Good Try.prog 25 Try.f25) (Eq.mpr (by kernel_rfl : evBody Try.prog (CallW Try.prog kps ext) (kps 25) Try.f25 [x0, x1, x2] H Q = evBody Try.prog (CallW Try.prog kps ext) kp.f45 Try.f25 [x0, x1, x2] H Q) (L.f45 (CallW Try.prog kps ext) x0 x1 x2 H Q h))
theorem fold_f50 (x0 x1 : Value) (H : AH) (Q : Value → AH → Prop) (h : F.f50 (sy (CallW Try.prog kps ext)) x0 x1 H Q) : CallW Try.prog kps ext 52 [x0, x1] H Q :=
  CallW.fold (⟨Try.func52, by kernel_rfl, by kernel_rfl, by kernel_rfl⟩ : Go.AM.Good Try.prog 52 Try.f52) (Eq.mpr (by kernel_rfl : evBody Try.prog (CallW Try.prog kps ext) (kps 52) Try.f52 [x0, x1] H Q = evBody Try.prog (CallW Try.prog kps ext) kp.f50 Try.f52 [x0, x1] H Q) (L.f50 (CallW Try.prog kps ext) x0 x1 H Q h))
theorem fold_f55 (x0 : Value) (H : AH) (Q : Value → AH → Prop) (h : F.f55 (sy (CallW Try.prog kps ext)) x0 H Q) : CallW Try.prog kps ext 55 [x0] H Q :=
  CallW.fold (⟨Try.func55, by kernel_rfl, by kernel_rfl, by kernel_rfl⟩ : Go.AM.Good Try.prog 55 Try.f55) (Eq.mpr (by kernel_rfl : evBody Try.prog (CallW Try.prog kps ext) (kps 55) Try.f55 [x0] H Q = evBody Try.prog (CallW Try.prog kps ext) kp.f55 Try.f55 [x0] H Q) (L.f55 (CallW Try.prog kps ext) x0 H Q h))
theorem fold_f56 (x0 : Value) (H : AH) (Q : Value → AH → Prop) (h : F.f56 (sy (CallW Try.prog kps ext)) x0 H Q) : CallW Try.prog kps ext 45 [x0] H Q :=
  CallW.fold (⟨Try.func45, by kernel_rfl, by kernel_rfl, by kernel_rfl⟩ : Go.AM.Good Try.prog 45 Try.f45) (Eq.mpr (by kernel_rfl : evBody Try.prog (CallW Try.prog kps ext) (kps 45) Try.f45 [x0] H Q = evBody Try.prog (CallW Try.prog kps ext) kp.f56 Try.f45 [x0] H Q) (L.f56 (CallW Try.prog kps ext) x0 H Q h))
theorem fold_f4 (x0 : Value) (H : AH) (Q : Value → AH → Prop) (h : F.f4 (sy (CallW Try.prog kps ext)) x0 H Q) : CallW Try.prog kps ext 21 [x0] H Q :=
  CallW.fold (⟨Try.func21, by kernel_rfl, by kernel_rfl, by kernel_rfl⟩ : Go.AM.Good Try.prog 21 Try.f21) (Eq.mpr (by kernel_rfl : evBody Try.prog (CallW Try.prog kps ext) (kps 21) Try.f21 [x0] H Q = evBody Try.prog (CallW Try.prog kps ext) kp.f4 Try.f21 [x0] H Q) (L.f4 (CallW Try.prog kps ext) x0 H Q h))
theorem fold_f18 (x0 x1 x2 : Value) (H : AH) (Q : Value → AH → Prop) (h : F.f18 (sy (CallW Try.prog kps ext)) x0 x1 x2 H Q) : CallW Try.prog kps ext 24 [x0, x1, x2] H Q :=
  CallW.fold (⟨Try.func24, by kernel_rfl, by kernel_rfl, by kernel_rfl⟩ : Go.AM.Good Try.prog 24 Try.f24) (Eq.mpr (by kernel_rfl : evBody Try.prog (CallW Try.prog kps ext) (kps 24) Try.f24 [x0, x1, x2] H Q = evBody Try.prog (CallW Try.prog kps ext) kp.f18 Try.f24 [x0, x1, x2] H Q) (L.f18 (CallW Try.prog kps ext) x0 x1 x2 H Q h))
theorem fold_f24 (x0 x1 : Value) (H : AH) (Q : Value → AH → Prop) (h : F.f24 (sy (CallW Try.prog kps ext)) x0 x1 H Q) : CallW Try.prog kps ext 63 [x0, x1] H Q :=
  CallW.fold (⟨Try.func63, by kernel_rfl, by kernel_rfl, by kernel_rfl⟩ : Go.AM.Good Try.prog 63 Try.f63) (Eq.mpr (by kernel_rfl : evBody Try.prog (CallW Try.prog kps ext) (kps 63) Try.f63 [x0, x1] H Q = evBody Try.prog (CallW Try.prog kps ext) kp.f24 Try.f63 [x0, x1] H Q) (L.f24 (CallW Try.prog kps ext) x0 x1 H Q h))
theorem fold_f26 (x0 : Value) (H : AH) (Q : Value → AH → Prop) (h : F.f26 (sy (CallW Try.prog kps ext)) x0 H Q) : CallW Try.prog kps ext 65 [x0] H Q :=
  CallW.fold (⟨Try.func65, by kernel_rfl, by kernel_rfl, by kernel_rfl⟩ : Go.AM.Good Try.prog 65 Try.f65) (Eq.mpr (by kernel_rfl : evBody Try.prog (CallW Try.prog kps ext) (kps 65) Try.f65 [x0] H Q = evBody Try.prog (CallW Try.prog kps ext) kp.f26 Try.f65 [x0] H Q) (L.f26 (CallW Try.prog kps ext) x0 H Q h))
theorem fold_f78 (x0 x1 x2 x3 : Value) (H : AH) (Q : Value → AH → Prop) (h : F.f78 (sy (CallW Try.prog kps ext)) x0 x1 x2 x3 H Q) : CallW Try.prog kps ext 68 [x0, x1, x2, x3] H Q :=
  CallW.fold (⟨Try.func68, by kernel_rfl, by kernel_rfl, by kernel_rfl⟩ : Go.AM.Good Try.prog 68 Try.f68) (Eq.mpr (by kernel_rfl : evBody Try.prog (CallW Try.prog kps ext) (kps 68) Try.f68 [x0, x1, x2, x3] H Q = evBody Try.prog (CallW Try.prog kps ext) kp.f78 Try.f68 [x0, x1, x2, x3] H Q) (L.f78 (CallW Try.prog kps ext) x0 x1 x2 x3 H Q h))
theorem fold_f79 (x0 x1 x2 x3 : Value) (H : AH) (Q : Value → AH → Prop) (h : F.f79 (sy (CallW Try.prog kps ext)) x0 x1 x2 x3 H Q) : CallW Try.prog kps ext 64 [x0, x1, x2, x3] H Q :=
  CallW.fold (⟨Try.func64, by kernel_rfl, by kernel_rfl, by kernel_rfl⟩ : Go.AM.Good Try.prog 64 Try.f64) (Eq.mpr (by kernel_rfl : evBody Try.prog (CallW Try.prog kps ext) (kps 64) Try.f64 [x0, x1, x2, x3] H Q = evBody Try.prog (CallW Try.prog kps ext) kp.f79 Try.f64 [x0, x1, x2, x3] H Q) (L.f79 (CallW Try.prog kps ext) x0 x1 x2 x3 H Q h))
theorem fold_f85 (x0 x1 : Value) (H : AH) (Q : Value → AH → Prop) (h : F.f85 (sy (CallW Try.prog kps ext)) x0 x1 H Q) : CallW Try.prog kps ext 46 [x0, x1] H Q :=
  CallW.fold (⟨Try.func46, by kernel_rfl, by kernel_rfl, by kernel_rfl⟩ : Go.AM.Good Try.prog 46 Try.f46) (Eq.mpr (by kernel_rfl : evBody Try.prog (CallW Try.prog kps ext) (kps 46) Try.f46 [x0, x1] H Q = evBody Try.prog (CallW Try.prog kps ext) kp.f85 Try.f46 [x0, x1] H Q) (L.f85 (CallW Try.prog kps ext) x0 x1 H Q h))
theorem fold_f5 (x0 : Value) (H : AH) (Q : Value → AH → Prop) (h : F.f5 (sy (CallW Try.prog kps ext)) x0 H Q) : CallW Try.prog kps ext 47 [x0] H Q :=
  CallW.fold (⟨Try.func47, by kernel_rfl, by kernel_rfl, by kernel_rfl⟩ : Go.AM.Good Try.prog 47 Try.f47) (Eq.mpr (by kernel_rfl : evBody Try.prog (CallW Try.prog kps ext) (kps 47) Try.f47 [x0] H Q = evBody Try.prog (CallW Try.prog kps ext) kp.f5 Try.f47 [x0] H Q) (L.f5 (CallW Try.prog kps ext) x0 H Q h))
theorem fold_f27 (x0 : Value) (H : AH) (Q : Value → AH → Prop) (h : F.f27 (sy (CallW Try.prog kps ext)) x0 H Q) : CallW Try.prog kps ext 79 [x0] H Q :=
  CallW.fold (⟨Try.func79, by kernel_rfl, by kernel_rfl, by kernel_rfl⟩ : Go.AM.Good Try.prog 79 Try.f79) (Eq.mpr (by kernel_rfl : evBody Try.prog (CallW Try.prog kps ext) (kps 79) Try.f79 [x0] H Q = evBody Try.prog (CallW Try.prog kps ext) kp.f27 Try.f79 [x0] H Q) (L.f27 (CallW Try.prog kps ext) x0 H Q h))
theorem fold_f28 (x0 : Value) (H : AH) (Q : Value → AH → Prop) (h : F.f28 (sy (CallW Try.prog kps ext)) x0 H Q) : CallW Try.prog kps ext 80 [x0] H Q :=
  CallW.fold (⟨Try.func80, by kernel_rfl, by kernel_rfl, by kernel_rfl⟩ : Go.AM.Good Try.prog 80 Try.f80) (Eq.mpr (by kernel_rfl : evBody Try.prog (CallW Try.prog kps ext) (kps 80) Try.f80 [x0] H Q = evBody Try.prog (CallW Try.prog kps ext) kp.f28 Try.f80 [x0] H Q) (L.f28 (CallW Try.prog kps ext) x0 H Q h))
theorem fold_f63 (x0 x1 x2 : Value) (H : AH) (Q : Value → AH → Prop) (h : F.f63 (sy (CallW Try.prog kps ext)) x0 x1 x2 H Q) : CallW Try.prog kps ext 81 [x0, x1, x2] H Q :=
  CallW.fold (⟨Try.func81, by kernel_rfl, by kernel_rfl, by kernel_rfl⟩ : Go.AM.Good Try.prog 81 Try.f81) (Eq.mpr (by kernel_rfl : evBody Try.prog (CallW Try.prog kps ext) (kps 81) Try.f81 [x0, x1, x2] H Q = evBody Try.prog (CallW Try.prog kps ext) kp.f63 Try.f81 [x0, x1, x2] H Q) (L.f63 (CallW Try.prog kps ext) x0 x1 x2 H Q h))
theorem fold_f61 (x0 x1 x2 : Value) (H : AH) (Q : Value → AH → Prop) (h : F.f61 (sy (CallW Try.prog kps ext)) x0 x1 x2 H Q) : CallW Try.prog kps ext 82 [x0, x1, x2] H Q :=
  CallW.fold (⟨Try.func82, by kernel_rfl, by kernel_rfl, by kernel_rfl⟩ : Go.AM.Good Try.prog 82 Try.f82) (Eq.mpr (by kernel_rfl : evBody Try.prog (CallW Try.prog kps ext) (kps 82) Try.f82 [x0, x1, x2] H Q = evBody Try.prog (CallW Try.prog kps ext) kp.f61 Try.f82 [x0, x1, x2] H Q) (L.f61 (CallW Try.prog kps ext) x0 x1 x2 H Q h))
theorem fold_f57 (x0 x1 x2 : Value) (H : AH) (Q : Value → AH → Prop) (h : F.f57 (sy (CallW Try.prog kps ext)) x0 x1 x2 H Q) : CallW Try.prog kps ext 83 [x0, x1, x2] H Q :=
  CallW.fold (⟨Try.func83, by kernel_rfl, by kernel_rfl, by kernel_rfl⟩ : Go.AM.Good Try.prog 83 Try.f83) (Eq.mpr (by kernel_rfl : evBody Try.prog (CallW Try.prog kps ext) (kps 83) Try.f83 [x0, x1, x2] H Q = evBody Try.prog (CallW Try.prog kps ext) kp.f57 Try.f83 [x0, x1, x2] H Q) (L.f57 (CallW Try.prog kps ext) x0 x1 x2 H Q h))
theorem fold_f59 (x0 x1 x2 : Value) (H : AH) (Q : Value → AH → Prop) (h : F.f59 (sy (CallW Try.prog kps ext)) x0 x1 x2 H Q) : CallW Try.prog kps ext 84 [x0, x1, x2] H Q :=
  CallW.fold (⟨Try.func84, by kernel_rfl, by kernel_rfl, by kernel_rfl⟩ : Go.AM.Good Try.prog 84 Try.f84) (Eq.mpr (by kernel_rfl : evBody Try.prog (CallW Try.prog kps ext) (kps 84) Try.f84 [x0, x1, x2] H Q = evBody Try.prog (CallW Try.prog kps ext) kp.f59 Try.f84 [x0, x1, x2] H Q) (L.f59 (CallW Try.prog kps ext) x0 x1 x2 H Q h))
theorem fold_f80 (x0 x1 x2 : Value) (H : AH) (Q : Value → AH → Prop) (h : F.f80 (sy (CallW Try.prog kps ext)) x0 x1 x2 H Q) : CallW Try.prog kps ext 85 [x0, x1, x2] H Q :=
  CallW.fold (⟨Try.func85, by kernel_rfl, by kernel_rfl, by kernel_rfl⟩ : Go.AM.Good Try.prog 85 Try.f85) (Eq.mpr (by kernel_rfl : evBody Try.prog (CallW Try.prog kps ext) (kps 85) Try.f85 [x0, x1, x2] H Q = evBody Try.prog (CallW Try.prog kps ext) kp.f80 Try.f85 [x0, x1, x2] H Q) (L.f80 (CallW Try.prog kps ext) x0 x1 x2 H Q h))
theorem fold_f72 (x0 x1 x2 : Value) (H : AH) (Q : Value → AH → Prop) (h : F.f72 (sy (CallW Try.prog kps ext)) x0 x1 x2 H Q) : CallW Try.prog kps ext 86 [x0, x1, x2] H Q :=
  CallW.fold (⟨Try.func86, by kernel_rfl, by kernel_rfl, by kernel_rfl⟩ : Go.AM.Good Try.prog 86 Try.f86) (Eq.mpr (by kernel_rfl : evBody Try.prog (CallW Try.prog kps ext) (kps 86) Try.f86 [x0, x1, x2] H Q = evBody Try.prog (CallW Try.prog kps ext) kp.f72 Try.f86 [x0, x1, x2] H Q) (L.f72 (CallW Try.prog kps ext) x0 x1 x2 H Q h))
theorem fold_f0 (x0 x1 : Value) (H : AH) (Q : Value → AH → Prop) (h : F.f0 (sy (CallW Try.prog kps ext)) x0 x1 H Q) : CallW Try.prog kps ext 87 [x0, x1] H Q :=
  CallW.fold (⟨Try.func87, by kernel_rfl, by kernel_rfl, by kernel_rfl⟩ : Go.AM.Good Try.prog 87 Try.f87) (Eq.mpr (by kernel_rfl : evBody Try.prog (CallW Try.prog kps ext) (kps 87) Try.f87 [x0, x1] H Q = evBody Try.prog (CallW Try.prog kps ext) kp.f0 Try.f87 [x0, x1] H Q) (L.f0 (CallW Try.prog kps ext) x0 x1 H Q h))
theorem fold_f74 (x0 x1 x2 x3 : Value) (H : AH) (Q : Value → AH → Prop) (h : F.f74 (sy (CallW Try.prog kps ext)) x0 x1 x2 x3 H Q) : CallW Try.prog kps ext 88 [x0, x1, x2, x3] H Q :=
  CallW.fold (⟨Try.func88, by kernel_rfl, by kernel_rfl, by kernel_rfl⟩ : Go.AM.Good Try.prog 88 Try.f88) (Eq.mpr (by kernel_rfl : evBody Try.prog (CallW Try.prog kps ext) (kps 88) Try.f88 [x0, x1, x2, x3] H Q = evBody Try.prog (CallW Try.prog kps ext) kp.f74 Try.f88 [x0, x1, x2, x3] H Q) (L.f74 (CallW Try.prog kps ext) x0 x1 x2 x3 H Q h))
theorem fold_f76 (x0 x1 x2 x3 : Value) (H : AH) (Q : Value → AH → Prop) (h : F.f76 (sy (CallW Try.prog kps ext)) x0 x1 x2 x3 H Q) : CallW Try.prog kps ext 89 [x0, x1, x2, x3] H Q :=
  CallW.fold (⟨Try.func89, by kernel_rfl, by kernel_rfl, by kernel_rfl⟩ : Go.AM.Good Try.prog 89 Try.f89) (Eq.mpr (by kernel_rfl : evBody Try.prog (CallW Try.prog kps ext) (kps 89) Try.f89 [x0, x1, x2, x3] H Q = evBody Try.prog (CallW Try.prog kps ext) kp.f76 Try.f89 [x0, x1, x2, x3] H Q) (L.f76 (CallW Try.prog kps ext) x0 x1 x2 x3 H Q h))
theorem fold_f64 (x0 x1 x2 : Value) (H : AH) (Q : Value → AH → Prop) (h : F.f64 (sy (CallW Try.prog kps ext)) x0 x1 x2 H Q) : CallW Try.prog kps ext 70 [x0, x1, x2] H Q :=
  CallW.fold (⟨Try.func70, by kernel_rfl, by kernel_rfl, by kernel_rfl⟩ : Go.AM.Good Try.prog 70 Try.f70) (Eq.mpr (by kernel_rfl : evBody Try.prog (CallW Try.prog kps ext) (kps 70) Try.f70 [x0, x1, x2] H Q = evBody Try.prog (CallW Try.prog kps ext) kp.f64 Try.f70 [x0, x1, x2] H Q) (L.f64 (CallW Try.prog kps ext) x0 x1 x2 H Q h))
theorem fold_f62 (x0 x1 x2 : Value) (H : AH) (Q : Value → AH → Prop) (h : F.f62 (sy (CallW Try.prog kps ext)) x0 x1 x2 H Q) : CallW Try.prog kps ext 71 [x0, x1, x2] H Q :=
  CallW.fold (⟨Try.func71, by kernel_rfl, by kernel_rfl, by kernel_rfl⟩ : Go.AM.Good Try.prog 71 Try.f71) (Eq.mpr (by kernel_rfl : evBody Try.prog (CallW Try.prog kps ext) (kps 71) Try.f71 [x0, x1, x2] H Q = evBody Try.prog (CallW Try.prog kps ext) kp.f62 Try.f71 [x0, x1, x2] H Q) (L.f62 (CallW Try.prog kps ext) x0 x1 x2 H Q h))
theorem fold_f58 (x0 x1 x2 : Value) (H : AH) (Q : Value → AH → Prop) (h : F.f58 (sy (CallW Try.prog kps ext)) x0 x1 x2 H Q) : CallW Try.prog kps ext 72 [x0, x1, x2] H Q :=
  CallW.fold (⟨Try.func72, by kernel_rfl, by kernel_rfl, by kernel_rfl⟩ : Go.AM.Good Try.prog 72 Try.f72) (Eq.mpr (by kernel_rfl : evBody Try.prog (CallW Try.prog kps ext) (kps 72) Try.f72 [x0, x1, x2] H Q = evBody Try.prog (CallW Try.prog kps ext) kp.f58 Try.f72 [x0, x1, x2] H Q) (L.f58 (CallW Try.prog kps ext) x0 x1 x2 H Q h))
theorem fold_f60 (x0 x1 x2 : Value) (H : AH) (Q : Value → AH → Prop) (h : F.f60 (sy (CallW Try.prog kps ext)) x0 x1 x2 H Q) : CallW Try.prog kps ext 73 [x0, x1, x2] H Q :=
  CallW.fold (⟨Try.func73, by kernel_rfl, by kernel_rfl, by kernel_rfl⟩ : Go.AM.Good Try.prog 73 Try.f73) (Eq.mpr (by kernel_rfl : evBody Try.prog (CallW Try.prog kps ext) (kps 73) Try.f73 [x0, x1, x2] H Q = evBody Try.prog (CallW Try.prog kps ext) kp.f60 Try.f73 [x0, x1, x2] H Q) (L.f60 (CallW Try.prog kps ext) x0 x1 x2 H Q h))
theorem fold_f81 (x0 x1 x2 : Value) (H : AH) (Q : Value → AH → Prop) (h : F.f81 (sy (CallW Try.prog kps ext)) x0 x1 x2 H Q) : CallW Try.prog kps ext 74 [x0, x1, x2] H Q :=
  CallW.fold (⟨Try.func74, by kernel_rfl, by kernel_rfl, by kernel_rfl⟩ : Go.AM.Good Try.prog 74 Try.f74) (Eq.mpr (by kernel_rfl : evBody Try.prog (CallW Try.prog kps ext) (kps 74) Try.f74 [x0, x1, x2] H Q = evBody Try.prog (CallW Try.prog kps ext) kp.f81 Try.f74 [x0, x1, x2] H Q) (L.f81 (CallW Try.prog kps ext) x0 x1 x2 H Q h))
theorem fold_f73 (x0 x1 x2 : Value) (H : AH) (Q : Value → AH → Prop) (h : F.f73 (sy (CallW Try.prog kps ext)) x0 x1 x2 H Q) : CallW Try.prog kps ext 75 [x0, x1, x2] H Q :=
  CallW.fold (⟨Try.func75, by kernel_rfl, by kernel_rfl, by kernel_rfl⟩ : Go.AM.Good Try.prog 75 Try.f75) (Eq.mpr (by kernel_rfl : evBody Try.prog (CallW Try.prog kps ext) (kps 75) Try.f75 [x0, x1, x2] H Q = evBody Try.prog (CallW Try.prog kps ext) kp.f73 Try.f75 [x0, x1, x2] H Q) (L.f73 (CallW Try.prog kps ext) x0 x1 x2 H Q h))
theorem fold_f1 (x0 x1 : Value) (H : AH) (Q : Value → AH → Prop) (h : F.f1 (sy (CallW Try.prog kps ext)) x0 x1 H Q) : CallW Try.prog kps ext 76 [x0, x1] H Q :=
  CallW.fold (⟨Try.func76, by kernel_rfl, by kernel_rfl, by kernel_rfl⟩ : Go.AM.Good Try.prog 76 Try.f76) (Eq.mpr (by kernel_rfl : evBody Try.prog (CallW Try.prog kps ext) (kps 76) Try.f76 [x0, x1] H Q = evBody Try.prog (CallW Try.prog kps ext) kp.f1 Try.f76 [x0, x1] H Q) (L.f1 (CallW Try.prog kps ext) x0 x1 H Q h))
theorem fold_f75 (x0 x1 x2 x3 : Value) (H : AH) (Q : Value → AH → Prop) (h : F.f75 (sy (CallW Try.prog kps ext)) x0 x1 x2 x3 H Q) : CallW Try.prog kps ext 77 [x0, x1, x2, x3] H Q :=
  CallW.fold (⟨Try.func77, by kernel_rfl, by kernel_rfl, by kernel_rfl⟩ : Go.AM.Good Try.prog 77 Try.f77) (Eq.mpr (by kernel_rfl : evBody Try.prog (CallW Try.prog kps ext) (kps 77) Try.f77 [x0, x1, x2, x3] H Q = evBody Try.prog (CallW Try.prog kps ext) kp.f75 Try.f77 [x0, x1, x2, x3] H Q) (L.f75 (CallW Try.prog kps ext) x0 x1 x2 x3 H Q h))
theorem fold_f77 (x0 x1 x2 x3 : Value) (H : AH) (Q : Value → AH → Prop) (h : F.f77 (sy (CallW Try.prog kps ext)) x0 x1 x2 x3 H Q) : CallW Try.prog kps ext 78 [x0, x1, x2, x3] H Q :=
  CallW.fold (⟨Try.func78, by kernel_rfl, by kernel_rfl, by kernel_rfl⟩ : Go.AM.Good Try.prog 78 Try.f78) (Eq.mpr (by kernel_rfl : evBody Try.prog (CallW Try.prog kps ext) (kps 78) Try.f78 [x0, x1, x2, x3] H Q = evBody Try.prog (CallW Try.prog kps ext) kp.f77 Try.f78 [x0, x1, x2, x3] H Q) (L.f77 (CallW Try.prog kps ext) x0 x1 x2 x3 H Q h))
theorem fold_f86 (x0 x1 x2 : Value) (H : AH) (Q : Value → AH → Prop) (h : F.f86 (sy (CallW Try.prog kps ext)) x0 x1 x2 H Q) : CallW Try.prog kps ext 66 [x0, x1, x2] H Q :=
  CallW.fold (⟨Try.func66, by kernel_rfl, by kernel_rfl, by kernel_rfl⟩ : Go.AM.Good Try.prog 66 Try.f66) (Eq.mpr (by kernel_rfl : evBody Try.prog (CallW Try.prog kps ext) (kps 66) Try.f66 [x0, x1, x2] H Q = evBody Try.prog (CallW Try.prog kps ext) kp.f86 Try.f66 [x0, x1, x2] H Q) (L.f86 (CallW Try.prog kps ext) x0 x1 x2 H Q h))
theorem fold_f82 (x0 x1 x2 x3 : Value) (H : AH) (Q : Value → AH → Prop) (h : F.f82 (sy (CallW Try.prog kps ext)) x0 x1 x2 x3 H Q) : CallW Try.prog kps ext 96 [x0, x1, x2, x3] H Q :=
  CallW.fold (⟨Try.func96, by kernel_rfl, by kernel_rfl, by kernel_rfl⟩ : Go.AM.Good Try.prog 96 Try.f96) (Eq.mpr (by kernel_rfl : evBody Try.prog (CallW Try.prog kps ext) (kps 96) Try.f96 [x0, x1, x2, x3] H Q = evBody Try.prog (CallW Try.prog kps ext) kp.f82 Try.f96 [x0, x1, x2, x3] H Q) (L.f82 (CallW Try.prog kps ext) x0 x1 x2 x3 H Q h))
theorem fold_f69 (x0 : Value) (H : AH) (Q : Value → AH → Prop) (h : F.f69 (sy (CallW Try.prog kps ext)) x0 H Q) : CallW Try.prog kps ext 91 [x0] H Q :=
  CallW.fold (⟨Try.func91, by kernel_rfl, by kernel_rfl, by kernel_rfl⟩ : Go.AM.Good Try.prog 91 Try.f91) (Eq.mpr (by kernel_rfl : evBody Try.prog (CallW Try.prog kps ext) (kps 91) Try.f91 [x0] H Q = evBody Try.prog (CallW Try.prog kps ext) kp.f69 Try.f91 [x0] H Q) (L.f69 (CallW Try.prog kps ext) x0 H Q h))
theorem fold_f84 (x0 : Value) (H : AH) (Q : Value → AH → Prop) (h : F.f84 (sy (CallW Try.prog kps ext)) x0 H Q) : CallW Try.prog kps ext 92 [x0] H Q :=
  CallW.fold (⟨Try.func92, by kernel_rfl, by kernel_rfl, by kernel_rfl⟩ : Go.AM.Good Try.prog 92 Try.f92) (Eq.mpr (by kernel_rfl : evBody Try.prog (CallW Try.prog kps ext) (kps 92) Try.f92 [x0] H Q = evBody Try.prog (CallW Try.prog kps ext) kp.f84 Try.f92 [x0] H Q) (L.f84 (CallW Try.prog kps ext) x0 H Q h))
theorem fold_f65 (x0 x1 x2 : Value) (H : AH) (Q : Value → AH → Prop) (h : F.f65 (sy (CallW Try.prog kps ext)) x0 x1 x2 H Q) : CallW Try.prog kps ext 97 [x0, x1, x2] H Q :=
  CallW.fold (⟨Try.func97, by kernel_rfl, by kernel_rfl, by kernel_rfl⟩ : Go.AM.Good Try.prog 97 Try.f97) (Eq.mpr (by kernel_rfl : evBody Try.prog (CallW Try.prog kps ext) (kps 97) Try.f97 [x0, x1, x2] H Q = evBody Try.prog (CallW Try.prog kps ext) kp.f65 Try.f97 [x0, x1, x2] H Q) (L.f65 (CallW Try.prog kps ext) x0 x1 x2 H Q h))
theorem fold_f67 (x0 x1 x2 x3 x4 : Value) (H : AH) (Q : Value → AH → Prop) (h : F.f67 (sy (CallW Try.prog kps ext)) x0 x1 x2 x3 x4 H Q) : CallW Try.prog kps ext 98 [x0, x1, x2, x3, x4] H Q :=
  CallW.fold (⟨Try.func98, by kernel_rfl, by kernel_rfl, by kernel_rfl⟩ : Go.AM.Good Try.prog 98 Try.f98) (Eq.mpr (by kernel_rfl : evBody Try.prog (CallW Try.prog kps ext) (kps 98) Try.f98 [x0, x1, x2, x3, x4] H Q = evBody Try.prog (CallW Try.prog kps ext) kp.f67 Try.f98 [x0, x1, x2, x3, x4] H Q) (L.f67 (CallW Try.prog kps ext) x0 x1 x2 x3 x4 H Q h))
theorem fold_f2 (x0 : Value) (H : AH) (Q : Value → AH → Prop) (h : F.f2 (sy (CallW Try.prog kps ext)) x0 H Q) : CallW Try.prog kps ext 99 [x0] H Q :=
  CallW.fold (⟨Try.func99, by kernel_rfl, by kernel_rfl, by kernel_rfl⟩ : Go.AM.Good Try.prog 99 Try.f99) (Eq.mpr (by kernel_rfl : evBody Try.prog (CallW Try.prog kps ext) (kps 99) Try.f99 [x0] H Q = evBody Try.prog (CallW Try.prog kps ext) kp.f2 Try.f99 [x0] H Q) (L.f2 (CallW Try.prog kps ext) x0 H Q h))
theorem fold_f83 (x0 x1 x2 x3 : Value) (H : AH) (Q : Value → AH → Prop) (h : F.f83 (sy (CallW Try.prog kps ext)) x0 x1 x2 x3 H Q) : CallW Try.prog kps ext 90 [x0, x1, x2, x3] H Q :=
  CallW.fold (⟨Try.func90, by kernel_rfl, by kernel_rfl, by kernel_rfl⟩ : Go.AM.Good Try.prog 90 Try.f90) (Eq.mpr (by kernel_rfl : evBody Try.prog (CallW Try.prog kps ext) (kps 90) Try.f90 [x0, x1, x2, x3] H Q = evBody Try.prog (CallW Try.prog kps ext) kp.f83 Try.f90 [x0, x1, x2, x3] H Q) (L.f83 (CallW Try.prog kps ext) x0 x1 x2 x3 H Q h))
theorem fold_f66 (x0 x1 x2 : Value) (H : AH) (Q : Value → AH → Prop) (h : F.f66 (sy (CallW Try.prog kps ext)) x0 x1 x2 H Q) : CallW Try.prog kps ext 93 [x0, x1, x2] H Q :=
  CallW.fold (⟨Try.func93, by kernel_rfl, by kernel_rfl, by kernel_rfl⟩ : Go.AM.Good Try.prog 93 Try.f93) (Eq.mpr (by kernel_rfl : evBody Try.prog (CallW Try.prog kps ext) (kps 93) Try.f93 [x0, x1, x2] H Q = evBody Try.prog (CallW Try.prog kps ext) kp.f66 Try.f93 [x0, x1, x2] H Q) (L.f66 (CallW Try.prog kps ext) x0 x1 x2 H Q h))
theorem fold_f68 (x0 x1 x2 x3 x4 : Value) (H : AH) (Q : Value → AH → Prop) (h : F.f68 (sy (CallW Try.prog kps ext)) x0 x1 x2 x3 x4 H Q) : CallW Try.prog kps ext 94 [x0, x1, x2, x3, x4] H Q :=
  CallW.fold (⟨Try.func94, by kernel_rfl, by kernel_rfl, by kernel_rfl⟩ : Go.AM.Good Try.prog 94 Try.f94) (Eq.mpr (by kernel_rfl : evBody Try.prog (CallW Try.prog kps ext) (kps 94) Try.f94 [x0, x1, x2, x3, x4] H Q = evBody Try.prog (CallW Try.prog kps ext) kp.f68 Try.f94 [x0, x1, x2, x3, x4] H Q) (L.f68 (CallW Try.prog kps ext) x0 x1 x2 x3 x4 H Q h))
theorem fold_f3 (x0 : Value) (H : AH) (Q : Value → AH → Prop) (h : F.f3 (sy (CallW Try.prog kps ext)) x0 H Q) : CallW Try.prog kps ext 95 [x0] H Q :=
  CallW.fold (⟨Try.func95, by kernel_rfl, by kernel_rfl, by kernel_rfl⟩ : Go.AM.Good Try.prog 95 Try.f95) (Eq.mpr (by kernel_rfl : evBody Try.prog (CallW Try.prog kps ext) (kps 95) Try.f95 [x0] H Q = evBody Try.prog (CallW Try.prog kps ext) kp.f3 Try.f95 [x0] H Q) (L.f3 (CallW Try.prog kps ext) x0 H Q h))
theorem fold_f70 (x0 x1 x2 x3 : Value) (H : AH) (Q : Value → AH → Prop) (h : F.f70 (sy (CallW Try.prog kps ext)) x0 x1 x2 x3 H Q) : CallW Try.prog kps ext 101 [x0, x1, x2, x3] H Q :=
  CallW.fold (⟨Try.func101, by kernel_rfl, by kernel_rfl, by kernel_rfl⟩ : Go.AM.Good Try.prog 101 Try.f101) (Eq.mpr (by kernel_rfl : evBody Try.prog (CallW Try.prog kps ext) (kps 101) Try.f101 [x0, x1, x2, x3] H Q = evBody Try.prog (CallW Try.prog kps ext) kp.f70 Try.f101 [x0, x1, x2, x3] H Q) (L.f70 (CallW Try.prog kps ext) x0 x1 x2 x3 H Q h))
theorem fold_f71 (x0 x1 x2 x3 : Value) (H : AH) (Q : Value → AH → Prop) (h : F.f71 (sy (CallW Try.prog kps ext)) x0 x1 x2 x3 H Q) : CallW Try.prog kps ext 100 [x0, x1, x2, x3] H Q :=
  CallW.fold (⟨Try.func100, by kernel_rfl, by kernel_rfl, by kernel_rfl⟩ : Go.AM.Good Try.prog 100 Try.f100) (Eq.mpr (by kernel_rfl : evBody Try.prog (CallW Try.prog kps ext) (kps 100) Try.f100 [x0, x1, x2, x3] H Q = evBody Try.prog (CallW Try.prog kps ext) kp.f71 Try.f100 [x0, x1, x2, x3] H Q) (L.f71 (CallW Try.prog kps ext) x0 x1 x2 x3 H Q h))
theorem fold : Go.AM.Fold (sy (CallW Try.prog kps ext)) where
  mono := CallW.mono
  f31 := fold_f31
  f29 := fold_f29
  f32 := fold_f32
  f6 := fold_f6
  f35 := fold_f35
  f30 := fold_f30
  f17 := fold_f17
  f11 := fold_f11
  f14 := fold_f14
  f7 := fold_f7
  f9 := fold_f9
  f33 := fold_f33
  f42 := fold_f42
  f36 := fold_f36
  f38 := fold_f38
  f15 := fold_f15
  f43 := fold_f43
  f12 := fold_f12
  f39 := fold_f39
  f19 := fold_f19
  f46 := fold_f46
  f8 := fold_f8
  f37 := fold_f37
  f13 := fold_f13
  f41 := fold_f41
  f16 := fold_f16
  f10 := fold_f10
  f23 := fold_f23
  f20 := fold_f20
  f88 := fold_f88
  f25 := fold_f25
  f49 := fold_f49
  f40 := fold_f40
  f47 := fold_f47
  f53 := fold_f53
  f44 := fold_f44
  f52 := fold_f52
  f54 := fold_f54
  f51 := fold_f51
  f21 := fold_f21
  f22 := fold_f22
  f48 := fold_f48
  f34 := fold_f34
  f45 := fold_f45
  f50 := fold_f50
  f55 := fold_f55
  f56 := fold_f56
  f4 := fold_f4
  f18 := fold_f18
  f24 := fold_f24
  f26 := fold_f26
  f78 := fold_f78
  f79 := fold_f79
  f85 := fold_f85
  f5 := fold_f5
  f27 := fold_f27
  f28 := fold_f28
  f63 := fold_f63
  f61 := fold_f61
  f57 := fold_f57
  f59 := fold_f59
  f80 := fold_f80
  f72 := fold_f72
  f0 := fold_f0
  f74 := fold_f74
  f76 := fold_f76
  f64 := fold_f64
  f62 := fold_f62
  f58 := fold_f58
  f60 := fold_f60
  f81 := fold_f81
  f73 := fold_f73
  f1 := fold_f1
  f75 := fold_f75
  f77 := fold_f77
  f86 := fold_f86
  f82 := fold_f82
  f69 := fold_f69
  f84 := fold_f84
  f65 := fold_f65
  f67 := fold_f67
  f2 := fold_f2
  f83 := fold_f83
  f66 := fold_f66
  f68 := fold_f68
  f3 := fold_f3
  f70 := fold_f70
  f71 := fold_f71
  f87 := fun x0 x1 H Q h => CallW.ext (.inl <| ⟨rfl, x0, x1, rfl, h⟩)
end Go.Proofs.Ytakplbkhbalfoaa
