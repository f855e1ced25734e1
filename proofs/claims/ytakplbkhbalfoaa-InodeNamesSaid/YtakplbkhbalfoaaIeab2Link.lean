/- THE FUNCTIONS, HELD AGAINST THE PROGRAM: written by program (gen2.py). -/
import Derived.Test.YtakplbkhbalfoaaIeab2F
import Derived.Test.YtakplbkhbalfoaaProg
import Derived.KernelRfl
set_option linter.all false
set_option maxRecDepth 100000
set_option maxHeartbeats 4000000
namespace Go.Proofs.Ytakplbkhbalfoaa
open Go.AM
attribute [local irreducible] evD obls
def fidL : List Nat := [0, 0, 0, 0, 0, 0, 0, 0, 0, 0, 0, 0, 0, 0, 0, 0, 0, 0, 0, 0, 0, 0, 0, 0, 0, 0, 0, 0, 0, 0, 0, 0, 0, 0, 0, 0, 0, 0, 0, 0, 0, 0, 0, 0, 0, 0, 0, 0, 0, 0, 0, 0, 0, 0, 0, 0, 0, 0, 0, 0, 0, 0, 0, 0, 0, 0, 0, 0, 0, 0, 0, 0, 0, 0, 0, 0, 0, 0, 18, 0, 0, 0, 0, 0, 0, 0, 0, 0, 0, 0, 0, 0, 0, 0, 0, 0, 0, 0, 3, 9, 10, 11, 12, 14, 15, 13, 4, 16, 17, 5, 19, 20, 21, 22, 6, 23, 24, 25, 26, 27, 7, 28, 29, 30, 31, 32, 8, 33, 34, 35, 36, 37, 38, 39, 40, 41, 42, 43, 44, 47, 46, 48, 49, 50, 51, 52, 54, 53, 56, 57, 58, 59, 60, 61, 62, 63, 45, 65, 64, 66, 67, 55, 68, 69, 79, 80, 70, 71, 73, 76, 77, 78, 75, 74, 72, 81, 82, 84, 87, 88, 89, 86, 85, 83, 90, 91, 92, 94, 93, 95, 96, 98, 97, 99, 100, 101]
def tidL : List Nat := []
def sy (c : CallT) : Sy := { call := c, fid := fun n => fidL.getD n 0, tid := fun n => tidL.getD n 0 }
def kp.f19 : Keep := { keep := fun n => [[0, 1], [0, 1], [], [0, 1], [], [0, 1], [0, 1, 5], [0, 1, 5, 6], [0, 5, 6, 28, 29, 30], [0, 5, 6, 28, 29, 30], [0, 5, 6, 8, 28, 29, 30], [0, 5, 6, 8, 9, 10, 28, 29, 30], [0, 5, 6, 9, 10, 11, 12, 28, 29, 30], [], [0, 5, 6, 28, 29, 30], [0, 5, 6], [0, 5, 6, 13, 14], [], [0, 5, 6, 13], [0, 5, 6, 13, 76, 77, 78], [0, 5, 6, 13, 76, 77, 78], [0, 5, 6, 13, 15, 16, 76, 77, 78], [], [0, 5, 6, 13, 76, 77, 78], [0, 5, 13], [0, 5, 13, 18], [0, 13, 18, 20]].getD n [], order := fun n => [].getD n [] }
def pl.f19 (c : CallT) (Q : Value → AH → Prop) : Plan := [
  (4090, fun S T H => F.f19_l2 (sy c) Q (T 0) (T 5) (T 6) (T 13) (T 76) (T 77) (T 78) H (S 0)),
  (506, fun S T H => F.f19_l1 (sy c) Q (T 0) (T 5) (T 6) (T 28) (T 29) (T 30) H (S 0))]
theorem L.f19 (c : CallT) (x0 x1 : Value) (H : AH) (Q : Value → AH → Prop) (h : F.f19 (sy c) x0 x1 H Q) : evBody Try.prog c kp.f19 Try.f5 [x0, x1] H Q :=
  evBody_of (pl := pl.f19 c Q) Try.f5 _ H Q (bodyOf Try.f5) (by kernel_rfl) (by kernel_rfl) (by kernel_rfl) h

def kp.f18 : Keep := { keep := fun n => [[], [], [1], [1, 2, 3], [1, 2, 3, 4], [1, 2, 3, 4, 5], [2, 3, 4, 5, 6]].getD n [], order := fun n => [].getD n [] }
theorem L.f18 (c : CallT) (H : AH) (Q : Value → AH → Prop) (h : F.f18 (sy c) H Q) : evBody Try.prog c kp.f18 Try.f9 [] H Q :=
  evBody_of (pl := []) Try.f9 _ H Q (bodyOf Try.f9) (by kernel_rfl) (by kernel_rfl) (by kernel_rfl) h

def kp.f4 : Keep := { keep := fun n => [[0], [0], [3], [3]].getD n [], order := fun n => [].getD n [] }
theorem L.f4 (c : CallT) (x0 : Value) (H : AH) (Q : Value → AH → Prop) (h : F.f4 (sy c) x0 H Q) : evBody Try.prog c kp.f4 Try.f10 [x0] H Q :=
  evBody_of (pl := []) Try.f10 _ H Q (bodyOf Try.f10) (by kernel_rfl) (by kernel_rfl) (by kernel_rfl) h

def kp.f21 : Keep := { keep := fun n => [[0], [0]].getD n [], order := fun n => [].getD n [] }
theorem L.f21 (c : CallT) (x0 : Value) (H : AH) (Q : Value → AH → Prop) (h : F.f21 (sy c) x0 H Q) : evBody Try.prog c kp.f21 Try.f18 [x0] H Q :=
  evBody_of (pl := []) Try.f18 _ H Q (bodyOf Try.f18) (by kernel_rfl) (by kernel_rfl) (by kernel_rfl) h

def kp.f10 : Keep := { keep := fun n => [[0, 1, 2, 3, 4], [0, 1, 2, 3, 4], [0, 1, 2, 3, 4, 12, 13], [13], [0, 1, 2, 3, 4, 12], [], [0, 1, 2, 3, 4, 12], [], [0, 1, 2, 3, 4, 12], [], [0, 1, 2, 3, 4, 12], [], [0, 1, 2, 3, 4, 12], [0, 1, 2, 3, 4, 12, 14], [0, 1, 2, 3, 4, 12, 14], [0, 1, 2, 3, 4, 12, 14], [0, 1, 2, 3, 4, 12, 14, 15], [0, 1, 2, 4, 12, 14, 15, 80], [0, 1, 2, 12, 14, 15], [0, 2, 4, 12, 14, 15, 80], [0, 2, 4, 12, 14, 15], [0, 2, 12, 14, 15], [0, 2, 12, 14], [0, 14], [14]].getD n [], order := fun n => [[], [], [], [], [], [], [], [], [(0, 0), (1, 1), (2, 3), (3, 7), (4, 15), (5, 0), (6, 32), (7, 96), (8, 224), (9, 511), (10, 1023)]].getD n [] }
def pl.f10 (c : CallT) (Q : Value → AH → Prop) : Plan := [
  (255, fun S T H => F.f10_j1 (sy c) Q (T 0) (T 2) (T 12) (T 14) (T 15) H),
  (124, fun S T H => F.f10_l1 (sy c) Q (T 0) (T 1) (T 2) (T 3) (T 4) (T 12) (T 14) H (S 0))]
theorem L.f10 (c : CallT) (x0 x1 x2 x3 x4 : Value) (H : AH) (Q : Value → AH → Prop) (h : F.f10 (sy c) x0 x1 x2 x3 x4 H Q) : evBody Try.prog c kp.f10 Try.f11 [x0, x1, x2, x3, x4] H Q :=
  evBody_of (pl := pl.f10 c Q) Try.f11 _ H Q (bodyOf Try.f11) (by kernel_rfl) (by kernel_rfl) (by kernel_rfl) h

def kp.f23 : Keep := { keep := fun n => [[0, 1, 2, 3, 4], [0, 1, 2, 3, 4], [0, 1, 2, 3, 4, 12], [12], [0, 1, 2, 3, 4], [], [0, 1, 2, 3, 4], [], [0, 1, 2, 3, 4], [0, 1, 2, 3, 4, 13], [0, 1, 2, 3, 4, 13], [0, 1, 2, 3, 4, 13], [0, 1, 2, 3, 4, 13], [0, 1, 2, 3, 4, 13], [0, 1, 2, 3, 4, 13, 14], [0, 1, 2, 3, 4, 13, 14], [0, 1, 2, 3, 4, 13, 14], [0, 1, 2, 4, 13, 14], [0, 1, 2, 13, 14], [0, 1, 2, 13], [0, 13], [13]].getD n [], order := fun n => [[], [], [], [], [], [], [(0, 0), (2, 0), (3, 4), (4, 12), (5, 28), (1, 1), (6, 63), (7, 127), (8, 255), (9, 511), (10, 1023), (11, 2047), (12, 2047), (13, 8191), (14, 16383), (15, 32767), (16, 65535)], [], [], [], [], [], [], [], [], [], [], [], [(0, 0), (1, 1), (2, 3), (3, 7), (4, 0), (5, 0), (6, 63), (7, 127)], [(0, 0), (1, 1), (2, 3), (3, 7), (4, 0), (5, 0), (6, 32), (7, 96), (8, 224), (9, 0), (10, 992), (11, 2016), (12, 4064), (13, 0), (14, 0), (15, 24576), (16, 65504), (17, 131071), (18, 262143), (19, 524287)]].getD n [] }
def pl.f23 (c : CallT) (Q : Value → AH → Prop) : Plan := [
  (2047, fun S T H => F.f23_j3 (sy c) Q (T 0) (T 1) (T 2) (T 13) (T 14) H),
  (1023, fun S T H => F.f23_j2 (sy c) Q (T 0) (T 1) (T 2) (T 3) (T 4) (T 13) (T 14) H),
  (255, fun S T H => F.f23_j1 (sy c) Q (T 0) (T 1) (T 2) (T 3) (T 4) (T 13) H),
  (252, fun S T H => F.f23_l1 (sy c) Q (T 0) (T 1) (T 2) (T 3) (T 4) (T 13) H (S 0))]
theorem L.f23 (c : CallT) (x0 x1 x2 x3 x4 : Value) (H : AH) (Q : Value → AH → Prop) (h : F.f23 (sy c) x0 x1 x2 x3 x4 H Q) : evBody Try.prog c kp.f23 Try.f19 [x0, x1, x2, x3, x4] H Q :=
  evBody_of (pl := pl.f23 c Q) Try.f19 _ H Q (bodyOf Try.f19) (by kernel_rfl) (by kernel_rfl) (by kernel_rfl) h

def kp.f7 : Keep := { keep := fun n => [[0, 1], [0, 1], [6, 7], [7], [6], [6, 8], [8, 23], [8, 23], [8, 9, 23], [8], [8]].getD n [], order := fun n => [].getD n [] }
def pl.f7 (c : CallT) (Q : Value → AH → Prop) : Plan := [
  (250, fun S T H => F.f7_l1 (sy c) Q (T 8) (T 23) H (S 0))]
theorem L.f7 (c : CallT) (x0 x1 : Value) (H : AH) (Q : Value → AH → Prop) (h : F.f7 (sy c) x0 x1 H Q) : evBody Try.prog c kp.f7 Try.f20 [x0, x1] H Q :=
  evBody_of (pl := pl.f7 c Q) Try.f20 _ H Q (bodyOf Try.f20) (by kernel_rfl) (by kernel_rfl) (by kernel_rfl) h

def kp.f2 : Keep := { keep := fun n => [[0], [0], [], [0]].getD n [], order := fun n => [].getD n [] }
theorem L.f2 (c : CallT) (x0 : Value) (H : AH) (Q : Value → AH → Prop) (h : F.f2 (sy c) x0 H Q) : evBody Try.prog c kp.f2 Try.f21 [x0] H Q :=
  evBody_of (pl := []) Try.f21 _ H Q (bodyOf Try.f21) (by kernel_rfl) (by kernel_rfl) (by kernel_rfl) h

def kp.f20 : Keep := { keep := fun n => [[0], [0], [0, 3], [0, 3], [0, 3], [], [0]].getD n [], order := fun n => [].getD n [] }
def pl.f20 (c : CallT) (Q : Value → AH → Prop) : Plan := [
  (26, fun S T H => F.f20_l1 (sy c) Q (T 0) (T 3) H (S 0))]
theorem L.f20 (c : CallT) (x0 : Value) (H : AH) (Q : Value → AH → Prop) (h : F.f20 (sy c) x0 H Q) : evBody Try.prog c kp.f20 Try.f22 [x0] H Q :=
  evBody_of (pl := pl.f20 c Q) Try.f22 _ H Q (bodyOf Try.f22) (by kernel_rfl) (by kernel_rfl) (by kernel_rfl) h

def kp.f5 : Keep := { keep := fun n => [[0, 1, 2, 3], [0, 1, 2, 3], [0, 1, 2, 3, 9], [0, 2, 3, 9, 10, 11], [], [0, 2, 3, 9, 10, 11], [], [0, 2, 3, 9, 10, 11], [11], [0, 2, 3, 9, 10], [], [0, 2, 3, 9, 10], [], [0, 2, 3, 9, 10], [0, 9], [0], []].getD n [], order := fun n => [].getD n [] }
theorem L.f5 (c : CallT) (x0 x1 x2 x3 : Value) (H : AH) (Q : Value → AH → Prop) (h : F.f5 (sy c) x0 x1 x2 x3 H Q) : evBody Try.prog c kp.f5 Try.f17 [x0, x1, x2, x3] H Q :=
  evBody_of (pl := []) Try.f17 _ H Q (bodyOf Try.f17) (by kernel_rfl) (by kernel_rfl) (by kernel_rfl) h

def kp.f6 : Keep := { keep := fun n => [[0, 1, 2, 3], [0, 1, 2, 3], [0, 1, 2, 3, 9, 10], [10], [0, 1, 2, 3, 9], [0, 1, 2, 3, 9, 11], [], [0, 1, 2, 3, 9, 11], [], [0, 1, 2, 3, 9, 11], [], [0, 1, 2, 9, 11], [0, 9, 11], [0, 9], [0, 9], []].getD n [], order := fun n => [].getD n [] }
theorem L.f6 (c : CallT) (x0 x1 x2 x3 : Value) (H : AH) (Q : Value → AH → Prop) (h : F.f6 (sy c) x0 x1 x2 x3 H Q) : evBody Try.prog c kp.f6 Try.f14 [x0, x1, x2, x3] H Q :=
  evBody_of (pl := []) Try.f14 _ H Q (bodyOf Try.f14) (by kernel_rfl) (by kernel_rfl) (by kernel_rfl) h

def kp.f8 : Keep := { keep := fun n => [[0, 1], [0, 1], [], [0, 1]].getD n [], order := fun n => [].getD n [] }
theorem L.f8 (c : CallT) (x0 x1 : Value) (H : AH) (Q : Value → AH → Prop) (h : F.f8 (sy c) x0 x1 H Q) : evBody Try.prog c kp.f8 Try.f15 [x0, x1] H Q :=
  evBody_of (pl := []) Try.f15 _ H Q (bodyOf Try.f15) (by kernel_rfl) (by kernel_rfl) (by kernel_rfl) h

def kp.f13 : Keep := { keep := fun n => [[0, 1, 2], [0, 1, 2], [2, 8, 9], [9], [2, 8], [], [2, 8], [8, 11], [], [8], [], [8], [], [8]].getD n [], order := fun n => [].getD n [] }
theorem L.f13 (c : CallT) (x0 x1 x2 : Value) (H : AH) (Q : Value → AH → Prop) (h : F.f13 (sy c) x0 x1 x2 H Q) : evBody Try.prog c kp.f13 Try.f36 [x0, x1, x2] H Q :=
  evBody_of (pl := []) Try.f36 _ H Q (bodyOf Try.f36) (by kernel_rfl) (by kernel_rfl) (by kernel_rfl) h

def kp.f11 : Keep := { keep := fun n => [[0, 1], [0, 1], [0, 1, 5], [0, 1, 5], [0, 1, 5], [5]].getD n [], order := fun n => [].getD n [] }
def pl.f11 (c : CallT) (Q : Value → AH → Prop) : Plan := [
  (28, fun S T H => F.f11_l1 (sy c) Q (T 0) (T 1) (T 5) H (S 0))]
theorem L.f11 (c : CallT) (x0 x1 : Value) (H : AH) (Q : Value → AH → Prop) (h : F.f11 (sy c) x0 x1 H Q) : evBody Try.prog c kp.f11 Try.f37 [x0, x1] H Q :=
  evBody_of (pl := pl.f11 c Q) Try.f37 _ H Q (bodyOf Try.f37) (by kernel_rfl) (by kernel_rfl) (by kernel_rfl) h

def kp.f49 : Keep := { keep := fun n => [[0, 1], [0, 1]].getD n [], order := fun n => [].getD n [] }
theorem L.f49 (c : CallT) (x0 x1 : Value) (H : AH) (Q : Value → AH → Prop) (h : F.f49 (sy c) x0 x1 H Q) : evBody Try.prog c kp.f49 Try.f38 [x0, x1] H Q :=
  evBody_of (pl := []) Try.f38 _ H Q (bodyOf Try.f38) (by kernel_rfl) (by kernel_rfl) (by kernel_rfl) h

def kp.f27 : Keep := { keep := fun n => [[0, 1, 2], [0, 1, 2], [0, 1, 2, 7], [7], [0, 1, 2], [2, 8], [], [2, 8], [], [8], [], [8], [], []].getD n [], order := fun n => [].getD n [] }
theorem L.f27 (c : CallT) (x0 x1 x2 : Value) (H : AH) (Q : Value → AH → Prop) (h : F.f27 (sy c) x0 x1 x2 H Q) : evBody Try.prog c kp.f27 Try.f42 [x0, x1, x2] H Q :=
  evBody_of (pl := []) Try.f42 _ H Q (bodyOf Try.f42) (by kernel_rfl) (by kernel_rfl) (by kernel_rfl) h

def kp.f22 : Keep := { keep := fun n => [[0], [0], [0, 3], [0, 3, 4], [0, 3, 4], [0, 3, 4], [0, 3, 4], [3]].getD n [], order := fun n => [].getD n [] }
def pl.f22 (c : CallT) (Q : Value → AH → Prop) : Plan := [
  (58, fun S T H => F.f22_l1 (sy c) Q (T 0) (T 3) (T 4) H (S 0))]
theorem L.f22 (c : CallT) (x0 : Value) (H : AH) (Q : Value → AH → Prop) (h : F.f22 (sy c) x0 H Q) : evBody Try.prog c kp.f22 Try.f23 [x0] H Q :=
  evBody_of (pl := pl.f22 c Q) Try.f23 _ H Q (bodyOf Try.f23) (by kernel_rfl) (by kernel_rfl) (by kernel_rfl) h

def kp.f25 : Keep := { keep := fun n => [[0, 1], [0, 1], [0, 1, 5], [0, 1, 5], [0, 1, 5], [5]].getD n [], order := fun n => [].getD n [] }
def pl.f25 (c : CallT) (Q : Value → AH → Prop) : Plan := [
  (28, fun S T H => F.f25_l1 (sy c) Q (T 0) (T 1) (T 5) H (S 0))]
theorem L.f25 (c : CallT) (x0 x1 : Value) (H : AH) (Q : Value → AH → Prop) (h : F.f25 (sy c) x0 x1 H Q) : evBody Try.prog c kp.f25 Try.f43 [x0, x1] H Q :=
  evBody_of (pl := pl.f25 c Q) Try.f43 _ H Q (bodyOf Try.f43) (by kernel_rfl) (by kernel_rfl) (by kernel_rfl) h

def kp.f29 : Keep := { keep := fun n => [[0, 1], [0, 3], [0, 3, 5], [0, 3, 5], [0, 3, 5]].getD n [], order := fun n => [[], [], [(0, 0), (1, 0), (2, 2), (3, 7), (4, 15), (5, 31), (6, 31), (7, 127), (8, 255), (9, 511), (10, 31), (11, 1055), (12, 4095), (13, 8191)], [], [(0, 0), (1, 0), (2, 0), (3, 6), (5, 0), (6, 32), (8, 0), (9, 0), (10, 768), (4, 15), (7, 127), (11, 2047), (12, 4095)]].getD n [] }
def pl.f29 (c : CallT) (Q : Value → AH → Prop) : Plan := [
  (28, fun S T H => F.f29_l1 (sy c) Q (T 0) (T 3) (T 5) H (S 0))]
theorem L.f29 (c : CallT) (x0 x1 : Value) (H : AH) (Q : Value → AH → Prop) (h : F.f29 (sy c) x0 x1 H Q) : evBody Try.prog c kp.f29 Try.f44 [x0, x1] H Q :=
  evBody_of (pl := pl.f29 c Q) Try.f44 _ H Q (bodyOf Try.f44) (by kernel_rfl) (by kernel_rfl) (by kernel_rfl) h

def kp.f12 : Keep := { keep := fun n => [[0, 1], [0, 1], [6], [], [6], [], [6]].getD n [], order := fun n => [].getD n [] }
theorem L.f12 (c : CallT) (x0 x1 : Value) (H : AH) (Q : Value → AH → Prop) (h : F.f12 (sy c) x0 x1 H Q) : evBody Try.prog c kp.f12 Try.f40 [x0, x1] H Q :=
  evBody_of (pl := []) Try.f40 _ H Q (bodyOf Try.f40) (by kernel_rfl) (by kernel_rfl) (by kernel_rfl) h

def kp.f30 : Keep := { keep := fun n => [[0], [0, 2]].getD n [], order := fun n => [].getD n [] }
theorem L.f30 (c : CallT) (x0 : Value) (H : AH) (Q : Value → AH → Prop) (h : F.f30 (sy c) x0 H Q) : evBody Try.prog c kp.f30 Try.f45 [x0] H Q :=
  evBody_of (pl := []) Try.f45 _ H Q (bodyOf Try.f45) (by kernel_rfl) (by kernel_rfl) (by kernel_rfl) h

def kp.f46 : Keep := { keep := fun n => [[0, 1], [0, 1]].getD n [], order := fun n => [].getD n [] }
theorem L.f46 (c : CallT) (x0 x1 : Value) (H : AH) (Q : Value → AH → Prop) (h : F.f46 (sy c) x0 x1 H Q) : evBody Try.prog c kp.f46 Try.f46 [x0, x1] H Q :=
  evBody_of (pl := []) Try.f46 _ H Q (bodyOf Try.f46) (by kernel_rfl) (by kernel_rfl) (by kernel_rfl) h

def kp.f3 : Keep := { keep := fun n => [[0], [0]].getD n [], order := fun n => [].getD n [] }
theorem L.f3 (c : CallT) (x0 : Value) (H : AH) (Q : Value → AH → Prop) (h : F.f3 (sy c) x0 H Q) : evBody Try.prog c kp.f3 Try.f47 [x0] H Q :=
  evBody_of (pl := []) Try.f47 _ H Q (bodyOf Try.f47) (by kernel_rfl) (by kernel_rfl) (by kernel_rfl) h

def kp.f9 : Keep := { keep := fun n => [[0, 1, 2], [0, 1, 2], [2, 8, 9], [9], [2, 8], [10, 11], [], [10]].getD n [], order := fun n => [].getD n [] }
theorem L.f9 (c : CallT) (x0 x1 x2 : Value) (H : AH) (Q : Value → AH → Prop) (h : F.f9 (sy c) x0 x1 x2 H Q) : evBody Try.prog c kp.f9 Try.f28 [x0, x1, x2] H Q :=
  evBody_of (pl := []) Try.f28 _ H Q (bodyOf Try.f28) (by kernel_rfl) (by kernel_rfl) (by kernel_rfl) h

def kp.f14 : Keep := { keep := fun n => [[0, 1], [0, 1, 4], [0, 1]].getD n [], order := fun n => [].getD n [] }
theorem L.f14 (c : CallT) (x0 x1 : Value) (H : AH) (Q : Value → AH → Prop) (h : F.f14 (sy c) x0 x1 H Q) : evBody Try.prog c kp.f14 Try.f39 [x0, x1] H Q :=
  evBody_of (pl := []) Try.f39 _ H Q (bodyOf Try.f39) (by kernel_rfl) (by kernel_rfl) (by kernel_rfl) h

def kp.f26 : Keep := { keep := fun n => [[0, 1], [0, 1], [10], [], [10], [], []].getD n [], order := fun n => [].getD n [] }
theorem L.f26 (c : CallT) (x0 x1 : Value) (H : AH) (Q : Value → AH → Prop) (h : F.f26 (sy c) x0 x1 H Q) : evBody Try.prog c kp.f26 Try.f50 [x0, x1] H Q :=
  evBody_of (pl := []) Try.f50 _ H Q (bodyOf Try.f50) (by kernel_rfl) (by kernel_rfl) (by kernel_rfl) h

def kp.f24 : Keep := { keep := fun n => [[0, 1], [0, 1], [], [0, 1]].getD n [], order := fun n => [].getD n [] }
theorem L.f24 (c : CallT) (x0 x1 : Value) (H : AH) (Q : Value → AH → Prop) (h : F.f24 (sy c) x0 x1 H Q) : evBody Try.prog c kp.f24 Try.f48 [x0, x1] H Q :=
  evBody_of (pl := []) Try.f48 _ H Q (bodyOf Try.f48) (by kernel_rfl) (by kernel_rfl) (by kernel_rfl) h

def kp.f28 : Keep := { keep := fun n => [[0, 1], [0, 1], [0, 1, 5], [0, 1, 5], [0, 1, 5], [5], []].getD n [], order := fun n => [].getD n [] }
def pl.f28 (c : CallT) (Q : Value → AH → Prop) : Plan := [
  (26, fun S T H => F.f28_l1 (sy c) Q (T 0) (T 1) (T 5) H (S 0))]
theorem L.f28 (c : CallT) (x0 x1 : Value) (H : AH) (Q : Value → AH → Prop) (h : F.f28 (sy c) x0 x1 H Q) : evBody Try.prog c kp.f28 Try.f51 [x0, x1] H Q :=
  evBody_of (pl := pl.f28 c Q) Try.f51 _ H Q (bodyOf Try.f51) (by kernel_rfl) (by kernel_rfl) (by kernel_rfl) h

def kp.f15 : Keep := { keep := fun n => [[0], [0], [0]].getD n [], order := fun n => [].getD n [] }
theorem L.f15 (c : CallT) (x0 : Value) (H : AH) (Q : Value → AH → Prop) (h : F.f15 (sy c) x0 H Q) : evBody Try.prog c kp.f15 Try.f65 [x0] H Q :=
  evBody_of (pl := []) Try.f65 _ H Q (bodyOf Try.f65) (by kernel_rfl) (by kernel_rfl) (by kernel_rfl) h

def kp.f42 : Keep := { keep := fun n => [[0, 1, 2, 3], [0, 1, 2, 3, 8], [0, 1, 2, 3, 8, 9], [0, 1, 2, 3, 8, 9, 10], [0, 1, 2], [0, 1, 2, 3, 8, 9, 10], [0, 1, 2], [0, 1, 2, 3, 8, 9, 10], [0, 1, 2, 3, 8, 9, 10], [0, 1, 2, 3, 8, 9, 10], [0, 1, 2, 3, 8, 9, 10], [0, 1, 2, 3, 8, 9, 10, 11, 12], [0, 1, 2, 3, 8, 9, 10, 11], [0, 1, 2, 3, 8, 9, 10, 11], [0, 1, 2, 3, 8, 9, 10, 11], [0, 1, 2, 3, 8, 9, 10, 11, 12], [0, 1, 2, 3, 8, 9, 10, 11], [0, 1, 2, 3, 8, 9, 10, 11], [0, 1, 2, 3, 8, 9, 11], [0, 2, 3, 8, 9, 13], [0, 1, 2, 3, 10, 11], [0, 1, 2, 3, 10, 14, 15], [0, 1, 2, 3, 9, 10, 14], [0, 1, 2, 3, 9, 10, 14, 16, 17], [0, 1, 2, 3, 9, 14, 16, 17, 18], [0, 1, 2, 3, 9, 14, 16, 18], [0, 1, 2, 3, 8, 9, 14], [0, 2, 3, 8, 9, 14], [0, 1, 2, 3, 9, 14, 17, 18], [0, 1, 2, 3, 8, 9, 14], [0, 1, 3, 8, 9, 14]].getD n [], order := fun n => [[], [], [], [], [], [], [], [], [], [], [], [], [], [], [], [], [], [(0, 0), (1, 1), (2, 3), (3, 7), (4, 7), (5, 23), (6, 63), (7, 127), (8, 7), (9, 7), (10, 775), (11, 1799), (12, 4095), (13, 8191), (14, 16383)]].getD n [] }
def pl.f42 (c : CallT) (Q : Value → AH → Prop) : Plan := [
  (7295, fun S T H => F.f42_j3 (sy c) Q (S 0) (T 0) (T 1) (T 2) (T 3) (T 8) (T 9) (T 10) (T 11) H),
  (3647, fun S T H => F.f42_j2 (sy c) Q (S 0) (T 0) (T 1) (T 2) (T 3) (T 8) (T 9) (T 10) (T 11) (T 12) H),
  (911, fun S T H => F.f42_j1 (sy c) Q (S 0) (T 0) (T 1) (T 2) (T 3) (T 8) (T 9) (T 10) H),
  (14, fun S T H => F.f42_l1 (sy c) Q (T 0) (T 1) (T 2) (T 3) (T 8) (T 9) H (S 0))]
theorem L.f42 (c : CallT) (x0 x1 x2 x3 : Value) (H : AH) (Q : Value → AH → Prop) (h : F.f42 (sy c) x0 x1 x2 x3 H Q) : evBody Try.prog c kp.f42 Try.f64 [x0, x1, x2, x3] H Q :=
  evBody_of (pl := pl.f42 c Q) Try.f64 _ H Q (bodyOf Try.f64) (by kernel_rfl) (by kernel_rfl) (by kernel_rfl) h

def kp.f47 : Keep := { keep := fun n => [[0, 1, 2], [0, 1, 2], [1, 2, 10], [1, 2, 10, 11], [1, 2, 7, 8, 10], [7], []].getD n [], order := fun n => [].getD n [] }
def pl.f47 (c : CallT) (Q : Value → AH → Prop) : Plan := [
  (26, fun S T H => F.f47_l1 (sy c) Q (T 1) (T 2) (T 10) H (S 0))]
theorem L.f47 (c : CallT) (x0 x1 x2 : Value) (H : AH) (Q : Value → AH → Prop) (h : F.f47 (sy c) x0 x1 x2 H Q) : evBody Try.prog c kp.f47 Try.f66 [x0, x1, x2] H Q :=
  evBody_of (pl := pl.f47 c Q) Try.f66 _ H Q (bodyOf Try.f66) (by kernel_rfl) (by kernel_rfl) (by kernel_rfl) h

def kp.f16 : Keep := { keep := fun n => [[0], [0, 2], [0], [0], [0, 2], [0, 2], [0, 2], [0, 2]].getD n [], order := fun n => [].getD n [] }
def pl.f16 (c : CallT) (Q : Value → AH → Prop) : Plan := [
  (15, fun S T H => F.f16_j2 (sy c) Q (T 0) (T 2) H),
  (7, fun S T H => F.f16_j1 (sy c) Q (T 0) (T 2) H)]
theorem L.f16 (c : CallT) (x0 : Value) (H : AH) (Q : Value → AH → Prop) (h : F.f16 (sy c) x0 H Q) : evBody Try.prog c kp.f16 Try.f79 [x0] H Q :=
  evBody_of (pl := pl.f16 c Q) Try.f79 _ H Q (bodyOf Try.f79) (by kernel_rfl) (by kernel_rfl) (by kernel_rfl) h

def kp.f17 : Keep := { keep := fun n => [[0], [0, 2], [0], [0], [0, 2], [0, 2], [0, 2], [0, 2], [0, 2], [0, 2], [0, 2]].getD n [], order := fun n => [].getD n [] }
def pl.f17 (c : CallT) (Q : Value → AH → Prop) : Plan := [
  (31, fun S T H => F.f17_j3 (sy c) Q (T 0) (T 2) H),
  (15, fun S T H => F.f17_j2 (sy c) Q (T 0) (T 2) H),
  (7, fun S T H => F.f17_j1 (sy c) Q (T 0) (T 2) H)]
theorem L.f17 (c : CallT) (x0 : Value) (H : AH) (Q : Value → AH → Prop) (h : F.f17 (sy c) x0 H Q) : evBody Try.prog c kp.f17 Try.f80 [x0] H Q :=
  evBody_of (pl := pl.f17 c Q) Try.f80 _ H Q (bodyOf Try.f80) (by kernel_rfl) (by kernel_rfl) (by kernel_rfl) h

def kp.f34 : Keep := { keep := fun n => [[0, 1, 2], [0, 1, 2, 6], [0, 1, 2, 6], [0, 1, 2, 6], [0, 1, 2, 6, 7], [0, 1, 2, 6, 7], [0, 1, 2, 6, 7]].getD n [], order := fun n => [[], [], [], [], [(0, 0), (1, 0), (2, 3), (3, 7), (4, 15), (5, 15), (6, 63), (7, 127), (8, 15), (9, 15), (10, 527), (11, 1807), (12, 3855), (13, 8191), (14, 16383)], [], [(0, 0), (1, 0), (2, 0), (3, 0), (4, 8), (5, 0), (6, 0), (7, 64), (8, 224), (9, 480), (10, 0), (11, 0), (12, 3072), (13, 7168), (14, 16355), (15, 32739), (16, 65535), (17, 131071)]].getD n [] }
def pl.f34 (c : CallT) (Q : Value → AH → Prop) : Plan := [
  (402, fun S T H => F.f34_l2 (sy c) Q (S 1) (T 0) (T 1) (T 2) (T 6) (T 7) H (S 0)),
  (6, fun S T H => F.f34_l1 (sy c) Q (T 0) (T 1) (T 2) (T 6) H (S 0))]
theorem L.f34 (c : CallT) (x0 x1 x2 : Value) (H : AH) (Q : Value → AH → Prop) (h : F.f34 (sy c) x0 x1 x2 H Q) : evBody Try.prog c kp.f34 Try.f70 [x0, x1, x2] H Q :=
  evBody_of (pl := pl.f34 c Q) Try.f70 _ H Q (bodyOf Try.f70) (by kernel_rfl) (by kernel_rfl) (by kernel_rfl) h

def kp.f33 : Keep := { keep := fun n => [[0, 1, 2], [0, 1, 2, 6], [0, 1, 2, 6, 7], [0, 6, 7, 8], [0, 6, 7, 8, 9], [0, 6, 7, 8, 9], [0, 6, 7, 8, 9], [0, 6, 7, 8], [0, 6, 7, 10], [0, 6, 7, 10], [0, 6, 7, 10], [0, 6, 7, 10]].getD n [], order := fun n => [[], [], [], [], [], [], [], [], [], [], [(0, 0), (1, 0), (2, 0), (3, 0), (4, 0), (5, 24), (6, 0), (7, 0), (8, 0), (9, 384), (10, 960), (11, 1984), (12, 0), (13, 0), (14, 12288), (15, 28672), (16, 65475), (17, 131011), (18, 262143), (19, 524287)]].getD n [] }
def pl.f33 (c : CallT) (Q : Value → AH → Prop) : Plan := [
  (126, fun S T H => F.f33_l2 (sy c) Q (T 0) (T 6) (T 7) (T 10) H (S 0)),
  (122, fun S T H => F.f33_l1 (sy c) Q (T 0) (T 6) (T 7) (T 8) (T 9) H (S 0))]
theorem L.f33 (c : CallT) (x0 x1 x2 : Value) (H : AH) (Q : Value → AH → Prop) (h : F.f33 (sy c) x0 x1 x2 H Q) : evBody Try.prog c kp.f33 Try.f71 [x0, x1, x2] H Q :=
  evBody_of (pl := pl.f33 c Q) Try.f71 _ H Q (bodyOf Try.f71) (by kernel_rfl) (by kernel_rfl) (by kernel_rfl) h

def kp.f31 : Keep := { keep := fun n => [[0, 1, 2], [0, 1, 6], [0, 1, 6], [0, 1, 6, 7], [0, 1, 6, 7, 8], [0, 1, 6, 7, 8, 9], [0, 1, 6, 7, 8, 9], [0, 1, 6, 7, 8, 9], [0, 1, 6, 7, 8, 9, 10], [0, 1, 6, 7, 8, 9, 10], [0, 1, 6, 7, 8, 9, 10]].getD n [], order := fun n => [[], [], [], [], [], [], [], [], [], [], [(0, 0), (1, 0), (2, 0), (3, 0), (4, 0), (5, 24), (6, 0), (7, 0), (8, 0), (9, 384), (10, 960), (11, 1984), (12, 0), (13, 0), (14, 12288), (15, 28672), (16, 65475), (17, 131011), (18, 262143), (19, 524287)]].getD n [] }
def pl.f31 (c : CallT) (Q : Value → AH → Prop) : Plan := [
  (15251, fun S T H => F.f31_j1 (sy c) Q (S 0) (T 0) (T 1) (T 6) (T 7) (T 8) (T 9) (T 10) H),
  (238, fun S T H => F.f31_l1 (sy c) Q (T 0) (T 1) (T 6) (T 7) (T 8) (T 9) H (S 0))]
theorem L.f31 (c : CallT) (x0 x1 x2 : Value) (H : AH) (Q : Value → AH → Prop) (h : F.f31 (sy c) x0 x1 x2 H Q) : evBody Try.prog c kp.f31 Try.f72 [x0, x1, x2] H Q :=
  evBody_of (pl := pl.f31 c Q) Try.f72 _ H Q (bodyOf Try.f72) (by kernel_rfl) (by kernel_rfl) (by kernel_rfl) h

def kp.f32 : Keep := { keep := fun n => [[0, 1, 2], [0, 1, 2], [0, 1, 8], [0, 1, 8, 9], [0, 1, 8, 9, 10], [0, 1, 8, 9, 10, 11], [0, 8, 9, 10, 11, 12], [0, 8, 9, 10, 11, 12], [0, 9, 10, 11, 12], [0, 9, 10, 11, 12], [0, 9, 10, 11, 12], [0, 9, 10, 11, 12], [9, 11], [11], [11, 49], [11], [11, 49], [11]].getD n [], order := fun n => [].getD n [] }
def pl.f32 (c : CallT) (Q : Value → AH → Prop) : Plan := [
  (255, fun S T H => F.f32_j1 (sy c) Q (T 9) (T 11) H),
  (2037, fun S T H => F.f32_j2 (sy c) Q (T 0) (T 9) (T 10) (T 11) (T 12) H)]
theorem L.f32 (c : CallT) (x0 x1 x2 : Value) (H : AH) (Q : Value → AH → Prop) (h : F.f32 (sy c) x0 x1 x2 H Q) : evBody Try.prog c kp.f32 Try.f73 [x0, x1, x2] H Q :=
  evBody_of (pl := pl.f32 c Q) Try.f73 _ H Q (bodyOf Try.f73) (by kernel_rfl) (by kernel_rfl) (by kernel_rfl) h

def kp.f43 : Keep := { keep := fun n => [[0, 1, 2], [0, 2, 6], [0, 6, 7], [0, 6, 7], [0, 6, 7], [0, 6, 7]].getD n [], order := fun n => [[], [], [], [(0, 0), (1, 0), (2, 0), (3, 0), (4, 0), (5, 0), (6, 48), (7, 112), (8, 0), (9, 0), (10, 768), (11, 1792), (12, 4083), (13, 8179), (14, 16383), (15, 32767)]].getD n [] }
def pl.f43 (c : CallT) (Q : Value → AH → Prop) : Plan := [
  (14, fun S T H => F.f43_l1 (sy c) Q (T 0) (T 6) (T 7) H (S 0))]
theorem L.f43 (c : CallT) (x0 x1 x2 : Value) (H : AH) (Q : Value → AH → Prop) (h : F.f43 (sy c) x0 x1 x2 H Q) : evBody Try.prog c kp.f43 Try.f74 [x0, x1, x2] H Q :=
  evBody_of (pl := pl.f43 c Q) Try.f74 _ H Q (bodyOf Try.f74) (by kernel_rfl) (by kernel_rfl) (by kernel_rfl) h

def kp.f39 : Keep := { keep := fun n => [[0, 1, 2], [0, 1, 2], [0, 1, 2, 7], [0, 1, 2, 7, 8], [0, 1, 2, 7, 8], [0, 1, 2, 7, 8], [0, 1, 2, 7, 8], [0, 1, 2, 7, 8], [], [0, 1, 2, 7, 8], [], [0, 1, 2, 7, 8], [0, 1, 2, 7, 8], [0, 1, 2, 7, 8], [0, 1, 2, 7, 8, 9], [0, 1, 2, 7, 8, 9], [0, 1, 2, 7, 8, 9], [0, 1, 2, 7, 8, 9], [0, 1, 2, 7, 8], [0, 1, 2, 7, 8], [0, 1, 2, 7, 8, 10], [0, 1, 2, 7, 8, 10], [0, 1, 2, 7, 8, 10], [0, 1, 2, 7, 8, 10], []].getD n [], order := fun n => [[], [], [], [], [], [(0, 0), (1, 0), (2, 3), (3, 7), (4, 15), (5, 15), (6, 63), (7, 127), (8, 15), (9, 15), (10, 527), (11, 1807), (12, 3855), (13, 8191), (14, 16383), (15, 32767)], [], [], [], [], [], [(0, 0), (1, 0), (2, 0), (3, 0), (4, 8), (5, 0), (6, 0), (7, 64), (8, 224), (9, 480), (10, 0), (11, 0), (12, 3072), (13, 7168), (14, 16355), (15, 32739), (16, 65535), (17, 131071)], [], [], [], [], [(0, 0), (1, 0), (2, 3), (3, 7), (4, 0), (5, 0), (6, 32), (7, 112), (8, 240), (9, 511), (10, 1023)], [(0, 0), (1, 0), (2, 0), (3, 0), (4, 8), (5, 0), (6, 0), (7, 64), (8, 224), (9, 480), (10, 0), (11, 0), (12, 3072), (13, 7168), (14, 16355), (15, 32739), (16, 65535), (17, 131071)], [], [], [], [], [(0, 0), (1, 0), (2, 3), (3, 7), (4, 0), (5, 0), (6, 32), (7, 112), (8, 240), (9, 511), (10, 1023)], [(0, 0), (1, 0), (2, 0), (3, 0), (4, 8), (5, 0), (6, 0), (7, 64), (8, 224), (9, 480), (10, 0), (11, 0), (12, 3072), (13, 7168), (14, 16355), (15, 32739), (16, 65535), (17, 131071)]].getD n [] }
def pl.f39 (c : CallT) (Q : Value → AH → Prop) : Plan := [
  (477690, fun S T H => F.f39_l3 (sy c) Q (S 1) (T 0) (T 1) (T 2) (T 7) (T 8) (T 10) H (S 0)),
  (29855, fun S T H => F.f39_j1 (sy c) Q (S 0) (T 0) (T 1) (T 2) (T 7) (T 8) H),
  (477674, fun S T H => F.f39_l4 (sy c) Q (S 1) (T 0) (T 1) (T 2) (T 7) (T 8) (T 9) H (S 0)),
  (3728, fun S T H => F.f39_l2 (sy c) Q (S 1) (T 0) (T 1) (T 2) (T 7) (T 8) H (S 0)),
  (58, fun S T H => F.f39_l1 (sy c) Q (T 0) (T 1) (T 2) (T 7) (T 8) H (S 0))]
theorem L.f39 (c : CallT) (x0 x1 x2 : Value) (H : AH) (Q : Value → AH → Prop) (h : F.f39 (sy c) x0 x1 x2 H Q) : evBody Try.prog c kp.f39 Try.f75 [x0, x1, x2] H Q :=
  evBody_of (pl := pl.f39 c Q) Try.f75 _ H Q (bodyOf Try.f75) (by kernel_rfl) (by kernel_rfl) (by kernel_rfl) h

def kp.f0 : Keep := { keep := fun n => [[0, 1], [0, 1]].getD n [], order := fun n => [].getD n [] }
theorem L.f0 (c : CallT) (x0 x1 : Value) (H : AH) (Q : Value → AH → Prop) (h : F.f0 (sy c) x0 x1 H Q) : evBody Try.prog c kp.f0 Try.f76 [x0, x1] H Q :=
  evBody_of (pl := []) Try.f76 _ H Q (bodyOf Try.f76) (by kernel_rfl) (by kernel_rfl) (by kernel_rfl) h

def kp.f40 : Keep := { keep := fun n => [[0, 1, 2, 3], [0, 1, 2, 3], [0, 1, 2], [0, 1, 9, 10], [0, 1, 9, 10], [0, 1, 9, 10], [0, 1, 9, 10], [0, 1, 9, 10], [0, 1, 9, 10], [0, 1, 9, 10], [0, 1, 9, 10], [9]].getD n [], order := fun n => [[], [(0, 0), (1, 0), (2, 0), (3, 0), (4, 0), (5, 0), (6, 48), (7, 112), (8, 0), (9, 0), (10, 768), (11, 1792), (12, 4083), (13, 8179), (14, 16383), (15, 32767)], [], [(0, 0), (1, 0), (2, 3), (3, 7), (4, 15), (5, 15), (6, 63), (7, 127), (8, 15), (9, 15), (10, 783), (11, 1807), (12, 4095), (13, 8191), (14, 16383)], [], [(0, 0), (1, 0), (2, 3), (3, 7), (4, 15), (5, 15), (6, 63), (7, 127), (8, 15), (9, 15), (10, 783), (11, 1807), (12, 4095), (13, 8191)], [], [], [(0, 0), (1, 0), (2, 0), (3, 0), (4, 0), (5, 0), (6, 48), (7, 112), (8, 0), (9, 0), (10, 768), (11, 1792), (12, 4083), (13, 8179), (14, 16383), (15, 32767)]].getD n [] }
def pl.f40 (c : CallT) (Q : Value → AH → Prop) : Plan := [
  (1924, fun S T H => F.f40_l3 (sy c) Q (S 1) (T 0) (T 1) (T 9) (T 10) H (S 0)),
  (960, fun S T H => F.f40_l2 (sy c) Q (S 1) (T 0) (T 1) (T 9) (T 10) H (S 0)),
  (60, fun S T H => F.f40_l1 (sy c) Q (T 0) (T 1) (T 9) (T 10) H (S 0))]
theorem L.f40 (c : CallT) (x0 x1 x2 x3 : Value) (H : AH) (Q : Value → AH → Prop) (h : F.f40 (sy c) x0 x1 x2 x3 H Q) : evBody Try.prog c kp.f40 Try.f77 [x0, x1, x2, x3] H Q :=
  evBody_of (pl := pl.f40 c Q) Try.f77 _ H Q (bodyOf Try.f77) (by kernel_rfl) (by kernel_rfl) (by kernel_rfl) h

def kp.f41 : Keep := { keep := fun n => [[0, 1, 2, 3], [0, 1, 2, 3], [0, 1, 2], [0, 1, 10, 11], [0, 1, 10, 11], [0, 1, 10, 11], [0, 1, 10, 11], [0, 1, 10, 11], [0, 1, 11], [11], [0, 1, 10, 11], [0, 1, 10, 11], [0, 1, 10, 11], [0, 1, 10, 11], [0, 1, 10, 11], [0, 1, 10, 11], [0, 1, 10, 11], [0, 1, 10, 11], [0, 1, 10, 11], [0, 1, 10, 11], [0, 1, 10, 11], [0, 1, 11], [11]].getD n [], order := fun n => [[], [(0, 0), (1, 0), (2, 0), (3, 0), (4, 0), (5, 0), (6, 48), (7, 112), (8, 0), (9, 0), (10, 768), (11, 1792), (12, 4083), (13, 8179), (14, 16383), (15, 32767)], [], [(0, 0), (1, 0), (2, 3), (3, 7), (4, 15), (5, 15), (6, 63), (7, 127), (8, 15), (9, 15), (10, 783), (11, 1807), (12, 4095), (13, 8191)], [], [(0, 0), (1, 0), (2, 3), (3, 7), (4, 15), (5, 15), (6, 63), (7, 127), (8, 15), (9, 15), (10, 783), (11, 1807), (12, 4095), (13, 8191), (14, 16383)], [], [], [(0, 0), (1, 0), (2, 0), (3, 0), (4, 0), (5, 0), (6, 48), (7, 112), (8, 0), (9, 0), (10, 768), (11, 1792), (12, 4083), (13, 8179), (14, 16383), (15, 32767)], [], [(0, 0), (1, 0), (2, 0), (3, 0), (4, 0), (5, 0), (6, 48), (7, 112), (8, 0), (9, 0), (10, 768), (11, 1792), (12, 4083), (13, 8179), (14, 16383), (15, 32767)], [], [], [(0, 0), (1, 0), (2, 3), (3, 7), (4, 15), (5, 15), (6, 63), (7, 127), (8, 15), (9, 15), (10, 783), (11, 1807), (12, 4095), (13, 8191)], [], [(0, 0), (1, 0), (2, 3), (3, 7), (4, 15), (5, 15), (6, 63), (7, 127), (8, 15), (9, 15), (10, 783), (11, 1807), (12, 4095), (13, 8191), (14, 16383)], [], [], [(0, 0), (1, 0), (2, 0), (3, 0), (4, 0), (5, 0), (6, 48), (7, 112), (8, 0), (9, 0), (10, 768), (11, 1792), (12, 4083), (13, 8179), (14, 16383), (15, 32767)], [], [], [(0, 0), (1, 0), (2, 0), (3, 0), (4, 0), (5, 0), (6, 48), (7, 112), (8, 0), (9, 0), (10, 768), (11, 1792), (12, 4083), (13, 8179), (14, 16383), (15, 32767)]].getD n [] }
def pl.f41 (c : CallT) (Q : Value → AH → Prop) : Plan := [
  (130948, fun S T H => F.f41_l5 (sy c) Q (S 1) (T 0) (T 1) (T 10) (T 11) H (S 0)),
  (65472, fun S T H => F.f41_l4 (sy c) Q (S 1) (T 0) (T 1) (T 10) (T 11) H (S 0)),
  (4092, fun S T H => F.f41_l3 (sy c) Q (T 0) (T 1) (T 10) (T 11) H (S 0)),
  (124, fun S T H => F.f41_l2 (sy c) Q (T 0) (T 1) (T 10) (T 11) H (S 0)),
  (60, fun S T H => F.f41_l1 (sy c) Q (T 0) (T 1) (T 10) (T 11) H (S 0))]
theorem L.f41 (c : CallT) (x0 x1 x2 x3 : Value) (H : AH) (Q : Value → AH → Prop) (h : F.f41 (sy c) x0 x1 x2 x3 H Q) : evBody Try.prog c kp.f41 Try.f78 [x0, x1, x2, x3] H Q :=
  evBody_of (pl := pl.f41 c Q) Try.f78 _ H Q (bodyOf Try.f78) (by kernel_rfl) (by kernel_rfl) (by kernel_rfl) h

def kp.f44 : Keep := { keep := fun n => [[0, 1, 2, 3], [0, 2, 3, 8], [0, 2, 3, 8, 9], [0, 2, 3, 8, 9], [0, 2, 3, 8, 9], [0, 2, 3, 8, 9], [0, 2, 3, 8, 9], [0, 2, 3, 9]].getD n [], order := fun n => [[], [], [], [(0, 0), (1, 1), (2, 0), (3, 7), (4, 15), (5, 31), (6, 31), (7, 31), (8, 223), (9, 511), (10, 1023), (11, 31), (12, 31), (13, 31), (14, 12319), (15, 28703), (16, 63519), (17, 129055), (18, 262143), (19, 524287)], [], [(0, 0), (1, 0), (2, 0), (3, 6), (4, 15), (5, 31), (6, 0), (7, 0), (8, 0), (9, 384), (10, 960), (11, 1984), (12, 4095), (13, 8191)], [(0, 0), (1, 0), (2, 0), (3, 6), (4, 0), (5, 0), (6, 0), (7, 96), (8, 0), (9, 0), (10, 0), (11, 1536), (12, 3840), (13, 7936), (14, 0), (15, 0), (16, 0), (17, 98304), (18, 245760), (19, 507904), (20, 1048335), (21, 2096911), (22, 4194303), (23, 8388607)]].getD n [] }
def pl.f44 (c : CallT) (Q : Value → AH → Prop) : Plan := [
  (199, fun S T H => F.f44_j1 (sy c) Q (S 0) (T 0) (T 2) (T 3) (T 8) (T 9) H),
  (6, fun S T H => F.f44_l1 (sy c) Q (T 0) (T 2) (T 3) (T 8) H (S 0))]
theorem L.f44 (c : CallT) (x0 x1 x2 x3 : Value) (H : AH) (Q : Value → AH → Prop) (h : F.f44 (sy c) x0 x1 x2 x3 H Q) : evBody Try.prog c kp.f44 Try.f90 [x0, x1, x2, x3] H Q :=
  evBody_of (pl := pl.f44 c Q) Try.f90 _ H Q (bodyOf Try.f90) (by kernel_rfl) (by kernel_rfl) (by kernel_rfl) h

def kp.f37 : Keep := { keep := fun n => [[0], [0]].getD n [], order := fun n => [].getD n [] }
theorem L.f37 (c : CallT) (x0 : Value) (H : AH) (Q : Value → AH → Prop) (h : F.f37 (sy c) x0 H Q) : evBody Try.prog c kp.f37 Try.f91 [x0] H Q :=
  evBody_of (pl := []) Try.f91 _ H Q (bodyOf Try.f91) (by kernel_rfl) (by kernel_rfl) (by kernel_rfl) h

def kp.f45 : Keep := { keep := fun n => [[0], [0], [0], [0], [0]].getD n [], order := fun n => [[], [(0, 0), (1, 1), (2, 3), (3, 0), (4, 8), (5, 24), (6, 56), (7, 127), (8, 255), (9, 511)], [(0, 0), (1, 1), (2, 3), (3, 0), (4, 8), (5, 24), (6, 56), (7, 127), (8, 255), (9, 511)], [(0, 0), (1, 1), (2, 3), (3, 0), (4, 8), (5, 24), (6, 56), (7, 127), (8, 255), (9, 511)]].getD n [] }
theorem L.f45 (c : CallT) (x0 : Value) (H : AH) (Q : Value → AH → Prop) (h : F.f45 (sy c) x0 H Q) : evBody Try.prog c kp.f45 Try.f92 [x0] H Q :=
  evBody_of (pl := []) Try.f92 _ H Q (bodyOf Try.f92) (by kernel_rfl) (by kernel_rfl) (by kernel_rfl) h

def kp.f35 : Keep := { keep := fun n => [[0, 1, 2], [0, 1, 2]].getD n [], order := fun n => [].getD n [] }
theorem L.f35 (c : CallT) (x0 x1 x2 : Value) (H : AH) (Q : Value → AH → Prop) (h : F.f35 (sy c) x0 x1 x2 H Q) : evBody Try.prog c kp.f35 Try.f93 [x0, x1, x2] H Q :=
  evBody_of (pl := []) Try.f93 _ H Q (bodyOf Try.f93) (by kernel_rfl) (by kernel_rfl) (by kernel_rfl) h

def kp.f36 : Keep := { keep := fun n => [[0, 1, 2, 3, 4], [0, 1, 2, 3, 4], [0, 1, 2, 3, 4], [0, 1, 2, 4], [2]].getD n [], order := fun n => [].getD n [] }
theorem L.f36 (c : CallT) (x0 x1 x2 x3 x4 : Value) (H : AH) (Q : Value → AH → Prop) (h : F.f36 (sy c) x0 x1 x2 x3 x4 H Q) : evBody Try.prog c kp.f36 Try.f94 [x0, x1, x2, x3, x4] H Q :=
  evBody_of (pl := []) Try.f94 _ H Q (bodyOf Try.f94) (by kernel_rfl) (by kernel_rfl) (by kernel_rfl) h

def kp.f1 : Keep := { keep := fun n => [[0], [0]].getD n [], order := fun n => [].getD n [] }
theorem L.f1 (c : CallT) (x0 : Value) (H : AH) (Q : Value → AH → Prop) (h : F.f1 (sy c) x0 H Q) : evBody Try.prog c kp.f1 Try.f95 [x0] H Q :=
  evBody_of (pl := []) Try.f95 _ H Q (bodyOf Try.f95) (by kernel_rfl) (by kernel_rfl) (by kernel_rfl) h

def kp.f38 : Keep := { keep := fun n => [[0, 1, 2, 3], [0, 1, 2, 3], [1, 2, 3], [1, 2], [1, 2]].getD n [], order := fun n => [[], [(0, 0), (1, 0), (2, 3), (3, 7), (4, 0), (5, 0), (6, 48), (7, 112), (8, 255)]].getD n [] }
theorem L.f38 (c : CallT) (x0 x1 x2 x3 : Value) (H : AH) (Q : Value → AH → Prop) (h : F.f38 (sy c) x0 x1 x2 x3 H Q) : evBody Try.prog c kp.f38 Try.f100 [x0, x1, x2, x3] H Q :=
  evBody_of (pl := []) Try.f100 _ H Q (bodyOf Try.f100) (by kernel_rfl) (by kernel_rfl) (by kernel_rfl) h

def kpL : List (Nat × Keep) := [(5, kp.f19), (9, kp.f18), (10, kp.f4), (18, kp.f21), (11, kp.f10), (19, kp.f23), (20, kp.f7), (21, kp.f2), (22, kp.f20), (17, kp.f5), (14, kp.f6), (15, kp.f8), (36, kp.f13), (37, kp.f11), (38, kp.f49), (42, kp.f27), (23, kp.f22), (43, kp.f25), (44, kp.f29), (40, kp.f12), (45, kp.f30), (46, kp.f46), (47, kp.f3), (28, kp.f9), (39, kp.f14), (50, kp.f26), (48, kp.f24), (51, kp.f28), (65, kp.f15), (64, kp.f42), (66, kp.f47), (79, kp.f16), (80, kp.f17), (70, kp.f34), (71, kp.f33), (72, kp.f31), (73, kp.f32), (74, kp.f43), (75, kp.f39), (76, kp.f0), (77, kp.f40), (78, kp.f41), (90, kp.f44), (91, kp.f37), (92, kp.f45), (93, kp.f35), (94, kp.f36), (95, kp.f1), (100, kp.f38)]
def kps (f : FuncId) : Keep := ((kpL.find? (fun p => p.1 == f)).map (fun p => p.2)).getD { keep := fun _ => [], order := fun _ => [] }
def ext : CallT := fun f args H K => (f = 62 ∧ ∃ x0 x1, args = [x0, x1] ∧ atomicAdd x0 x1 H K) ∨ False
theorem extOk : CallOk Try.prog ext := by
  rintro f args H K (⟨rfl, h⟩ | h)
  · exact atomicAdd_told Try.func62 (by kernel_rfl) (by kernel_rfl) (by kernel_rfl) (by kernel_rfl) h
  · exact h.elim
theorem fold_f19 (x0 x1 : Value) (H : AH) (Q : Value → AH → Prop) (h : F.f19 (sy (CallW Try.prog kps ext)) x0 x1 H Q) : CallW Try.prog kps ext 5 [x0, x1] H Q :=
  CallW.fold (⟨Try.func5, by kernel_rfl, by kernel_rfl, by kernel_rfl⟩ : Go.AM.Good Try.prog 5 Try.f5) (Eq.mpr (by kernel_rfl : evBody Try.prog (CallW Try.prog kps ext) (kps 5) Try.f5 [x0, x1] H Q = evBody Try.prog (CallW Try.prog kps ext) kp.f19 Try.f5 [x0, x1] H Q) (L.f19 (CallW Try.prog kps ext) x0 x1 H Q h))
theorem fold_f18 (H : AH) (Q : Value → AH → Prop) (h : F.f18 (sy (CallW Try.prog kps ext)) H Q) : CallW Try.prog kps ext 9 [] H Q :=
  CallW.fold (⟨Try.func9, by kernel_rfl, by kernel_rfl, by kernel_rfl⟩ : Go.AM.Good Try.prog 9 Try.f9) (Eq.mpr (by kernel_rfl : evBody Try.prog (CallW Try.prog kps ext) (kps 9) Try.f9 [] H Q = evBody Try.prog (CallW Try.prog kps ext) kp.f18 Try.f9 [] H Q) (L.f18 (CallW Try.prog kps ext) H Q h))
theorem fold_f4 (x0 : Value) (H : AH) (Q : Value → AH → Prop) (h : F.f4 (sy (CallW Try.prog kps ext)) x0 H Q) : CallW Try.prog kps ext 10 [x0] H Q :=
  CallW.fold (⟨Try.func10, by kernel_rfl, by kernel_rfl, by kernel_rfl⟩ : Go.AM.Good Try.prog 10 Try.f10) (Eq.mpr (by kernel_rfl : evBody Try.prog (CallW Try.prog kps ext) (kps 10) Try.f10 [x0] H Q = evBody Try.prog (CallW Try.prog kps ext) kp.f4 Try.f10 [x0] H Q) (L.f4 (CallW Try.prog kps ext) x0 H Q h))
theorem fold_f21 (x0 : Value) (H : AH) (Q : Value → AH → Prop) (h : F.f21 (sy (CallW Try.prog kps ext)) x0 H Q) : CallW Try.prog kps ext 18 [x0] H Q :=
  CallW.fold (⟨Try.func18, by kernel_rfl, by kernel_rfl, by kernel_rfl⟩ : Go.AM.Good Try.prog 18 Try.f18) (Eq.mpr (by kernel_rfl : evBody Try.prog (CallW Try.prog kps ext) (kps 18) Try.f18 [x0] H Q = evBody Try.prog (CallW Try.prog kps ext) kp.f21 Try.f18 [x0] H Q) (L.f21 (CallW Try.prog kps ext) x0 H Q h))
theorem fold_f10 (x0 x1 x2 x3 x4 : Value) (H : AH) (Q : Value → AH → Prop) (h : F.f10 (sy (CallW Try.prog kps ext)) x0 x1 x2 x3 x4 H Q) : CallW Try.prog kps ext 11 [x0, x1, x2, x3, x4] H Q :=
  CallW.fold (⟨Try.func11, by kernel_rfl, by kernel_rfl, by kernel_rfl⟩ : Go.AM.Good Try.prog 11 Try.f11) (Eq.mpr (by kernel_rfl : evBody Try.prog (CallW Try.prog kps ext) (kps 11) Try.f11 [x0, x1, x2, x3, x4] H Q = evBody Try.prog (CallW Try.prog kps ext) kp.f10 Try.f11 [x0, x1, x2, x3, x4] H Q) (L.f10 (CallW Try.prog kps ext) x0 x1 x2 x3 x4 H Q h))
theorem fold_f23 (x0 x1 x2 x3 x4 : Value) (H : AH) (Q : Value → AH → Prop) (h : F.f23 (sy (CallW Try.prog kps ext)) x0 x1 x2 x3 x4 H Q) : CallW Try.prog kps ext 19 [x0, x1, x2, x3, x4] H Q :=
  CallW.fold (⟨Try.func19, by kernel_rfl, by kernel_rfl, by kernel_rfl⟩ : Go.AM.Good Try.prog 19 Try.f19) (Eq.mpr (by kernel_rfl : evBody Try.prog (CallW Try.prog kps ext) (kps 19) Try.f19 [x0, x1, x2, x3, x4] H Q = evBody Try.prog (CallW Try.prog kps ext) kp.f23 Try.f19 [x0, x1, x2, x3, x4] H Q) (L.f23 (CallW Try.prog kps ext) x0 x1 x2 x3 x4 H Q h))
theorem fold_f7 (x0 x1 : Value) (H : AH) (Q : Value → AH → Prop) (h : F.f7 (sy (CallW Try.prog kps ext)) x0 x1 H Q) : CallW Try.prog kps ext 20 [x0, x1] H Q :=
  CallW.fold (⟨Try.func20, by kernel_rfl, by kernel_rfl, by kernel_rfl⟩ : Go.AM.Good Try.prog 20 Try.f20) (Eq.mpr (by kernel_rfl : evBody Try.prog (CallW Try.prog kps ext) (kps 20) Try.f20 [x0, x1] H Q = evBody Try.prog (CallW Try.prog kps ext) kp.f7 Try.f20 [x0, x1] H Q) (L.f7 (CallW Try.prog kps ext) x0 x1 H Q h))
theorem fold_f2 (x0 : Value) (H : AH) (Q : Value → AH → Prop) (h : F.f2 (sy (CallW Try.prog kps ext)) x0 H Q) : CallW Try.prog kps ext 21 [x0] H Q :=
  CallW.fold (⟨Try.func21, by kernel_rfl, by kernel_rfl, by kernel_rfl⟩ : Go.AM.Good Try.prog 21 Try.f21) (Eq.mpr (by kernel_rfl : evBody Try.prog (CallW Try.prog kps ext) (kps 21) Try.f21 [x0] H Q = evBody Try.prog (CallW Try.prog kps ext) kp.f2 Try.f21 [x0] H Q) (L.f2 (CallW Try.prog kps ext) x0 H Q h))
theorem fold_f20 (x0 : Value) (H : AH) (Q : Value → AH → Prop) (h : F.f20 (sy (CallW Try.prog kps ext)) x0 H Q) : CallW Try.prog kps ext 22 [x0] H Q :=
  CallW.fold (⟨Try.func22, by kernel_rfl, by kernel_rfl, by kernel_rfl⟩ : Go.AM.Good Try.prog 22 Try.f22) (Eq.mpr (by kernel_rfl : evBody Try.prog (CallW Try.prog kps ext) (kps 22) Try.f22 [x0] H Q = evBody Try.prog (CallW Try.prog kps ext) kp.f20 Try.f22 [x0] H Q) (L.f20 (CallW Try.prog kps ext) x0 H Q h))
theorem fold_f5 (x0 x1 x2 x3 : Value) (H : AH) (Q : Value → AH → Prop) (h : F.f5 (sy (CallW Try.prog kps ext)) x0 x1 x2 x3 H Q) : CallW Try.prog kps ext 17 [x0, x1, x2, x3] H Q :=
  CallW.fold (⟨Try.func17, by kernel_rfl, by kernel_rfl, by kernel_rfl⟩ : Go.AM.Good Try.prog 17 Try.f17) (Eq.mpr (by kernel_rfl : evBody Try.prog (CallW Try.prog kps ext) (kps 17) Try.f17 [x0, x1, x2, x3] H Q = evBody Try.prog (CallW Try.prog kps ext) kp.f5 Try.f17 [x0, x1, x2, x3] H Q) (L.f5 (CallW Try.prog kps ext) x0 x1 x2 x3 H Q h))
theorem fold_f6 (x0 x1 x2 x3 : Value) (H : AH) (Q : Value → AH → Prop) (h : F.f6 (sy (CallW Try.prog kps ext)) x0 x1 x2 x3 H Q) : CallW Try.prog kps ext 14 [x0, x1, x2, x3] H Q :=
  CallW.fold (⟨Try.func14, by kernel_rfl, by kernel_rfl, by kernel_rfl⟩ : Go.AM.Good Try.prog 14 Try.f14) (Eq.mpr (by kernel_rfl : evBody Try.prog (CallW Try.prog kps ext) (kps 14) Try.f14 [x0, x1, x2, x3] H Q = evBody Try.prog (CallW Try.prog kps ext) kp.f6 Try.f14 [x0, x1, x2, x3] H Q) (L.f6 (CallW Try.prog kps ext) x0 x1 x2 x3 H Q h))
theorem fold_f8 (x0 x1 : Value) (H : AH) (Q : Value → AH → Prop) (h : F.f8 (sy (CallW Try.prog kps ext)) x0 x1 H Q) : CallW Try.prog kps ext 15 [x0, x1] H Q :=
  CallW.fold (⟨Try.func15, by kernel_rfl, by kernel_rfl, by kernel_rfl⟩ : Go.AM.Good Try.prog 15 Try.f15) (Eq.mpr (by kernel_rfl : evBody Try.prog (CallW Try.prog kps ext) (kps 15) Try.f15 [x0, x1] H Q = evBody Try.prog (CallW Try.prog kps ext) kp.f8 Try.f15 [x0, x1] H Q) (L.f8 (CallW Try.prog kps ext) x0 x1 H Q h))
theorem fold_f13 (x0 x1 x2 : Value) (H : AH) (Q : Value → AH → Prop) (h : F.f13 (sy (CallW Try.prog kps ext)) x0 x1 x2 H Q) : CallW Try.prog kps ext 36 [x0, x1, x2] H Q :=
  CallW.fold (⟨Try.func36, by kernel_rfl, by kernel_rfl, by kernel_rfl⟩ : Go.AM.Good Try.prog 36 Try.f36) (Eq.mpr (by kernel_rfl : evBody Try.prog (CallW Try.prog kps ext) (kps 36) Try.f36 [x0, x1, x2] H Q = evBody Try.prog (CallW Try.prog kps ext) kp.f13 Try.f36 [x0, x1, x2] H Q) (L.f13 (CallW Try.prog kps ext) x0 x1 x2 H Q h))
theorem fold_f11 (x0 x1 : Value) (H : AH) (Q : Value → AH → Prop) (h : F.f11 (sy (CallW Try.prog kps ext)) x0 x1 H Q) : CallW Try.prog kps ext 37 [x0, x1] H Q :=
  CallW.fold (⟨Try.func37, by kernel_rfl, by kernel_rfl, by kernel_rfl⟩ : Go.AM.Good Try.prog 37 Try.f37) (Eq.mpr (by kernel_rfl : evBody Try.prog (CallW Try.prog kps ext) (kps 37) Try.f37 [x0, x1] H Q = evBody Try.prog (CallW Try.prog kps ext) kp.f11 Try.f37 [x0, x1] H Q) (L.f11 (CallW Try.prog kps ext) x0 x1 H Q h))
theorem fold_f49 (x0 x1 : Value) (H : AH) (Q : Value → AH → Prop) (h : F.f49 (sy (CallW Try.prog kps ext)) x0 x1 H Q) : CallW Try.prog kps ext 38 [x0, x1] H Q :=
  CallW.fold (⟨Try.func38, by kernel_rfl, by kernel_rfl, by kernel_rfl⟩ : Go.AM.Good Try.prog 38 Try.f38) (Eq.mpr (by kernel_rfl : evBody Try.prog (CallW Try.prog kps ext) (kps 38) Try.f38 [x0, x1] H Q = evBody Try.prog (CallW Try.prog kps ext) kp.f49 Try.f38 [x0, x1] H Q) (L.f49 (CallW Try.prog kps ext) x0 x1 H Q h))
theorem fold_f27 (x0 x1 x2 : Value) (H : AH) (Q : Value → AH → Prop) (h : F.f27 (sy (CallW Try.prog kps ext)) x0 x1 x2 H Q) : CallW Try.prog kps ext 42 [x0, x1, x2] H Q :=
  CallW.fold (⟨Try.func42, by kernel_rfl, by kernel_rfl, by kernel_rfl⟩ : Go.AM.Good Try.prog 42 Try.f42) (Eq.mpr (by kernel_rfl : evBody Try.prog (CallW Try.prog kps ext) (kps 42) Try.f42 [x0, x1, x2] H Q = evBody Try.prog (CallW Try.prog kps ext) kp.f27 Try.f42 [x0, x1, x2] H Q) (L.f27 (CallW Try.prog kps ext) x0 x1 x2 H Q h))
theorem fold_f22 (x0 : Value) (H : AH) (Q : Value → AH → Prop) (h : F.f22 (sy (CallW Try.prog kps ext)) x0 H Q) : CallW Try.prog kps ext 23 [x0] H Q :=
  CallW.fold (⟨Try.func23, by kernel_rfl, by kernel_rfl, by kernel_rfl⟩ : Go.AM.Good Try.prog 23 Try.f23) (Eq.mpr (by kernel_rfl : evBody Try.prog (CallW Try.prog kps ext) (kps 23) Try.f23 [x0] H Q = evBody Try.prog (CallW Try.prog kps ext) kp.f22 Try.f23 [x0] H Q) (L.f22 (CallW Try.prog kps ext) x0 H Q h))
theorem fold_f25 (x0 x1 : Value) (H : AH) (Q : Value → AH → Prop) (h : F.f25 (sy (CallW Try.prog kps ext)) x0 x1 H Q) : CallW Try.prog kps ext 43 [x0, x1] H Q :=
  CallW.fold (⟨Try.func43, by kernel_rfl, by kernel_rfl, by kernel_rfl⟩ : Go.AM.Good Try.prog 43 Try.f43) (Eq.mpr (by kernel_rfl : evBody Try.prog (CallW Try.prog kps ext) (kps 43) Try.f43 [x0, x1] H Q = evBody Try.prog (CallW Try.prog kps ext) kp.f25 Try.f43 [x0, x1] H Q) (L.f25 (CallW Try.prog kps ext) x0 x1 H Q h))
theorem fold_f29 (x0 x1 : Value) (H : AH) (Q : Value → AH → Prop) (h : F.f29 (sy (CallW Try.prog kps ext)) x0 x1 H Q) : CallW Try.prog kps ext 44 [x0, x1] H Q :=
  CallW.fold (⟨Try.func44, by kernel_rfl, by kernel_rfl, by kernel_rfl⟩ : Go.AM.Good Try.prog 44 Try.f44) (Eq.mpr (by kernel_rfl : evBody Try.prog (CallW Try.prog kps ext) (kps 44) Try.f44 [x0, x1] H Q = evBody Try.prog (CallW Try.prog kps ext) kp.f29 Try.f44 [x0, x1] H Q) (L.f29 (CallW Try.prog kps ext) x0 x1 H Q h))
theorem fold_f12 (x0 x1 : Value) (H : AH) (Q : Value → AH → Prop) (h : F.f12 (sy (CallW Try.prog kps ext)) x0 x1 H Q) : CallW Try.prog kps ext 40 [x0, x1] H Q :=
  CallW.fold (⟨Try.func40, by kernel_rfl, by kernel_rfl, by kernel_rfl⟩ : Go.AM.Good Try.prog 40 Try.f40) (Eq.mpr (by kernel_rfl : evBody Try.prog (CallW Try.prog kps ext) (kps 40) Try.f40 [x0, x1] H Q = evBody Try.prog (CallW Try.prog kps ext) kp.f12 Try.f40 [x0, x1] H Q) (L.f12 (CallW Try.prog kps ext) x0 x1 H Q h))
theorem fold_f30 (x0 : Value) (H : AH) (Q : Value → AH → Prop) (h : F.f30 (sy (CallW Try.prog kps ext)) x0 H Q) : CallW Try.prog kps ext 45 [x0] H Q :=
  CallW.fold (⟨Try.func45, by kernel_rfl, by kernel_rfl, by kernel_rfl⟩ : Go.AM.Good Try.prog 45 Try.f45) (Eq.mpr (by kernel_rfl : evBody Try.prog (CallW Try.prog kps ext) (kps 45) Try.f45 [x0] H Q = evBody Try.prog (CallW Try.prog kps ext) kp.f30 Try.f45 [x0] H Q) (L.f30 (CallW Try.prog kps ext) x0 H Q h))
theorem fold_f46 (x0 x1 : Value) (H : AH) (Q : Value → AH → Prop) (h : F.f46 (sy (CallW Try.prog kps ext)) x0 x1 H Q) : CallW Try.prog kps ext 46 [x0, x1] H Q :=
  CallW.fold (⟨Try.func46, by kernel_rfl, by kernel_rfl, by kernel_rfl⟩ : Go.AM.Good Try.prog 46 Try.f46) (Eq.mpr (by kernel_rfl : evBody Try.prog (CallW Try.prog kps ext) (kps 46) Try.f46 [x0, x1] H Q = evBody Try.prog (CallW Try.prog kps ext) kp.f46 Try.f46 [x0, x1] H Q) (L.f46 (CallW Try.prog kps ext) x0 x1 H Q h))
theorem fold_f3 (x0 : Value) (H : AH) (Q : Value → AH → Prop) (h : F.f3 (sy (CallW Try.prog kps ext)) x0 H Q) : CallW Try.prog kps ext 47 [x0] H Q :=
  CallW.fold (⟨Try.func47, by kernel_rfl, by kernel_rfl, by kernel_rfl⟩ : Go.AM.Good Try.prog 47 Try.f47) (Eq.mpr (by kernel_rfl : evBody Try.prog (CallW Try.prog kps ext) (kps 47) Try.f47 [x0] H Q = evBody Try.prog (CallW Try.prog kps ext) kp.f3 Try.f47 [x0] H Q) (L.f3 (CallW Try.prog kps ext) x0 H Q h))
theorem fold_f9 (x0 x1 x2 : Value) (H : AH) (Q : Value → AH → Prop) (h : F.f9 (sy (CallW Try.prog kps ext)) x0 x1 x2 H Q) : CallW Try.prog kps ext 28 [x0, x1, x2] H Q :=
  CallW.fold (⟨Try.func28, by kernel_rfl, by kernel_rfl, by kernel_rfl⟩ : Go.AM.Good Try.prog 28 Try.f28) (Eq.mpr (by kernel_rfl : evBody Try.prog (CallW Try.prog kps ext) (kps 28) Try.f28 [x0, x1, x2] H Q = evBody Try.prog (CallW Try.prog kps ext) kp.f9 Try.f28 [x0, x1, x2] H Q) (L.f9 (CallW Try.prog kps ext) x0 x1 x2 H Q h))
theorem fold_f14 (x0 x1 : Value) (H : AH) (Q : Value → AH → Prop) (h : F.f14 (sy (CallW Try.prog kps ext)) x0 x1 H Q) : CallW Try.prog kps ext 39 [x0, x1] H Q :=
  CallW.fold (⟨Try.func39, by kernel_rfl, by kernel_rfl, by kernel_rfl⟩ : Go.AM.Good Try.prog 39 Try.f39) (Eq.mpr (by kernel_rfl : evBody Try.prog (CallW Try.prog kps ext) (kps 39) Try.f39 [x0, x1] H Q = evBody Try.prog (CallW Try.prog kps ext) kp.f14 Try.f39 [x0, x1] H Q) (L.f14 (CallW Try.prog kps ext) x0 x1 H Q h))
theorem fold_f26 (x0 x1 : Value) (H : AH) (Q : Value → AH → Prop) (h : F.f26 (sy (CallW Try.prog kps ext)) x0 x1 H Q) : CallW Try.prog kps ext 50 [x0, x1] H Q :=
  CallW.fold (⟨Try.func50, by kernel_rfl, by kernel_rfl, by kernel_rfl⟩ : Go.AM.Good Try.prog 50 Try.f50) (Eq.mpr (by kernel_rfl : evBody Try.prog (CallW Try.prog kps ext) (kps 50) Try.f50 [x0, x1] H Q = evBody Try.prog (CallW Try.prog kps ext) kp.f26 Try.f50 [x0, x1] H Q) (L.f26 (CallW Try.prog kps ext) x0 x1 H Q h))
theorem fold_f24 (x0 x1 : Value) (H : AH) (Q : Value → AH → Prop) (h : F.f24 (sy (CallW Try.prog kps ext)) x0 x1 H Q) : CallW Try.prog kps ext 48 [x0, x1] H Q :=
  CallW.fold (⟨Try.func48, by kernel_rfl, by kernel_rfl, by kernel_rfl⟩ : Go.AM.Good Try.prog 48 Try.f48) (Eq.mpr (by kernel_rfl : evBody Try.prog (CallW Try.prog kps ext) (kps 48) Try.f48 [x0, x1] H Q = evBody Try.prog (CallW Try.prog kps ext) kp.f24 Try.f48 [x0, x1] H Q) (L.f24 (CallW Try.prog kps ext) x0 x1 H Q h))
theorem fold_f28 (x0 x1 : Value) (H : AH) (Q : Value → AH → Prop) (h : F.f28 (sy (CallW Try.prog kps ext)) x0 x1 H Q) : CallW Try.prog kps ext 51 [x0, x1] H Q :=
  CallW.fold (⟨Try.func51, by kernel_rfl, by kernel_rfl, by kernel_rfl⟩ : Go.AM.Good Try.prog 51 Try.f51) (Eq.mpr (by kernel_rfl : evBody Try.prog (CallW Try.prog kps ext) (kps 51) Try.f51 [x0, x1] H Q = evBody Try.prog (CallW Try.prog kps ext) kp.f28 Try.f51 [x0, x1] H Q) (L.f28 (CallW Try.prog kps ext) x0 x1 H Q h))
theorem fold_f15 (x0 : Value) (H : AH) (Q : Value → AH → Prop) (h : F.f15 (sy (CallW Try.prog kps ext)) x0 H Q) : CallW Try.prog kps ext 65 [x0] H Q :=
  CallW.fold (⟨Try.func65, by kernel_rfl, by kernel_rfl, by kernel_rfl⟩ : Go.AM.Good Try.prog 65 Try.f65) (Eq.mpr (by kernel_rfl : evBody Try.prog (CallW Try.prog kps ext) (kps 65) Try.f65 [x0] H Q = evBody Try.prog (CallW Try.prog kps ext) kp.f15 Try.f65 [x0] H Q) (L.f15 (CallW Try.prog kps ext) x0 H Q h))
theorem fold_f42 (x0 x1 x2 x3 : Value) (H : AH) (Q : Value → AH → Prop) (h : F.f42 (sy (CallW Try.prog kps ext)) x0 x1 x2 x3 H Q) : CallW Try.prog kps ext 64 [x0, x1, x2, x3] H Q :=
  CallW.fold (⟨Try.func64, by kernel_rfl, by kernel_rfl, by kernel_rfl⟩ : Go.AM.Good Try.prog 64 Try.f64) (Eq.mpr (by kernel_rfl : evBody Try.prog (CallW Try.prog kps ext) (kps 64) Try.f64 [x0, x1, x2, x3] H Q = evBody Try.prog (CallW Try.prog kps ext) kp.f42 Try.f64 [x0, x1, x2, x3] H Q) (L.f42 (CallW Try.prog kps ext) x0 x1 x2 x3 H Q h))
theorem fold_f47 (x0 x1 x2 : Value) (H : AH) (Q : Value → AH → Prop) (h : F.f47 (sy (CallW Try.prog kps ext)) x0 x1 x2 H Q) : CallW Try.prog kps ext 66 [x0, x1, x2] H Q :=
  CallW.fold (⟨Try.func66, by kernel_rfl, by kernel_rfl, by kernel_rfl⟩ : Go.AM.Good Try.prog 66 Try.f66) (Eq.mpr (by kernel_rfl : evBody Try.prog (CallW Try.prog kps ext) (kps 66) Try.f66 [x0, x1, x2] H Q = evBody Try.prog (CallW Try.prog kps ext) kp.f47 Try.f66 [x0, x1, x2] H Q) (L.f47 (CallW Try.prog kps ext) x0 x1 x2 H Q h))
theorem fold_f16 (x0 : Value) (H : AH) (Q : Value → AH → Prop) (h : F.f16 (sy (CallW Try.prog kps ext)) x0 H Q) : CallW Try.prog kps ext 79 [x0] H Q :=
  CallW.fold (⟨Try.func79, by kernel_rfl, by kernel_rfl, by kernel_rfl⟩ : Go.AM.Good Try.prog 79 Try.f79) (Eq.mpr (by kernel_rfl : evBody Try.prog (CallW Try.prog kps ext) (kps 79) Try.f79 [x0] H Q = evBody Try.prog (CallW Try.prog kps ext) kp.f16 Try.f79 [x0] H Q) (L.f16 (CallW Try.prog kps ext) x0 H Q h))
theorem fold_f17 (x0 : Value) (H : AH) (Q : Value → AH → Prop) (h : F.f17 (sy (CallW Try.prog kps ext)) x0 H Q) : CallW Try.prog kps ext 80 [x0] H Q :=
  CallW.fold (⟨Try.func80, by kernel_rfl, by kernel_rfl, by kernel_rfl⟩ : Go.AM.Good Try.prog 80 Try.f80) (Eq.mpr (by kernel_rfl : evBody Try.prog (CallW Try.prog kps ext) (kps 80) Try.f80 [x0] H Q = evBody Try.prog (CallW Try.prog kps ext) kp.f17 Try.f80 [x0] H Q) (L.f17 (CallW Try.prog kps ext) x0 H Q h))
theorem fold_f34 (x0 x1 x2 : Value) (H : AH) (Q : Value → AH → Prop) (h : F.f34 (sy (CallW Try.prog kps ext)) x0 x1 x2 H Q) : CallW Try.prog kps ext 70 [x0, x1, x2] H Q :=
  CallW.fold (⟨Try.func70, by kernel_rfl, by kernel_rfl, by kernel_rfl⟩ : Go.AM.Good Try.prog 70 Try.f70) (Eq.mpr (by kernel_rfl : evBody Try.prog (CallW Try.prog kps ext) (kps 70) Try.f70 [x0, x1, x2] H Q = evBody Try.prog (CallW Try.prog kps ext) kp.f34 Try.f70 [x0, x1, x2] H Q) (L.f34 (CallW Try.prog kps ext) x0 x1 x2 H Q h))
theorem fold_f33 (x0 x1 x2 : Value) (H : AH) (Q : Value → AH → Prop) (h : F.f33 (sy (CallW Try.prog kps ext)) x0 x1 x2 H Q) : CallW Try.prog kps ext 71 [x0, x1, x2] H Q :=
  CallW.fold (⟨Try.func71, by kernel_rfl, by kernel_rfl, by kernel_rfl⟩ : Go.AM.Good Try.prog 71 Try.f71) (Eq.mpr (by kernel_rfl : evBody Try.prog (CallW Try.prog kps ext) (kps 71) Try.f71 [x0, x1, x2] H Q = evBody Try.prog (CallW Try.prog kps ext) kp.f33 Try.f71 [x0, x1, x2] H Q) (L.f33 (CallW Try.prog kps ext) x0 x1 x2 H Q h))
theorem fold_f31 (x0 x1 x2 : Value) (H : AH) (Q : Value → AH → Prop) (h : F.f31 (sy (CallW Try.prog kps ext)) x0 x1 x2 H Q) : CallW Try.prog kps ext 72 [x0, x1, x2] H Q :=
  CallW.fold (⟨Try.func72, by kernel_rfl, by kernel_rfl, by kernel_rfl⟩ : Go.AM.Good Try.prog 72 Try.f72) (Eq.mpr (by kernel_rfl : evBody Try.prog (CallW Try.prog kps ext) (kps 72) Try.f72 [x0, x1, x2] H Q = evBody Try.prog (CallW Try.prog kps ext) kp.f31 Try.f72 [x0, x1, x2] H Q) (L.f31 (CallW Try.prog kps ext) x0 x1 x2 H Q h))
theorem fold_f32 (x0 x1 x2 : Value) (H : AH) (Q : Value → AH → Prop) (h : F.f32 (sy (CallW Try.prog kps ext)) x0 x1 x2 H Q) : CallW Try.prog kps ext 73 [x0, x1, x2] H Q :=
  CallW.fold (⟨Try.func73, by kernel_rfl, by kernel_rfl, by kernel_rfl⟩ : Go.AM.Good Try.prog 73 Try.f73) (Eq.mpr (by kernel_rfl : evBody Try.prog (CallW Try.prog kps ext) (kps 73) Try.f73 [x0, x1, x2] H Q = evBody Try.prog (CallW Try.prog kps ext) kp.f32 Try.f73 [x0, x1, x2] H Q) (L.f32 (CallW Try.prog kps ext) x0 x1 x2 H Q h))
theorem fold_f43 (x0 x1 x2 : Value) (H : AH) (Q : Value → AH → Prop) (h : F.f43 (sy (CallW Try.prog kps ext)) x0 x1 x2 H Q) : CallW Try.prog kps ext 74 [x0, x1, x2] H Q :=
  CallW.fold (⟨Try.func74, by kernel_rfl, by kernel_rfl, by kernel_rfl⟩ : Go.AM.Good Try.prog 74 Try.f74) (Eq.mpr (by kernel_rfl : evBody Try.prog (CallW Try.prog kps ext) (kps 74) Try.f74 [x0, x1, x2] H Q = evBody Try.prog (CallW Try.prog kps ext) kp.f43 Try.f74 [x0, x1, x2] H Q) (L.f43 (CallW Try.prog kps ext) x0 x1 x2 H Q h))
theorem fold_f39 (x0 x1 x2 : Value) (H : AH) (Q : Value → AH → Prop) (h : F.f39 (sy (CallW Try.prog kps ext)) x0 x1 x2 H Q) : CallW Try.prog kps ext 75 [x0, x1, x2] H Q :=
  CallW.fold (⟨Try.func75, by kernel_rfl, by kernel_rfl, by kernel_rfl⟩ : Go.AM.Good Try.prog 75 Try.f75) (Eq.mpr (by kernel_rfl : evBody Try.prog (CallW Try.prog kps ext) (kps 75) Try.f75 [x0, x1, x2] H Q = evBody Try.prog (CallW Try.prog kps ext) kp.f39 Try.f75 [x0, x1, x2] H Q) (L.f39 (CallW Try.prog kps ext) x0 x1 x2 H Q h))
theorem fold_f0 (x0 x1 : Value) (H : AH) (Q : Value → AH → Prop) (h : F.f0 (sy (CallW Try.prog kps ext)) x0 x1 H Q) : CallW Try.prog kps ext 76 [x0, x1] H Q :=
  CallW.fold (⟨Try.func76, by kernel_rfl, by kernel_rfl, by kernel_rfl⟩ : Go.AM.Good Try.prog 76 Try.f76) (Eq.mpr (by kernel_rfl : evBody Try.prog (CallW Try.prog kps ext) (kps 76) Try.f76 [x0, x1] H Q = evBody Try.prog (CallW Try.prog kps ext) kp.f0 Try.f76 [x0, x1] H Q) (L.f0 (CallW Try.prog kps ext) x0 x1 H Q h))
theorem fold_f40 (x0 x1 x2 x3 : Value) (H : AH) (Q : Value → AH → Prop) (h : F.f40 (sy (CallW Try.prog kps ext)) x0 x1 x2 x3 H Q) : CallW Try.prog kps ext 77 [x0, x1, x2, x3] H Q :=
  CallW.fold (⟨Try.func77, by kernel_rfl, by kernel_rfl, by kernel_rfl⟩ : Go.AM.Good Try.prog 77 Try.f77) (Eq.mpr (by kernel_rfl : evBody Try.prog (CallW Try.prog kps ext) (kps 77) Try.f77 [x0, x1, x2, x3] H Q = evBody Try.prog (CallW Try.prog kps ext) kp.f40 Try.f77 [x0, x1, x2, x3] H Q) (L.f40 (CallW Try.prog kps ext) x0 x1 x2 x3 H Q h))
theorem fold_f41 (x0 x1 x2 x3 : Value) (H : AH) (Q : Value → AH → Prop) (h : F.f41 (sy (CallW Try.prog kps ext)) x0 x1 x2 x3 H Q) : CallW Try.prog kps ext 78 [x0, x1, x2, x3] H Q :=
  CallW.fold (⟨Try.func78, by kernel_rfl, by kernel_rfl, by kernel_rfl⟩ : Go.AM.Good Try.prog 78 Try.f78) (Eq.mpr (by kernel_rfl : evBody Try.prog (CallW Try.prog kps ext) (kps 78) Try.f78 [x0, x1, x2, x3] H Q = evBody Try.prog (CallW Try.prog kps ext) kp.f41 Try.f78 [x0, x1, x2, x3] H Q) (L.f41 (CallW Try.prog kps ext) x0 x1 x2 x3 H Q h))
theorem fold_f44 (x0 x1 x2 x3 : Value) (H : AH) (Q : Value → AH → Prop) (h : F.f44 (sy (CallW Try.prog kps ext)) x0 x1 x2 x3 H Q) : CallW Try.prog kps ext 90 [x0, x1, x2, x3] H Q :=
  CallW.fold (⟨Try.func90, by kernel_rfl, by kernel_rfl, by kernel_rfl⟩ : Go.AM.Good Try.prog 90 Try.f90) (Eq.mpr (by kernel_rfl : evBody Try.prog (CallW Try.prog kps ext) (kps 90) Try.f90 [x0, x1, x2, x3] H Q = evBody Try.prog (CallW Try.prog kps ext) kp.f44 Try.f90 [x0, x1, x2, x3] H Q) (L.f44 (CallW Try.prog kps ext) x0 x1 x2 x3 H Q h))
theorem fold_f37 (x0 : Value) (H : AH) (Q : Value → AH → Prop) (h : F.f37 (sy (CallW Try.prog kps ext)) x0 H Q) : CallW Try.prog kps ext 91 [x0] H Q :=
  CallW.fold (⟨Try.func91, by kernel_rfl, by kernel_rfl, by kernel_rfl⟩ : Go.AM.Good Try.prog 91 Try.f91) (Eq.mpr (by kernel_rfl : evBody Try.prog (CallW Try.prog kps ext) (kps 91) Try.f91 [x0] H Q = evBody Try.prog (CallW Try.prog kps ext) kp.f37 Try.f91 [x0] H Q) (L.f37 (CallW Try.prog kps ext) x0 H Q h))
theorem fold_f45 (x0 : Value) (H : AH) (Q : Value → AH → Prop) (h : F.f45 (sy (CallW Try.prog kps ext)) x0 H Q) : CallW Try.prog kps ext 92 [x0] H Q :=
  CallW.fold (⟨Try.func92, by kernel_rfl, by kernel_rfl, by kernel_rfl⟩ : Go.AM.Good Try.prog 92 Try.f92) (Eq.mpr (by kernel_rfl : evBody Try.prog (CallW Try.prog kps ext) (kps 92) Try.f92 [x0] H Q = evBody Try.prog (CallW Try.prog kps ext) kp.f45 Try.f92 [x0] H Q) (L.f45 (CallW Try.prog kps ext) x0 H Q h))
theorem fold_f35 (x0 x1 x2 : Value) (H : AH) (Q : Value → AH → Prop) (h : F.f35 (sy (CallW Try.prog kps ext)) x0 x1 x2 H Q) : CallW Try.prog kps ext 93 [x0, x1, x2] H Q :=
  CallW.fold (⟨Try.func93, by kernel_rfl, by kernel_rfl, by kernel_rfl⟩ : Go.AM.Good Try.prog 93 Try.f93) (Eq.mpr (by kernel_rfl : evBody Try.prog (CallW Try.prog kps ext) (kps 93) Try.f93 [x0, x1, x2] H Q = evBody Try.prog (CallW Try.prog kps ext) kp.f35 Try.f93 [x0, x1, x2] H Q) (L.f35 (CallW Try.prog kps ext) x0 x1 x2 H Q h))
theorem fold_f36 (x0 x1 x2 x3 x4 : Value) (H : AH) (Q : Value → AH → Prop) (h : F.f36 (sy (CallW Try.prog kps ext)) x0 x1 x2 x3 x4 H Q) : CallW Try.prog kps ext 94 [x0, x1, x2, x3, x4] H Q :=
  CallW.fold (⟨Try.func94, by kernel_rfl, by kernel_rfl, by kernel_rfl⟩ : Go.AM.Good Try.prog 94 Try.f94) (Eq.mpr (by kernel_rfl : evBody Try.prog (CallW Try.prog kps ext) (kps 94) Try.f94 [x0, x1, x2, x3, x4] H Q = evBody Try.prog (CallW Try.prog kps ext) kp.f36 Try.f94 [x0, x1, x2, x3, x4] H Q) (L.f36 (CallW Try.prog kps ext) x0 x1 x2 x3 x4 H Q h))
theorem fold_f1 (x0 : Value) (H : AH) (Q : Value → AH → Prop) (h : F.f1 (sy (CallW Try.prog kps ext)) x0 H Q) : CallW Try.prog kps ext 95 [x0] H Q :=
  CallW.fold (⟨Try.func95, by kernel_rfl, by kernel_rfl, by kernel_rfl⟩ : Go.AM.Good Try.prog 95 Try.f95) (Eq.mpr (by kernel_rfl : evBody Try.prog (CallW Try.prog kps ext) (kps 95) Try.f95 [x0] H Q = evBody Try.prog (CallW Try.prog kps ext) kp.f1 Try.f95 [x0] H Q) (L.f1 (CallW Try.prog kps ext) x0 H Q h))
theorem fold_f38 (x0 x1 x2 x3 : Value) (H : AH) (Q : Value → AH → Prop) (h : F.f38 (sy (CallW Try.prog kps ext)) x0 x1 x2 x3 H Q) : CallW Try.prog kps ext 100 [x0, x1, x2, x3] H Q :=
  CallW.fold (⟨Try.func100, by kernel_rfl, by kernel_rfl, by kernel_rfl⟩ : Go.AM.Good Try.prog 100 Try.f100) (Eq.mpr (by kernel_rfl : evBody Try.prog (CallW Try.prog kps ext) (kps 100) Try.f100 [x0, x1, x2, x3] H Q = evBody Try.prog (CallW Try.prog kps ext) kp.f38 Try.f100 [x0, x1, x2, x3] H Q) (L.f38 (CallW Try.prog kps ext) x0 x1 x2 x3 H Q h))
theorem fold : Go.AM.Fold (sy (CallW Try.prog kps ext)) where
  mono := CallW.mono
  f19 := fold_f19
  f18 := fold_f18
  f4 := fold_f4
  f21 := fold_f21
  f10 := fold_f10
  f23 := fold_f23
  f7 := fold_f7
  f2 := fold_f2
  f20 := fold_f20
  f5 := fold_f5
  f6 := fold_f6
  f8 := fold_f8
  f13 := fold_f13
  f11 := fold_f11
  f49 := fold_f49
  f27 := fold_f27
  f22 := fold_f22
  f25 := fold_f25
  f29 := fold_f29
  f12 := fold_f12
  f30 := fold_f30
  f46 := fold_f46
  f3 := fold_f3
  f9 := fold_f9
  f14 := fold_f14
  f26 := fold_f26
  f24 := fold_f24
  f28 := fold_f28
  f15 := fold_f15
  f42 := fold_f42
  f47 := fold_f47
  f16 := fold_f16
  f17 := fold_f17
  f34 := fold_f34
  f33 := fold_f33
  f31 := fold_f31
  f32 := fold_f32
  f43 := fold_f43
  f39 := fold_f39
  f0 := fold_f0
  f40 := fold_f40
  f41 := fold_f41
  f44 := fold_f44
  f37 := fold_f37
  f45 := fold_f45
  f35 := fold_f35
  f36 := fold_f36
  f1 := fold_f1
  f38 := fold_f38
  f48 := fun x0 x1 H Q h => CallW.ext (.inl <| ⟨rfl, x0, x1, rfl, h⟩)
end Go.Proofs.Ytakplbkhbalfoaa
