/- THE FUNCTIONS, HELD AGAINST THE PROGRAM: written by program (gen2.py). -/
import Derived.Test.YtmibhogaoakcaaaDoorRe9caF
import Derived.Test.YtmibhogaoakcaaaDoorProg
import Derived.KernelRfl
set_option linter.all false
set_option maxRecDepth 100000
set_option maxHeartbeats 4000000
namespace Go.Proofs.YtmibhogaoakcaaaDoor
open Go.AM
attribute [local irreducible] evD obls
def fidL : List Nat := [0, 0, 0, 0, 0, 0, 0, 0, 0, 0, 0, 0, 75, 178, 0, 0, 0, 0, 0, 0, 0, 0, 0, 0, 0, 0, 0, 0, 0, 0, 0, 0, 0, 0, 0, 0, 0, 0, 0, 0, 0, 0, 0, 10, 0, 0, 0, 0, 0, 0, 0, 0, 0, 0, 45, 0, 0, 0, 0, 0, 43, 44, 46, 47, 0, 76, 0, 0, 51, 86, 99, 70, 74, 0, 0, 0, 13, 0, 0, 0, 0, 0, 66, 0, 91, 0, 0, 0, 116, 115, 95, 98, 0, 92, 0, 0, 93, 119, 0, 0, 50, 29, 53, 67, 48, 42, 0, 69, 68, 0, 0, 111, 72, 0, 0, 0, 73, 0, 0, 0, 0, 65, 0, 71, 182, 0, 0, 0, 0, 0, 57, 58, 59, 78, 83, 94, 0, 0, 0, 97, 96, 0, 0, 0, 0, 0, 0, 0, 186, 0, 0, 0, 0, 0, 84, 118, 127, 80, 132, 120, 0, 54, 79, 0, 109, 110, 138, 139, 141, 144, 145, 146, 143, 142, 140, 100, 101, 103, 106, 107, 108, 105, 104, 102, 151, 122, 123, 153, 152, 154, 121, 125, 124, 126, 160, 131, 3, 9, 12, 11, 14, 4, 15, 16, 17, 18, 19, 5, 20, 21, 22, 23, 24, 25, 26, 6, 27, 28, 30, 7, 31, 32, 33, 34, 35, 36, 37, 38, 39, 40, 8, 41, 49, 52, 55, 56, 60, 61, 62, 63, 64, 77, 81, 82, 87, 85, 88, 89, 90, 112, 113, 114, 117, 128, 130, 129, 135, 137, 136, 133, 134, 147, 148, 149, 150, 155, 156, 157, 158, 159, 161, 162]
def tidL : List Nat := [9]
def gidL : List Nat := [0, 1, 2]
def sy (c : CallT) : Sy := { call := c, fid := fun n => fidL.getD n 0, tid := fun n => tidL.getD n 0, gid := fun n => gidL.getD n 0 }
def kp.f32 : Keep := { keep := fun n => [[0, 1, 2, 3], [1, 2, 3, 4], [], [1, 2, 3, 4], [], [1, 2, 3, 4], [1, 2, 3, 4, 9], [1, 2, 3, 4, 9], [1, 2, 3, 9, 11], [1, 2, 3, 9, 11, 13], [1, 2, 3, 9, 11, 13, 14, 15]].getD n [], order := fun n => [[], [], [], [], [], [], [], [(0, 0), (1, 0), (2, 3), (3, 7), (4, 15), (5, 15), (6, 31), (7, 127)]].getD n [] }
theorem L.f32 (c : CallT) (x0 x1 x2 x3 : Value) (H : AH) (Q : Value → AH → Prop) (h : F.f32 (sy c) x0 x1 x2 x3 H Q) : evBody Tryd.prog c kp.f32 Tryd.f5 [x0, x1, x2, x3] H Q :=
  evBody_of (pl := []) Tryd.f5 _ H Q (bodyOf Tryd.f5) (by kernel_rfl) (by kernel_rfl) (by kernel_rfl) h

def kp.f31 : Keep := { keep := fun n => [[], [], [1], [], [1], [1, 2], [2, 4, 5]].getD n [], order := fun n => [].getD n [] }
theorem L.f31 (c : CallT) (H : AH) (Q : Value → AH → Prop) (h : F.f31 (sy c) H Q) : evBody Tryd.prog c kp.f31 Tryd.f9 [] H Q :=
  evBody_of (pl := []) Tryd.f9 _ H Q (bodyOf Tryd.f9) (by kernel_rfl) (by kernel_rfl) (by kernel_rfl) h

def kp.f72 : Keep := { keep := fun n => [[0], [0]].getD n [], order := fun n => [].getD n [] }
theorem L.f72 (c : CallT) (x0 : Value) (H : AH) (Q : Value → AH → Prop) (h : F.f72 (sy c) x0 H Q) : evBody Tryd.prog c kp.f72 Tryd.f12 [x0] H Q :=
  evBody_of (pl := []) Tryd.f12 _ H Q (bodyOf Tryd.f12) (by kernel_rfl) (by kernel_rfl) (by kernel_rfl) h

def kp.f40 : Keep := { keep := fun n => [[0, 1, 2], [0, 1, 2], [1, 2, 15, 16, 17], [1, 2, 15, 16, 17], [1, 2, 7, 15, 16, 17], [1, 2, 15, 16, 17]].getD n [], order := fun n => [].getD n [] }
def pl.f40 (c : CallT) (Q : Value → AH → Prop) : Plan := [
  (14, fun S T H => F.f40_l1 (sy c) Q (T 1) (T 2) (T 15) (T 16) (T 17) H (S 0))]
theorem L.f40 (c : CallT) (x0 x1 x2 : Value) (H : AH) (Q : Value → AH → Prop) (h : F.f40 (sy c) x0 x1 x2 H Q) : evBody Tryd.prog c kp.f40 Tryd.f20 [x0, x1, x2] H Q :=
  evBody_of (pl := pl.f40 c Q) Tryd.f20 _ H Q (bodyOf Tryd.f20) (by kernel_rfl) (by kernel_rfl) (by kernel_rfl) h

def kp.f30 : Keep := { keep := fun n => [[], [0]].getD n [], order := fun n => [].getD n [] }
theorem L.f30 (c : CallT) (H : AH) (Q : Value → AH → Prop) (h : F.f30 (sy c) H Q) : evBody Tryd.prog c kp.f30 Tryd.f13 [] H Q :=
  evBody_of (pl := []) Tryd.f13 _ H Q (bodyOf Tryd.f13) (by kernel_rfl) (by kernel_rfl) (by kernel_rfl) h

def kp.f34 : Keep := { keep := fun n => [[0, 1, 2], [1, 3, 5], [], [1, 3, 5], [1, 3, 5, 8], [1, 3, 5, 8, 25, 26, 27], [1, 3, 5, 8, 25, 26, 27], [1, 3, 5, 8, 10, 25, 26, 27], [1, 3, 5, 8, 10, 11, 12, 25, 26, 27], [12], [1, 3, 5, 8, 10, 11, 25, 26, 27], [1, 3, 5, 8, 10, 11, 13, 25, 26, 27], [], [1, 3, 5, 8, 10, 11, 25, 26, 27], [1, 3, 5, 8, 25, 26, 27], [3, 8], [8, 72, 73, 74], [8, 72, 73, 74], [8, 15, 72, 73, 74], [8, 72, 73, 74], [8]].getD n [], order := fun n => [[], [], [], [], [], [], [], [], [], [], [(0, 0), (1, 1), (2, 3), (3, 7), (4, 0), (5, 16), (6, 63), (7, 127), (8, 255), (9, 511), (10, 1023), (11, 2047)], [(0, 0), (1, 1), (2, 0), (4, 0), (5, 16), (3, 7), (6, 63)], [], [(0, 0), (1, 1), (2, 3), (3, 7), (4, 0), (5, 16), (6, 63), (7, 0), (8, 128), (9, 511), (10, 1023)], [], [], [], [], [(0, 0), (1, 1), (2, 3), (3, 7), (4, 0), (5, 16), (6, 63), (7, 0), (8, 128), (9, 511), (10, 1023)]].getD n [] }
def pl.f34 (c : CallT) (Q : Value → AH → Prop) : Plan := [
  (250, fun S T H => F.f34_l2 (sy c) Q (T 8) (T 72) (T 73) (T 74) H (S 0)),
  (122, fun S T H => F.f34_l1 (sy c) Q (T 1) (T 3) (T 5) (T 8) (T 25) (T 26) (T 27) H (S 0))]
theorem L.f34 (c : CallT) (x0 x1 x2 : Value) (H : AH) (Q : Value → AH → Prop) (h : F.f34 (sy c) x0 x1 x2 H Q) : evBody Tryd.prog c kp.f34 Tryd.f11 [x0, x1, x2] H Q :=
  evBody_of (pl := pl.f34 c Q) Tryd.f11 _ H Q (bodyOf Tryd.f11) (by kernel_rfl) (by kernel_rfl) (by kernel_rfl) h

def kp.f41 : Keep := { keep := fun n => [[0], [0], [], [0], [0, 3], [3, 11], [3, 11], [3, 4, 11], [3], [3]].getD n [], order := fun n => [].getD n [] }
def pl.f41 (c : CallT) (Q : Value → AH → Prop) : Plan := [
  (122, fun S T H => F.f41_l1 (sy c) Q (T 3) (T 11) H (S 0))]
theorem L.f41 (c : CallT) (x0 : Value) (H : AH) (Q : Value → AH → Prop) (h : F.f41 (sy c) x0 H Q) : evBody Tryd.prog c kp.f41 Tryd.f21 [x0] H Q :=
  evBody_of (pl := pl.f41 c Q) Tryd.f21 _ H Q (bodyOf Tryd.f21) (by kernel_rfl) (by kernel_rfl) (by kernel_rfl) h

def kp.f39 : Keep := { keep := fun n => [[0], [0], [], [0]].getD n [], order := fun n => [].getD n [] }
theorem L.f39 (c : CallT) (x0 : Value) (H : AH) (Q : Value → AH → Prop) (h : F.f39 (sy c) x0 H Q) : evBody Tryd.prog c kp.f39 Tryd.f22 [x0] H Q :=
  evBody_of (pl := []) Tryd.f22 _ H Q (bodyOf Tryd.f22) (by kernel_rfl) (by kernel_rfl) (by kernel_rfl) h

def kp.f36 : Keep := { keep := fun n => [[0, 1], [0, 1], [], [0, 1]].getD n [], order := fun n => [].getD n [] }
theorem L.f36 (c : CallT) (x0 x1 : Value) (H : AH) (Q : Value → AH → Prop) (h : F.f36 (sy c) x0 x1 H Q) : evBody Tryd.prog c kp.f36 Tryd.f23 [x0, x1] H Q :=
  evBody_of (pl := []) Tryd.f23 _ H Q (bodyOf Tryd.f23) (by kernel_rfl) (by kernel_rfl) (by kernel_rfl) h

def kp.f38 : Keep := { keep := fun n => [[0, 1, 2], [0, 1, 2], [0, 2, 7], [0, 7, 13, 14, 15], [0, 7, 13, 14, 15], [0, 7, 9, 13, 14, 15], [0, 7, 13, 14, 15], [7]].getD n [], order := fun n => [].getD n [] }
def pl.f38 (c : CallT) (Q : Value → AH → Prop) : Plan := [
  (58, fun S T H => F.f38_l1 (sy c) Q (T 0) (T 7) (T 13) (T 14) (T 15) H (S 0))]
theorem L.f38 (c : CallT) (x0 x1 x2 : Value) (H : AH) (Q : Value → AH → Prop) (h : F.f38 (sy c) x0 x1 x2 H Q) : evBody Tryd.prog c kp.f38 Tryd.f24 [x0, x1, x2] H Q :=
  evBody_of (pl := pl.f38 c Q) Tryd.f24 _ H Q (bodyOf Tryd.f24) (by kernel_rfl) (by kernel_rfl) (by kernel_rfl) h

def kp.f37 : Keep := { keep := fun n => [[0, 1, 2, 3], [0, 1, 2, 3]].getD n [], order := fun n => [].getD n [] }
theorem L.f37 (c : CallT) (x0 x1 x2 x3 : Value) (H : AH) (Q : Value → AH → Prop) (h : F.f37 (sy c) x0 x1 x2 x3 H Q) : evBody Tryd.prog c kp.f37 Tryd.f25 [x0, x1, x2, x3] H Q :=
  evBody_of (pl := []) Tryd.f25 _ H Q (bodyOf Tryd.f25) (by kernel_rfl) (by kernel_rfl) (by kernel_rfl) h

def kp.f42 : Keep := { keep := fun n => [[0, 1, 2], [0, 1, 2], [], [0, 1, 2]].getD n [], order := fun n => [[], [], [], [(0, 0), (1, 0), (2, 2), (3, 6), (4, 14), (5, 31), (6, 0), (7, 64), (8, 192), (9, 448), (10, 0), (11, 1984), (12, 4095), (13, 8191), (14, 16383)]].getD n [] }
theorem L.f42 (c : CallT) (x0 x1 x2 : Value) (H : AH) (Q : Value → AH → Prop) (h : F.f42 (sy c) x0 x1 x2 H Q) : evBody Tryd.prog c kp.f42 Tryd.f14 [x0, x1, x2] H Q :=
  evBody_of (pl := []) Tryd.f14 _ H Q (bodyOf Tryd.f14) (by kernel_rfl) (by kernel_rfl) (by kernel_rfl) h

def kp.f35 : Keep := { keep := fun n => [[0, 1], [0, 1], [0, 1], [0, 1], [], [0, 1], [0, 1, 54], [0, 1, 54], [0, 1, 5, 6, 54], [], [0, 1], [1, 72], [1, 72], [1, 7, 8, 72], [1, 8, 9, 10, 72], [], []].getD n [], order := fun n => [[], [], [], [(0, 0), (1, 1), (2, 3), (3, 7), (4, 0), (5, 16), (6, 48), (7, 112), (8, 255), (9, 511), (10, 1023), (11, 2047), (12, 4095), (13, 8191), (14, 16383), (15, 1023), (16, 33791), (17, 99327), (18, 230399), (19, 524287), (20, 1048575), (21, 2097151), (22, 4194303), (23, 8388607), (25, 8388607), (24, 16777215), (26, 67108863), (27, 134217727), (28, 268435455), (29, 536870911)]].getD n [] }
def pl.f35 (c : CallT) (Q : Value → AH → Prop) : Plan := [
  (250, fun S T H => F.f35_l2 (sy c) Q (T 1) (T 72) H (S 0)),
  (122, fun S T H => F.f35_l1 (sy c) Q (T 0) (T 1) (T 54) H (S 0))]
theorem L.f35 (c : CallT) (x0 x1 : Value) (H : AH) (Q : Value → AH → Prop) (h : F.f35 (sy c) x0 x1 H Q) : evBody Tryd.prog c kp.f35 Tryd.f26 [x0, x1] H Q :=
  evBody_of (pl := pl.f35 c Q) Tryd.f26 _ H Q (bodyOf Tryd.f26) (by kernel_rfl) (by kernel_rfl) (by kernel_rfl) h

def kp.f8 : Keep := { keep := fun n => [[0, 1, 2, 3, 4], [0, 1, 2, 3, 4], [0, 1, 2, 3, 4, 12, 13], [13], [0, 1, 2, 3, 4, 12], [], [0, 1, 2, 3, 4, 12], [], [0, 1, 2, 3, 4, 12], [], [0, 1, 2, 3, 4, 12], [], [0, 1, 2, 3, 4, 12], [0, 1, 2, 3, 4, 12, 14], [0, 1, 2, 3, 4, 12, 14], [0, 1, 2, 3, 4, 12, 14], [0, 1, 2, 3, 4, 12, 14, 15], [0, 1, 2, 4, 12, 14, 15, 80], [0, 1, 2, 12, 14, 15], [0, 2, 4, 12, 14, 15, 80], [0, 2, 4, 12, 14, 15], [0, 2, 12, 14, 15], [0, 2, 12, 14], [0, 14], [14]].getD n [], order := fun n => [[], [], [], [], [], [], [], [], [(0, 0), (1, 1), (2, 3), (3, 7), (4, 15), (5, 0), (6, 32), (7, 96), (8, 224), (9, 511), (10, 1023)]].getD n [] }
def pl.f8 (c : CallT) (Q : Value → AH → Prop) : Plan := [
  (255, fun S T H => F.f8_j1 (sy c) Q (T 0) (T 2) (T 12) (T 14) (T 15) H),
  (124, fun S T H => F.f8_l1 (sy c) Q (T 0) (T 1) (T 2) (T 3) (T 4) (T 12) (T 14) H (S 0))]
theorem L.f8 (c : CallT) (x0 x1 x2 x3 x4 : Value) (H : AH) (Q : Value → AH → Prop) (h : F.f8 (sy c) x0 x1 x2 x3 x4 H Q) : evBody Tryd.prog c kp.f8 Tryd.f29 [x0, x1, x2, x3, x4] H Q :=
  evBody_of (pl := pl.f8 c Q) Tryd.f29 _ H Q (bodyOf Tryd.f29) (by kernel_rfl) (by kernel_rfl) (by kernel_rfl) h

def kp.f4 : Keep := { keep := fun n => [[0], [0], [3], [3]].getD n [], order := fun n => [].getD n [] }
theorem L.f4 (c : CallT) (x0 : Value) (H : AH) (Q : Value → AH → Prop) (h : F.f4 (sy c) x0 H Q) : evBody Tryd.prog c kp.f4 Tryd.f50 [x0] H Q :=
  evBody_of (pl := []) Tryd.f50 _ H Q (bodyOf Tryd.f50) (by kernel_rfl) (by kernel_rfl) (by kernel_rfl) h

def kp.f23 : Keep := { keep := fun n => [[], []].getD n [], order := fun n => [].getD n [] }
theorem L.f23 (c : CallT) (H : AH) (Q : Value → AH → Prop) (h : F.f23 (sy c) H Q) : evBody Tryd.prog c kp.f23 Tryd.f51 [] H Q :=
  evBody_of (pl := []) Tryd.f51 _ H Q (bodyOf Tryd.f51) (by kernel_rfl) (by kernel_rfl) (by kernel_rfl) h

def kp.f74 : Keep := { keep := fun n => [[0, 1, 2, 3], [0, 2, 3, 5, 8], [0, 2, 3, 8, 10, 11], [8, 11], [0, 2, 3, 8, 10], [0, 3, 8, 10, 12], [0, 3, 8, 10, 12], [0, 3, 8, 10, 12, 13], [8, 13], [0, 8, 10, 12], [8], [0, 8, 10, 12], [8], [8, 10]].getD n [], order := fun n => [[], [], [], [], [], [], [], [], [], [(0, 0), (1, 1), (2, 3), (3, 7), (4, 0), (5, 16), (6, 48), (7, 127), (8, 255)]].getD n [] }
def pl.f74 (c : CallT) (Q : Value → AH → Prop) : Plan := [
  (124, fun S T H => F.f74_l1 (sy c) Q (T 0) (T 3) (T 8) (T 10) (T 12) H (S 0))]
theorem L.f74 (c : CallT) (x0 x1 x2 x3 : Value) (H : AH) (Q : Value → AH → Prop) (h : F.f74 (sy c) x0 x1 x2 x3 H Q) : evBody Tryd.prog c kp.f74 Tryd.f30 [x0, x1, x2, x3] H Q :=
  evBody_of (pl := pl.f74 c Q) Tryd.f30 _ H Q (bodyOf Tryd.f30) (by kernel_rfl) (by kernel_rfl) (by kernel_rfl) h

def kp.f5 : Keep := { keep := fun n => [[0, 1], [0, 1], [], [0, 1]].getD n [], order := fun n => [].getD n [] }
theorem L.f5 (c : CallT) (x0 x1 : Value) (H : AH) (Q : Value → AH → Prop) (h : F.f5 (sy c) x0 x1 H Q) : evBody Tryd.prog c kp.f5 Tryd.f48 [x0, x1] H Q :=
  evBody_of (pl := []) Tryd.f48 _ H Q (bodyOf Tryd.f48) (by kernel_rfl) (by kernel_rfl) (by kernel_rfl) h

def kp.f33 : Keep := { keep := fun n => [[0, 1], [0, 1], [0], [0]].getD n [], order := fun n => [].getD n [] }
theorem L.f33 (c : CallT) (x0 x1 : Value) (H : AH) (Q : Value → AH → Prop) (h : F.f33 (sy c) x0 x1 H Q) : evBody Tryd.prog c kp.f33 Tryd.f49 [x0, x1] H Q :=
  evBody_of (pl := []) Tryd.f49 _ H Q (bodyOf Tryd.f49) (by kernel_rfl) (by kernel_rfl) (by kernel_rfl) h

def kp.f45 : Keep := { keep := fun n => [[0], [0, 2]].getD n [], order := fun n => [].getD n [] }
theorem L.f45 (c : CallT) (x0 : Value) (H : AH) (Q : Value → AH → Prop) (h : F.f45 (sy c) x0 H Q) : evBody Tryd.prog c kp.f45 Tryd.f54 [x0] H Q :=
  evBody_of (pl := []) Tryd.f54 _ H Q (bodyOf Tryd.f54) (by kernel_rfl) (by kernel_rfl) (by kernel_rfl) h

def kp.f43 : Keep := { keep := fun n => [[0, 1], [0, 1], [], [0, 1], [0, 1, 12, 13], [0, 1, 12, 13], [0, 1, 5, 12, 13], [], [0, 1, 12, 13], []].getD n [], order := fun n => [[], [], [], [], [], [], [(0, 0), (1, 0), (2, 3), (3, 7), (4, 0), (5, 0), (6, 48), (7, 112), (8, 255)]].getD n [] }
def pl.f43 (c : CallT) (Q : Value → AH → Prop) : Plan := [
  (58, fun S T H => F.f43_l1 (sy c) Q (T 0) (T 1) (T 12) (T 13) H (S 0))]
theorem L.f43 (c : CallT) (x0 x1 : Value) (H : AH) (Q : Value → AH → Prop) (h : F.f43 (sy c) x0 x1 H Q) : evBody Tryd.prog c kp.f43 Tryd.f55 [x0, x1] H Q :=
  evBody_of (pl := pl.f43 c Q) Tryd.f55 _ H Q (bodyOf Tryd.f55) (by kernel_rfl) (by kernel_rfl) (by kernel_rfl) h

def kp.f11 : Keep := { keep := fun n => [[0, 1, 2], [0, 1, 2], [2, 8, 9], [9], [2, 8], [], [2, 8], [8, 11], [], [8], [], [8], [], [8]].getD n [], order := fun n => [].getD n [] }
theorem L.f11 (c : CallT) (x0 x1 x2 : Value) (H : AH) (Q : Value → AH → Prop) (h : F.f11 (sy c) x0 x1 x2 H Q) : evBody Tryd.prog c kp.f11 Tryd.f57 [x0, x1, x2] H Q :=
  evBody_of (pl := []) Tryd.f57 _ H Q (bodyOf Tryd.f57) (by kernel_rfl) (by kernel_rfl) (by kernel_rfl) h

def kp.f9 : Keep := { keep := fun n => [[0, 1], [0, 1], [0, 1, 5], [0, 1, 5], [0, 1, 5], [5]].getD n [], order := fun n => [].getD n [] }
def pl.f9 (c : CallT) (Q : Value → AH → Prop) : Plan := [
  (28, fun S T H => F.f9_l1 (sy c) Q (T 0) (T 1) (T 5) H (S 0))]
theorem L.f9 (c : CallT) (x0 x1 : Value) (H : AH) (Q : Value → AH → Prop) (h : F.f9 (sy c) x0 x1 H Q) : evBody Tryd.prog c kp.f9 Tryd.f58 [x0, x1] H Q :=
  evBody_of (pl := pl.f9 c Q) Tryd.f58 _ H Q (bodyOf Tryd.f58) (by kernel_rfl) (by kernel_rfl) (by kernel_rfl) h

def kp.f70 : Keep := { keep := fun n => [[0, 1], [0, 1]].getD n [], order := fun n => [].getD n [] }
theorem L.f70 (c : CallT) (x0 x1 : Value) (H : AH) (Q : Value → AH → Prop) (h : F.f70 (sy c) x0 x1 H Q) : evBody Tryd.prog c kp.f70 Tryd.f59 [x0, x1] H Q :=
  evBody_of (pl := []) Tryd.f59 _ H Q (bodyOf Tryd.f59) (by kernel_rfl) (by kernel_rfl) (by kernel_rfl) h

def kp.f76 : Keep := { keep := fun n => [[0, 1, 2], [0, 2, 4, 6], [0, 2, 6, 8], [6, 8], [0, 2, 6, 8], [6, 8], [0, 2, 6, 8], [6, 8], [0, 2, 6, 8], [0, 2, 6, 8], [2, 6, 8], [6, 8]].getD n [], order := fun n => [[], [], [], [], [], [], [], [], [], [(0, 0), (1, 1), (2, 3), (3, 7), (4, 0), (5, 31), (6, 63), (7, 127)]].getD n [] }
def pl.f76 (c : CallT) (Q : Value → AH → Prop) : Plan := [
  (15, fun S T H => F.f76_j1 (sy c) Q (T 2) (T 6) (T 8) H)]
theorem L.f76 (c : CallT) (x0 x1 x2 : Value) (H : AH) (Q : Value → AH → Prop) (h : F.f76 (sy c) x0 x1 x2 H Q) : evBody Tryd.prog c kp.f76 Tryd.f60 [x0, x1, x2] H Q :=
  evBody_of (pl := pl.f76 c Q) Tryd.f60 _ H Q (bodyOf Tryd.f60) (by kernel_rfl) (by kernel_rfl) (by kernel_rfl) h

def kp.f62 : Keep := { keep := fun n => [[0, 1], [0, 1]].getD n [], order := fun n => [].getD n [] }
theorem L.f62 (c : CallT) (x0 x1 : Value) (H : AH) (Q : Value → AH → Prop) (h : F.f62 (sy c) x0 x1 H Q) : evBody Tryd.prog c kp.f62 Tryd.f61 [x0, x1] H Q :=
  evBody_of (pl := []) Tryd.f61 _ H Q (bodyOf Tryd.f61) (by kernel_rfl) (by kernel_rfl) (by kernel_rfl) h

def kp.f80 : Keep := { keep := fun n => [[0, 1], [0, 1], [0, 1, 5], [0, 1, 5], [], [0, 1, 5], [0], [0], [0, 6], [], [], [0, 1, 5], [], [0, 1, 5], [0, 1, 7, 8], [8], [0, 1, 7], [0, 1, 7, 9], [0, 9], [0, 7, 9], [0, 9], [0], []].getD n [], order := fun n => [[], [], [], [(0, 0), (1, 1), (2, 3), (3, 7), (4, 0), (5, 16), (6, 48), (7, 112), (8, 255), (9, 511)], [], [], [(0, 0), (1, 0), (2, 2), (3, 6), (4, 14), (5, 0), (6, 32), (7, 96), (8, 224), (9, 510), (10, 1023), (11, 2047), (12, 4095)], [(0, 0), (1, 1), (2, 3), (3, 7), (4, 15), (5, 31), (6, 63), (7, 0), (8, 128), (9, 384), (10, 896), (11, 1920), (12, 4095), (13, 8191)], [(0, 0), (1, 1), (2, 3), (3, 7), (4, 15), (5, 31), (6, 63), (7, 7), (8, 135), (9, 391), (10, 903), (11, 2047), (12, 4095), (13, 8191)], [], [], [], [], [(0, 0), (1, 1), (2, 3), (3, 7), (4, 15), (5, 31), (6, 63), (7, 0), (8, 128), (9, 384), (10, 896), (11, 1920), (12, 0), (13, 8191), (14, 16383), (15, 32767), (16, 32767), (17, 65535), (18, 262143)], [], [], [], [], [], [], [], [(0, 0), (1, 0), (2, 2), (3, 6), (4, 14), (5, 30), (6, 62), (7, 126), (8, 0), (9, 256), (10, 768), (11, 1792), (12, 4094), (13, 8191), (14, 16383), (15, 32767)]].getD n [] }
theorem L.f80 (c : CallT) (x0 x1 : Value) (H : AH) (Q : Value → AH → Prop) (h : F.f80 (sy c) x0 x1 H Q) : evBody Tryd.prog c kp.f80 Tryd.f62 [x0, x1] H Q :=
  evBody_of (pl := []) Tryd.f62 _ H Q (bodyOf Tryd.f62) (by kernel_rfl) (by kernel_rfl) (by kernel_rfl) h

def kp.f73 : Keep := { keep := fun n => [[0, 1], [0, 3], [], [0, 3], [0, 3, 5], [5, 7]].getD n [], order := fun n => [[], [], [], [(0, 0), (1, 1), (2, 3), (3, 7), (4, 0), (5, 16), (6, 63), (7, 127)], [(0, 0), (1, 1), (2, 3), (3, 7), (4, 0), (5, 16), (10, 0), (6, 63), (7, 127), (8, 255), (9, 255), (11, 1535), (12, 4095)]].getD n [] }
theorem L.f73 (c : CallT) (x0 x1 : Value) (H : AH) (Q : Value → AH → Prop) (h : F.f73 (sy c) x0 x1 H Q) : evBody Tryd.prog c kp.f73 Tryd.f63 [x0, x1] H Q :=
  evBody_of (pl := []) Tryd.f63 _ H Q (bodyOf Tryd.f63) (by kernel_rfl) (by kernel_rfl) (by kernel_rfl) h

def kp.f20 : Keep := { keep := fun n => [[0], [0], [0]].getD n [], order := fun n => [].getD n [] }
theorem L.f20 (c : CallT) (x0 : Value) (H : AH) (Q : Value → AH → Prop) (h : F.f20 (sy c) x0 H Q) : evBody Tryd.prog c kp.f20 Tryd.f80 [x0] H Q :=
  evBody_of (pl := []) Tryd.f80 _ H Q (bodyOf Tryd.f80) (by kernel_rfl) (by kernel_rfl) (by kernel_rfl) h

def kp.f57 : Keep := { keep := fun n => [[0, 1, 2, 3], [0, 1, 2, 3, 8], [0, 1, 2, 3, 8, 9], [0, 1, 2, 3, 8, 9, 10], [0, 1, 2], [0, 1, 2, 3, 8, 9, 10], [0, 1, 2], [0, 1, 2, 3, 8, 9, 10], [0, 1, 2, 3, 8, 9, 10], [0, 1, 2, 3, 8, 9, 10], [0, 1, 2, 3, 8, 9, 10], [0, 1, 2, 3, 8, 9, 10, 11, 12], [0, 1, 2, 3, 8, 9, 10, 11], [0, 1, 2, 3, 8, 9, 10, 11], [0, 1, 2, 3, 8, 9, 10, 11], [0, 1, 2, 3, 8, 9, 10, 11, 12], [0, 1, 2, 3, 8, 9, 10, 11], [0, 1, 2, 3, 8, 9, 10, 11], [0, 1, 2, 3, 8, 9, 11], [0, 2, 3, 8, 9, 13], [0, 1, 2, 3, 10, 11], [0, 1, 2, 3, 10, 14, 15], [0, 1, 2, 3, 9, 10, 14], [0, 1, 2, 3, 9, 10, 14, 16, 17], [0, 1, 2, 3, 9, 14, 16, 17, 18], [0, 1, 2, 3, 9, 14, 16, 18], [0, 1, 2, 3, 8, 9, 14], [0, 2, 3, 8, 9, 14], [0, 1, 2, 3, 9, 14, 17, 18], [0, 1, 2, 3, 8, 9, 14], [0, 1, 3, 8, 9, 14]].getD n [], order := fun n => [[], [], [], [], [], [], [], [], [], [], [], [], [], [], [], [], [], [(0, 0), (1, 1), (2, 3), (3, 7), (4, 7), (5, 23), (6, 63), (7, 127), (8, 7), (9, 7), (10, 775), (11, 1799), (12, 4095), (13, 8191), (14, 16383)]].getD n [] }
def pl.f57 (c : CallT) (Q : Value → AH → Prop) : Plan := [
  (7295, fun S T H => F.f57_j3 (sy c) Q (S 0) (T 0) (T 1) (T 2) (T 3) (T 8) (T 9) (T 10) (T 11) H),
  (3647, fun S T H => F.f57_j2 (sy c) Q (S 0) (T 0) (T 1) (T 2) (T 3) (T 8) (T 9) (T 10) (T 11) (T 12) H),
  (911, fun S T H => F.f57_j1 (sy c) Q (S 0) (T 0) (T 1) (T 2) (T 3) (T 8) (T 9) (T 10) H),
  (14, fun S T H => F.f57_l1 (sy c) Q (T 0) (T 1) (T 2) (T 3) (T 8) (T 9) H (S 0))]
theorem L.f57 (c : CallT) (x0 x1 x2 x3 : Value) (H : AH) (Q : Value → AH → Prop) (h : F.f57 (sy c) x0 x1 x2 x3 H Q) : evBody Tryd.prog c kp.f57 Tryd.f79 [x0, x1, x2, x3] H Q :=
  evBody_of (pl := pl.f57 c Q) Tryd.f79 _ H Q (bodyOf Tryd.f79) (by kernel_rfl) (by kernel_rfl) (by kernel_rfl) h

def kp.f10 : Keep := { keep := fun n => [[0, 1], [0, 1], [6], [], [6], [], [6]].getD n [], order := fun n => [].getD n [] }
theorem L.f10 (c : CallT) (x0 x1 : Value) (H : AH) (Q : Value → AH → Prop) (h : F.f10 (sy c) x0 x1 H Q) : evBody Tryd.prog c kp.f10 Tryd.f83 [x0, x1] H Q :=
  evBody_of (pl := []) Tryd.f83 _ H Q (bodyOf Tryd.f83) (by kernel_rfl) (by kernel_rfl) (by kernel_rfl) h

def kp.f2 : Keep := { keep := fun n => [[0], [0], [], [0]].getD n [], order := fun n => [].getD n [] }
theorem L.f2 (c : CallT) (x0 : Value) (H : AH) (Q : Value → AH → Prop) (h : F.f2 (sy c) x0 H Q) : evBody Tryd.prog c kp.f2 Tryd.f72 [x0] H Q :=
  evBody_of (pl := []) Tryd.f72 _ H Q (bodyOf Tryd.f72) (by kernel_rfl) (by kernel_rfl) (by kernel_rfl) h

def kp.f77 : Keep := { keep := fun n => [[0], [0]].getD n [], order := fun n => [].getD n [] }
theorem L.f77 (c : CallT) (x0 : Value) (H : AH) (Q : Value → AH → Prop) (h : F.f77 (sy c) x0 H Q) : evBody Tryd.prog c kp.f77 Tryd.f85 [x0] H Q :=
  evBody_of (pl := []) Tryd.f85 _ H Q (bodyOf Tryd.f85) (by kernel_rfl) (by kernel_rfl) (by kernel_rfl) h

def kp.f26 : Keep := { keep := fun n => [[0, 1], [0, 3, 4], [3, 4], [0, 3, 4], [0, 3, 4, 5], [3, 4], [0, 3, 4, 5]].getD n [], order := fun n => [[], [], [], [], [], [], [(0, 0), (1, 1), (2, 3), (3, 7), (4, 0), (5, 31), (6, 63), (7, 127), (8, 0), (9, 256), (10, 768), (11, 1792), (12, 0), (13, 7936), (14, 16128), (15, 32512), (16, 65535), (17, 131071)]].getD n [] }
def pl.f26 (c : CallT) (Q : Value → AH → Prop) : Plan := [
  (14, fun S T H => F.f26_l1 (sy c) Q (T 0) (T 3) (T 4) H (S 0))]
theorem L.f26 (c : CallT) (x0 x1 : Value) (H : AH) (Q : Value → AH → Prop) (h : F.f26 (sy c) x0 x1 H Q) : evBody Tryd.prog c kp.f26 Tryd.f86 [x0, x1] H Q :=
  evBody_of (pl := pl.f26 c Q) Tryd.f86 _ H Q (bodyOf Tryd.f86) (by kernel_rfl) (by kernel_rfl) (by kernel_rfl) h

def kp.f78 : Keep := { keep := fun n => [[0], [0], [0, 3], [3, 7, 8, 9], [3, 7, 8, 9], [3, 5, 7, 8, 9], [3, 5, 7, 8, 9], [3, 7, 8, 9], [3]].getD n [], order := fun n => [].getD n [] }
def pl.f78 (c : CallT) (Q : Value → AH → Prop) : Plan := [
  (58, fun S T H => F.f78_l1 (sy c) Q (T 3) (T 7) (T 8) (T 9) H (S 0))]
theorem L.f78 (c : CallT) (x0 : Value) (H : AH) (Q : Value → AH → Prop) (h : F.f78 (sy c) x0 H Q) : evBody Tryd.prog c kp.f78 Tryd.f87 [x0] H Q :=
  evBody_of (pl := pl.f78 c Q) Tryd.f87 _ H Q (bodyOf Tryd.f87) (by kernel_rfl) (by kernel_rfl) (by kernel_rfl) h

def kp.f17 : Keep := { keep := fun n => [[0, 1], [0, 1]].getD n [], order := fun n => [].getD n [] }
theorem L.f17 (c : CallT) (x0 x1 : Value) (H : AH) (Q : Value → AH → Prop) (h : F.f17 (sy c) x0 x1 H Q) : evBody Tryd.prog c kp.f17 Tryd.f88 [x0, x1] H Q :=
  evBody_of (pl := []) Tryd.f88 _ H Q (bodyOf Tryd.f88) (by kernel_rfl) (by kernel_rfl) (by kernel_rfl) h

def kp.f75 : Keep := { keep := fun n => [[0, 1], [0, 3, 4], [4], [0, 3, 4], [0, 3, 4, 5, 6], [0, 3, 4, 5], [0, 3, 4], [0, 3, 4, 7], [4], [0, 3, 4, 7]].getD n [], order := fun n => [[], [], [], [(0, 0), (1, 1), (2, 3), (3, 7), (4, 0), (9, 0), (5, 31), (6, 63), (7, 127), (8, 127), (10, 767), (11, 2047)], [], [], [(0, 0), (1, 1), (2, 3), (3, 7), (4, 0), (5, 16), (6, 63), (7, 127)], [], [], [(0, 0), (1, 1), (2, 3), (3, 7), (4, 0), (5, 16), (6, 0), (7, 64), (8, 192), (9, 448), (10, 1008), (11, 2047), (12, 4095)]].getD n [] }
def pl.f75 (c : CallT) (Q : Value → AH → Prop) : Plan := [
  (28, fun S T H => F.f75_l1 (sy c) Q (T 0) (T 3) (T 4) H (S 0))]
theorem L.f75 (c : CallT) (x0 x1 : Value) (H : AH) (Q : Value → AH → Prop) (h : F.f75 (sy c) x0 x1 H Q) : evBody Tryd.prog c kp.f75 Tryd.f89 [x0, x1] H Q :=
  evBody_of (pl := pl.f75 c Q) Tryd.f89 _ H Q (bodyOf Tryd.f89) (by kernel_rfl) (by kernel_rfl) (by kernel_rfl) h

def kp.f7 : Keep := { keep := fun n => [[0, 1, 2], [0, 1, 2], [2, 8, 9], [9], [2, 8], [10, 11], [], [10]].getD n [], order := fun n => [].getD n [] }
theorem L.f7 (c : CallT) (x0 x1 x2 : Value) (H : AH) (Q : Value → AH → Prop) (h : F.f7 (sy c) x0 x1 x2 H Q) : evBody Tryd.prog c kp.f7 Tryd.f65 [x0, x1, x2] H Q :=
  evBody_of (pl := []) Tryd.f65 _ H Q (bodyOf Tryd.f65) (by kernel_rfl) (by kernel_rfl) (by kernel_rfl) h

def kp.f79 : Keep := { keep := fun n => [[0, 1], [0, 1], [0, 1], [], [0, 1], [0, 1], [0, 1], []].getD n [], order := fun n => [[], [], [], [], [], [(0, 0), (1, 0), (2, 2), (3, 6), (4, 14), (5, 30), (6, 62), (7, 126), (8, 0), (9, 510), (10, 1023), (11, 2047), (12, 4095)], [(0, 0), (1, 0), (3, 0), (4, 8), (5, 24), (6, 56), (2, 2), (7, 126), (8, 255), (9, 511), (10, 1023)]].getD n [] }
def pl.f79 (c : CallT) (Q : Value → AH → Prop) : Plan := [
  (15, fun S T H => F.f79_j1 (sy c) Q (T 0) (T 1) H)]
theorem L.f79 (c : CallT) (x0 x1 : Value) (H : AH) (Q : Value → AH → Prop) (h : F.f79 (sy c) x0 x1 H Q) : evBody Tryd.prog c kp.f79 Tryd.f90 [x0, x1] H Q :=
  evBody_of (pl := pl.f79 c Q) Tryd.f90 _ H Q (bodyOf Tryd.f90) (by kernel_rfl) (by kernel_rfl) (by kernel_rfl) h

def kp.f25 : Keep := { keep := fun n => [[0, 1], [0, 1, 4], [0, 4, 6], [4], [0, 4, 6]].getD n [], order := fun n => [].getD n [] }
theorem L.f25 (c : CallT) (x0 x1 : Value) (H : AH) (Q : Value → AH → Prop) (h : F.f25 (sy c) x0 x1 H Q) : evBody Tryd.prog c kp.f25 Tryd.f91 [x0, x1] H Q :=
  evBody_of (pl := []) Tryd.f91 _ H Q (bodyOf Tryd.f91) (by kernel_rfl) (by kernel_rfl) (by kernel_rfl) h

def kp.f22 : Keep := { keep := fun n => [[0], [0, 2], [0], [0], [0, 2], [0, 2], [0, 2], [0, 2], [0, 2], [0, 2], [0, 2]].getD n [], order := fun n => [].getD n [] }
def pl.f22 (c : CallT) (Q : Value → AH → Prop) : Plan := [
  (31, fun S T H => F.f22_j3 (sy c) Q (T 0) (T 2) H),
  (15, fun S T H => F.f22_j2 (sy c) Q (T 0) (T 2) H),
  (7, fun S T H => F.f22_j1 (sy c) Q (T 0) (T 2) H)]
theorem L.f22 (c : CallT) (x0 : Value) (H : AH) (Q : Value → AH → Prop) (h : F.f22 (sy c) x0 H Q) : evBody Tryd.prog c kp.f22 Tryd.f110 [x0] H Q :=
  evBody_of (pl := pl.f22 c Q) Tryd.f110 _ H Q (bodyOf Tryd.f110) (by kernel_rfl) (by kernel_rfl) (by kernel_rfl) h

def kp.f49 : Keep := { keep := fun n => [[0, 1, 2], [0, 1, 2, 6], [0, 1, 2, 6], [0, 1, 2, 6], [0, 1, 2, 6, 7], [0, 1, 2, 6, 7], [0, 1, 2, 6, 7]].getD n [], order := fun n => [[], [], [], [], [(0, 0), (1, 0), (2, 3), (3, 7), (4, 15), (5, 15), (6, 63), (7, 127), (8, 15), (9, 15), (10, 527), (11, 1807), (12, 3855), (13, 8191), (14, 16383)], [], [(0, 0), (1, 0), (2, 0), (3, 0), (4, 8), (5, 0), (6, 0), (7, 64), (8, 224), (9, 480), (10, 0), (11, 0), (12, 3072), (13, 7168), (14, 16355), (15, 32739), (16, 65535), (17, 131071)]].getD n [] }
def pl.f49 (c : CallT) (Q : Value → AH → Prop) : Plan := [
  (402, fun S T H => F.f49_l2 (sy c) Q (S 1) (T 0) (T 1) (T 2) (T 6) (T 7) H (S 0)),
  (6, fun S T H => F.f49_l1 (sy c) Q (T 0) (T 1) (T 2) (T 6) H (S 0))]
theorem L.f49 (c : CallT) (x0 x1 x2 : Value) (H : AH) (Q : Value → AH → Prop) (h : F.f49 (sy c) x0 x1 x2 H Q) : evBody Tryd.prog c kp.f49 Tryd.f100 [x0, x1, x2] H Q :=
  evBody_of (pl := pl.f49 c Q) Tryd.f100 _ H Q (bodyOf Tryd.f100) (by kernel_rfl) (by kernel_rfl) (by kernel_rfl) h

def kp.f48 : Keep := { keep := fun n => [[0, 1, 2], [0, 1, 2, 6], [0, 1, 2, 6, 7], [0, 6, 7, 8], [0, 6, 7, 8, 9], [0, 6, 7, 8, 9], [0, 6, 7, 8, 9], [0, 6, 7, 8], [0, 6, 7, 10], [0, 6, 7, 10], [0, 6, 7, 10], [0, 6, 7, 10]].getD n [], order := fun n => [[], [], [], [], [], [], [], [], [], [], [(0, 0), (1, 0), (2, 0), (3, 0), (4, 0), (5, 24), (6, 0), (7, 0), (8, 0), (9, 384), (10, 960), (11, 1984), (12, 0), (13, 0), (14, 12288), (15, 28672), (16, 65475), (17, 131011), (18, 262143), (19, 524287)]].getD n [] }
def pl.f48 (c : CallT) (Q : Value → AH → Prop) : Plan := [
  (126, fun S T H => F.f48_l2 (sy c) Q (T 0) (T 6) (T 7) (T 10) H (S 0)),
  (122, fun S T H => F.f48_l1 (sy c) Q (T 0) (T 6) (T 7) (T 8) (T 9) H (S 0))]
theorem L.f48 (c : CallT) (x0 x1 x2 : Value) (H : AH) (Q : Value → AH → Prop) (h : F.f48 (sy c) x0 x1 x2 H Q) : evBody Tryd.prog c kp.f48 Tryd.f101 [x0, x1, x2] H Q :=
  evBody_of (pl := pl.f48 c Q) Tryd.f101 _ H Q (bodyOf Tryd.f101) (by kernel_rfl) (by kernel_rfl) (by kernel_rfl) h

def kp.f46 : Keep := { keep := fun n => [[0, 1, 2], [0, 1, 6], [0, 1, 6], [0, 1, 6, 7], [0, 1, 6, 7, 8], [0, 1, 6, 7, 8, 9], [0, 1, 6, 7, 8, 9], [0, 1, 6, 7, 8, 9], [0, 1, 6, 7, 8, 9, 10], [0, 1, 6, 7, 8, 9, 10], [0, 1, 6, 7, 8, 9, 10]].getD n [], order := fun n => [[], [], [], [], [], [], [], [], [], [], [(0, 0), (1, 0), (2, 0), (3, 0), (4, 0), (5, 24), (6, 0), (7, 0), (8, 0), (9, 384), (10, 960), (11, 1984), (12, 0), (13, 0), (14, 12288), (15, 28672), (16, 65475), (17, 131011), (18, 262143), (19, 524287)]].getD n [] }
def pl.f46 (c : CallT) (Q : Value → AH → Prop) : Plan := [
  (15251, fun S T H => F.f46_j1 (sy c) Q (S 0) (T 0) (T 1) (T 6) (T 7) (T 8) (T 9) (T 10) H),
  (238, fun S T H => F.f46_l1 (sy c) Q (T 0) (T 1) (T 6) (T 7) (T 8) (T 9) H (S 0))]
theorem L.f46 (c : CallT) (x0 x1 x2 : Value) (H : AH) (Q : Value → AH → Prop) (h : F.f46 (sy c) x0 x1 x2 H Q) : evBody Tryd.prog c kp.f46 Tryd.f102 [x0, x1, x2] H Q :=
  evBody_of (pl := pl.f46 c Q) Tryd.f102 _ H Q (bodyOf Tryd.f102) (by kernel_rfl) (by kernel_rfl) (by kernel_rfl) h

def kp.f47 : Keep := { keep := fun n => [[0, 1, 2], [0, 1, 2], [0, 1, 8], [0, 1, 8, 9], [0, 1, 8, 9, 10], [0, 1, 8, 9, 10, 11], [0, 8, 9, 10, 11, 12], [0, 8, 9, 10, 11, 12], [0, 9, 10, 11, 12], [0, 9, 10, 11, 12], [0, 9, 10, 11, 12], [0, 9, 10, 11, 12], [9, 11], [11], [11, 49], [11], [11, 49], [11]].getD n [], order := fun n => [].getD n [] }
def pl.f47 (c : CallT) (Q : Value → AH → Prop) : Plan := [
  (255, fun S T H => F.f47_j1 (sy c) Q (T 9) (T 11) H),
  (2037, fun S T H => F.f47_j2 (sy c) Q (T 0) (T 9) (T 10) (T 11) (T 12) H)]
theorem L.f47 (c : CallT) (x0 x1 x2 : Value) (H : AH) (Q : Value → AH → Prop) (h : F.f47 (sy c) x0 x1 x2 H Q) : evBody Tryd.prog c kp.f47 Tryd.f103 [x0, x1, x2] H Q :=
  evBody_of (pl := pl.f47 c Q) Tryd.f103 _ H Q (bodyOf Tryd.f103) (by kernel_rfl) (by kernel_rfl) (by kernel_rfl) h

def kp.f58 : Keep := { keep := fun n => [[0, 1, 2], [0, 2, 6], [0, 6, 7], [0, 6, 7], [0, 6, 7], [0, 6, 7]].getD n [], order := fun n => [[], [], [], [(0, 0), (1, 0), (2, 0), (3, 0), (4, 0), (5, 0), (6, 48), (7, 112), (8, 0), (9, 0), (10, 768), (11, 1792), (12, 4083), (13, 8179), (14, 16383), (15, 32767)]].getD n [] }
def pl.f58 (c : CallT) (Q : Value → AH → Prop) : Plan := [
  (14, fun S T H => F.f58_l1 (sy c) Q (T 0) (T 6) (T 7) H (S 0))]
theorem L.f58 (c : CallT) (x0 x1 x2 : Value) (H : AH) (Q : Value → AH → Prop) (h : F.f58 (sy c) x0 x1 x2 H Q) : evBody Tryd.prog c kp.f58 Tryd.f104 [x0, x1, x2] H Q :=
  evBody_of (pl := pl.f58 c Q) Tryd.f104 _ H Q (bodyOf Tryd.f104) (by kernel_rfl) (by kernel_rfl) (by kernel_rfl) h

def kp.f54 : Keep := { keep := fun n => [[0, 1, 2], [0, 1, 2], [0, 1, 2, 7], [0, 1, 2, 7, 8], [0, 1, 2, 7, 8], [0, 1, 2, 7, 8], [0, 1, 2, 7, 8], [0, 1, 2, 7, 8], [], [0, 1, 2, 7, 8], [], [0, 1, 2, 7, 8], [0, 1, 2, 7, 8], [0, 1, 2, 7, 8], [0, 1, 2, 7, 8, 9], [0, 1, 2, 7, 8, 9], [0, 1, 2, 7, 8, 9], [0, 1, 2, 7, 8, 9], [0, 1, 2, 7, 8], [0, 1, 2, 7, 8], [0, 1, 2, 7, 8, 10], [0, 1, 2, 7, 8, 10], [0, 1, 2, 7, 8, 10], [0, 1, 2, 7, 8, 10], []].getD n [], order := fun n => [[], [], [], [], [], [(0, 0), (1, 0), (2, 3), (3, 7), (4, 15), (5, 15), (6, 63), (7, 127), (8, 15), (9, 15), (10, 527), (11, 1807), (12, 3855), (13, 8191), (14, 16383), (15, 32767)], [], [], [], [], [], [(0, 0), (1, 0), (2, 0), (3, 0), (4, 8), (5, 0), (6, 0), (7, 64), (8, 224), (9, 480), (10, 0), (11, 0), (12, 3072), (13, 7168), (14, 16355), (15, 32739), (16, 65535), (17, 131071)], [], [], [], [], [(0, 0), (1, 0), (2, 3), (3, 7), (4, 0), (5, 0), (6, 32), (7, 112), (8, 240), (9, 511), (10, 1023)], [(0, 0), (1, 0), (2, 0), (3, 0), (4, 8), (5, 0), (6, 0), (7, 64), (8, 224), (9, 480), (10, 0), (11, 0), (12, 3072), (13, 7168), (14, 16355), (15, 32739), (16, 65535), (17, 131071)], [], [], [], [], [(0, 0), (1, 0), (2, 3), (3, 7), (4, 0), (5, 0), (6, 32), (7, 112), (8, 240), (9, 511), (10, 1023)], [(0, 0), (1, 0), (2, 0), (3, 0), (4, 8), (5, 0), (6, 0), (7, 64), (8, 224), (9, 480), (10, 0), (11, 0), (12, 3072), (13, 7168), (14, 16355), (15, 32739), (16, 65535), (17, 131071)]].getD n [] }
def pl.f54 (c : CallT) (Q : Value → AH → Prop) : Plan := [
  (477690, fun S T H => F.f54_l3 (sy c) Q (S 1) (T 0) (T 1) (T 2) (T 7) (T 8) (T 10) H (S 0)),
  (29855, fun S T H => F.f54_j1 (sy c) Q (S 0) (T 0) (T 1) (T 2) (T 7) (T 8) H),
  (477674, fun S T H => F.f54_l4 (sy c) Q (S 1) (T 0) (T 1) (T 2) (T 7) (T 8) (T 9) H (S 0)),
  (3728, fun S T H => F.f54_l2 (sy c) Q (S 1) (T 0) (T 1) (T 2) (T 7) (T 8) H (S 0)),
  (58, fun S T H => F.f54_l1 (sy c) Q (T 0) (T 1) (T 2) (T 7) (T 8) H (S 0))]
theorem L.f54 (c : CallT) (x0 x1 x2 : Value) (H : AH) (Q : Value → AH → Prop) (h : F.f54 (sy c) x0 x1 x2 H Q) : evBody Tryd.prog c kp.f54 Tryd.f105 [x0, x1, x2] H Q :=
  evBody_of (pl := pl.f54 c Q) Tryd.f105 _ H Q (bodyOf Tryd.f105) (by kernel_rfl) (by kernel_rfl) (by kernel_rfl) h

def kp.f0 : Keep := { keep := fun n => [[0, 1], [0, 1]].getD n [], order := fun n => [].getD n [] }
theorem L.f0 (c : CallT) (x0 x1 : Value) (H : AH) (Q : Value → AH → Prop) (h : F.f0 (sy c) x0 x1 H Q) : evBody Tryd.prog c kp.f0 Tryd.f106 [x0, x1] H Q :=
  evBody_of (pl := []) Tryd.f106 _ H Q (bodyOf Tryd.f106) (by kernel_rfl) (by kernel_rfl) (by kernel_rfl) h

def kp.f55 : Keep := { keep := fun n => [[0, 1, 2, 3], [0, 1, 2, 3], [0, 1, 2], [0, 1, 9, 10], [0, 1, 9, 10], [0, 1, 9, 10], [0, 1, 9, 10], [0, 1, 9, 10], [0, 1, 9, 10], [0, 1, 9, 10], [0, 1, 9, 10], [9]].getD n [], order := fun n => [[], [(0, 0), (1, 0), (2, 0), (3, 0), (4, 0), (5, 0), (6, 48), (7, 112), (8, 0), (9, 0), (10, 768), (11, 1792), (12, 4083), (13, 8179), (14, 16383), (15, 32767)], [], [(0, 0), (1, 0), (2, 3), (3, 7), (4, 15), (5, 15), (6, 63), (7, 127), (8, 15), (9, 15), (10, 783), (11, 1807), (12, 4095), (13, 8191), (14, 16383)], [], [(0, 0), (1, 0), (2, 3), (3, 7), (4, 15), (5, 15), (6, 63), (7, 127), (8, 15), (9, 15), (10, 783), (11, 1807), (12, 4095), (13, 8191)], [], [], [(0, 0), (1, 0), (2, 0), (3, 0), (4, 0), (5, 0), (6, 48), (7, 112), (8, 0), (9, 0), (10, 768), (11, 1792), (12, 4083), (13, 8179), (14, 16383), (15, 32767)]].getD n [] }
def pl.f55 (c : CallT) (Q : Value → AH → Prop) : Plan := [
  (1924, fun S T H => F.f55_l3 (sy c) Q (S 1) (T 0) (T 1) (T 9) (T 10) H (S 0)),
  (960, fun S T H => F.f55_l2 (sy c) Q (S 1) (T 0) (T 1) (T 9) (T 10) H (S 0)),
  (60, fun S T H => F.f55_l1 (sy c) Q (T 0) (T 1) (T 9) (T 10) H (S 0))]
theorem L.f55 (c : CallT) (x0 x1 x2 x3 : Value) (H : AH) (Q : Value → AH → Prop) (h : F.f55 (sy c) x0 x1 x2 x3 H Q) : evBody Tryd.prog c kp.f55 Tryd.f107 [x0, x1, x2, x3] H Q :=
  evBody_of (pl := pl.f55 c Q) Tryd.f107 _ H Q (bodyOf Tryd.f107) (by kernel_rfl) (by kernel_rfl) (by kernel_rfl) h

def kp.f56 : Keep := { keep := fun n => [[0, 1, 2, 3], [0, 1, 2, 3], [0, 1, 2], [0, 1, 10, 11], [0, 1, 10, 11], [0, 1, 10, 11], [0, 1, 10, 11], [0, 1, 10, 11], [0, 1, 11], [11], [0, 1, 10, 11], [0, 1, 10, 11], [0, 1, 10, 11], [0, 1, 10, 11], [0, 1, 10, 11], [0, 1, 10, 11], [0, 1, 10, 11], [0, 1, 10, 11], [0, 1, 10, 11], [0, 1, 10, 11], [0, 1, 10, 11], [0, 1, 11], [11]].getD n [], order := fun n => [[], [(0, 0), (1, 0), (2, 0), (3, 0), (4, 0), (5, 0), (6, 48), (7, 112), (8, 0), (9, 0), (10, 768), (11, 1792), (12, 4083), (13, 8179), (14, 16383), (15, 32767)], [], [(0, 0), (1, 0), (2, 3), (3, 7), (4, 15), (5, 15), (6, 63), (7, 127), (8, 15), (9, 15), (10, 783), (11, 1807), (12, 4095), (13, 8191)], [], [(0, 0), (1, 0), (2, 3), (3, 7), (4, 15), (5, 15), (6, 63), (7, 127), (8, 15), (9, 15), (10, 783), (11, 1807), (12, 4095), (13, 8191), (14, 16383)], [], [], [(0, 0), (1, 0), (2, 0), (3, 0), (4, 0), (5, 0), (6, 48), (7, 112), (8, 0), (9, 0), (10, 768), (11, 1792), (12, 4083), (13, 8179), (14, 16383), (15, 32767)], [], [(0, 0), (1, 0), (2, 0), (3, 0), (4, 0), (5, 0), (6, 48), (7, 112), (8, 0), (9, 0), (10, 768), (11, 1792), (12, 4083), (13, 8179), (14, 16383), (15, 32767)], [], [], [(0, 0), (1, 0), (2, 3), (3, 7), (4, 15), (5, 15), (6, 63), (7, 127), (8, 15), (9, 15), (10, 783), (11, 1807), (12, 4095), (13, 8191)], [], [(0, 0), (1, 0), (2, 3), (3, 7), (4, 15), (5, 15), (6, 63), (7, 127), (8, 15), (9, 15), (10, 783), (11, 1807), (12, 4095), (13, 8191), (14, 16383)], [], [], [(0, 0), (1, 0), (2, 0), (3, 0), (4, 0), (5, 0), (6, 48), (7, 112), (8, 0), (9, 0), (10, 768), (11, 1792), (12, 4083), (13, 8179), (14, 16383), (15, 32767)], [], [], [(0, 0), (1, 0), (2, 0), (3, 0), (4, 0), (5, 0), (6, 48), (7, 112), (8, 0), (9, 0), (10, 768), (11, 1792), (12, 4083), (13, 8179), (14, 16383), (15, 32767)]].getD n [] }
def pl.f56 (c : CallT) (Q : Value → AH → Prop) : Plan := [
  (130948, fun S T H => F.f56_l5 (sy c) Q (S 1) (T 0) (T 1) (T 10) (T 11) H (S 0)),
  (65472, fun S T H => F.f56_l4 (sy c) Q (S 1) (T 0) (T 1) (T 10) (T 11) H (S 0)),
  (4092, fun S T H => F.f56_l3 (sy c) Q (T 0) (T 1) (T 10) (T 11) H (S 0)),
  (124, fun S T H => F.f56_l2 (sy c) Q (T 0) (T 1) (T 10) (T 11) H (S 0)),
  (60, fun S T H => F.f56_l1 (sy c) Q (T 0) (T 1) (T 10) (T 11) H (S 0))]
theorem L.f56 (c : CallT) (x0 x1 x2 x3 : Value) (H : AH) (Q : Value → AH → Prop) (h : F.f56 (sy c) x0 x1 x2 x3 H Q) : evBody Tryd.prog c kp.f56 Tryd.f108 [x0, x1, x2, x3] H Q :=
  evBody_of (pl := pl.f56 c Q) Tryd.f108 _ H Q (bodyOf Tryd.f108) (by kernel_rfl) (by kernel_rfl) (by kernel_rfl) h

def kp.f64 : Keep := { keep := fun n => [[0, 1], [0, 1]].getD n [], order := fun n => [].getD n [] }
theorem L.f64 (c : CallT) (x0 x1 : Value) (H : AH) (Q : Value → AH → Prop) (h : F.f64 (sy c) x0 x1 H Q) : evBody Tryd.prog c kp.f64 Tryd.f96 [x0, x1] H Q :=
  evBody_of (pl := []) Tryd.f96 _ H Q (bodyOf Tryd.f96) (by kernel_rfl) (by kernel_rfl) (by kernel_rfl) h

def kp.f3 : Keep := { keep := fun n => [[0], [0]].getD n [], order := fun n => [].getD n [] }
theorem L.f3 (c : CallT) (x0 : Value) (H : AH) (Q : Value → AH → Prop) (h : F.f3 (sy c) x0 H Q) : evBody Tryd.prog c kp.f3 Tryd.f97 [x0] H Q :=
  evBody_of (pl := []) Tryd.f97 _ H Q (bodyOf Tryd.f97) (by kernel_rfl) (by kernel_rfl) (by kernel_rfl) h

def kp.f27 : Keep := { keep := fun n => [[0, 1], [1, 2]].getD n [], order := fun n => [].getD n [] }
theorem L.f27 (c : CallT) (x0 x1 : Value) (H : AH) (Q : Value → AH → Prop) (h : F.f27 (sy c) x0 x1 H Q) : evBody Tryd.prog c kp.f27 Tryd.f116 [x0, x1] H Q :=
  evBody_of (pl := []) Tryd.f116 _ H Q (bodyOf Tryd.f116) (by kernel_rfl) (by kernel_rfl) (by kernel_rfl) h

def kp.f44 : Keep := { keep := fun n => [[0, 1], [0, 1], [0, 1, 7, 8], [0, 1, 7, 8], [0, 1, 5, 7, 8], [5], [0, 1, 7, 8], []].getD n [], order := fun n => [].getD n [] }
def pl.f44 (c : CallT) (Q : Value → AH → Prop) : Plan := [
  (26, fun S T H => F.f44_l1 (sy c) Q (T 0) (T 1) (T 7) (T 8) H (S 0))]
theorem L.f44 (c : CallT) (x0 x1 : Value) (H : AH) (Q : Value → AH → Prop) (h : F.f44 (sy c) x0 x1 H Q) : evBody Tryd.prog c kp.f44 Tryd.f115 [x0, x1] H Q :=
  evBody_of (pl := pl.f44 c Q) Tryd.f115 _ H Q (bodyOf Tryd.f115) (by kernel_rfl) (by kernel_rfl) (by kernel_rfl) h

def kp.f65 : Keep := { keep := fun n => [[0, 1], [0, 1]].getD n [], order := fun n => [].getD n [] }
theorem L.f65 (c : CallT) (x0 x1 : Value) (H : AH) (Q : Value → AH → Prop) (h : F.f65 (sy c) x0 x1 H Q) : evBody Tryd.prog c kp.f65 Tryd.f117 [x0, x1] H Q :=
  evBody_of (pl := []) Tryd.f117 _ H Q (bodyOf Tryd.f117) (by kernel_rfl) (by kernel_rfl) (by kernel_rfl) h

def kp.f24 : Keep := { keep := fun n => [[0, 1], [0, 3, 4], [3, 4, 6, 7], [4], [4, 6]].getD n [], order := fun n => [].getD n [] }
theorem L.f24 (c : CallT) (x0 x1 : Value) (H : AH) (Q : Value → AH → Prop) (h : F.f24 (sy c) x0 x1 H Q) : evBody Tryd.prog c kp.f24 Tryd.f99 [x0, x1] H Q :=
  evBody_of (pl := []) Tryd.f99 _ H Q (bodyOf Tryd.f99) (by kernel_rfl) (by kernel_rfl) (by kernel_rfl) h

def kp.f28 : Keep := { keep := fun n => [[0, 1], [0, 3], [], [0, 3]].getD n [], order := fun n => [].getD n [] }
theorem L.f28 (c : CallT) (x0 x1 : Value) (H : AH) (Q : Value → AH → Prop) (h : F.f28 (sy c) x0 x1 H Q) : evBody Tryd.prog c kp.f28 Tryd.f95 [x0, x1] H Q :=
  evBody_of (pl := []) Tryd.f95 _ H Q (bodyOf Tryd.f95) (by kernel_rfl) (by kernel_rfl) (by kernel_rfl) h

def kp.f59 : Keep := { keep := fun n => [[0, 1, 2, 3], [0, 2, 3, 8], [0, 2, 3, 8, 9], [0, 2, 3, 8, 9], [0, 2, 3, 8, 9], [0, 2, 3, 8, 9], [0, 2, 3, 8, 9], [0, 2, 3, 9]].getD n [], order := fun n => [[], [], [], [(0, 0), (1, 1), (2, 0), (3, 7), (4, 15), (5, 31), (6, 31), (7, 31), (8, 223), (9, 511), (10, 1023), (11, 31), (12, 31), (13, 31), (14, 12319), (15, 28703), (16, 63519), (17, 129055), (18, 262143), (19, 524287)], [], [(0, 0), (1, 0), (2, 0), (3, 6), (4, 15), (5, 31), (6, 0), (7, 0), (8, 0), (9, 384), (10, 960), (11, 1984), (12, 4095), (13, 8191)], [(0, 0), (1, 0), (2, 0), (3, 6), (4, 0), (5, 0), (6, 0), (7, 96), (8, 0), (9, 0), (10, 0), (11, 1536), (12, 3840), (13, 7936), (14, 0), (15, 0), (16, 0), (17, 98304), (18, 245760), (19, 507904), (20, 1048335), (21, 2096911), (22, 4194303), (23, 8388607)]].getD n [] }
def pl.f59 (c : CallT) (Q : Value → AH → Prop) : Plan := [
  (199, fun S T H => F.f59_j1 (sy c) Q (S 0) (T 0) (T 2) (T 3) (T 8) (T 9) H),
  (6, fun S T H => F.f59_l1 (sy c) Q (T 0) (T 2) (T 3) (T 8) H (S 0))]
theorem L.f59 (c : CallT) (x0 x1 x2 x3 : Value) (H : AH) (Q : Value → AH → Prop) (h : F.f59 (sy c) x0 x1 x2 x3 H Q) : evBody Tryd.prog c kp.f59 Tryd.f121 [x0, x1, x2, x3] H Q :=
  evBody_of (pl := pl.f59 c Q) Tryd.f121 _ H Q (bodyOf Tryd.f121) (by kernel_rfl) (by kernel_rfl) (by kernel_rfl) h

def kp.f52 : Keep := { keep := fun n => [[0], [0]].getD n [], order := fun n => [].getD n [] }
theorem L.f52 (c : CallT) (x0 : Value) (H : AH) (Q : Value → AH → Prop) (h : F.f52 (sy c) x0 H Q) : evBody Tryd.prog c kp.f52 Tryd.f122 [x0] H Q :=
  evBody_of (pl := []) Tryd.f122 _ H Q (bodyOf Tryd.f122) (by kernel_rfl) (by kernel_rfl) (by kernel_rfl) h

def kp.f60 : Keep := { keep := fun n => [[0], [0], [0], [0], [0]].getD n [], order := fun n => [[], [(0, 0), (1, 1), (2, 3), (3, 0), (4, 8), (5, 24), (6, 56), (7, 127), (8, 255), (9, 511)], [(0, 0), (1, 1), (2, 3), (3, 0), (4, 8), (5, 24), (6, 56), (7, 127), (8, 255), (9, 511)], [(0, 0), (1, 1), (2, 3), (3, 0), (4, 8), (5, 24), (6, 56), (7, 127), (8, 255), (9, 511)]].getD n [] }
theorem L.f60 (c : CallT) (x0 : Value) (H : AH) (Q : Value → AH → Prop) (h : F.f60 (sy c) x0 H Q) : evBody Tryd.prog c kp.f60 Tryd.f123 [x0] H Q :=
  evBody_of (pl := []) Tryd.f123 _ H Q (bodyOf Tryd.f123) (by kernel_rfl) (by kernel_rfl) (by kernel_rfl) h

def kp.f50 : Keep := { keep := fun n => [[0, 1, 2], [0, 1, 2]].getD n [], order := fun n => [].getD n [] }
theorem L.f50 (c : CallT) (x0 x1 x2 : Value) (H : AH) (Q : Value → AH → Prop) (h : F.f50 (sy c) x0 x1 x2 H Q) : evBody Tryd.prog c kp.f50 Tryd.f124 [x0, x1, x2] H Q :=
  evBody_of (pl := []) Tryd.f124 _ H Q (bodyOf Tryd.f124) (by kernel_rfl) (by kernel_rfl) (by kernel_rfl) h

def kp.f51 : Keep := { keep := fun n => [[0, 1, 2, 3, 4], [0, 1, 2, 3, 4], [0, 1, 2, 3, 4], [0, 1, 2, 4], [2]].getD n [], order := fun n => [].getD n [] }
theorem L.f51 (c : CallT) (x0 x1 x2 x3 x4 : Value) (H : AH) (Q : Value → AH → Prop) (h : F.f51 (sy c) x0 x1 x2 x3 x4 H Q) : evBody Tryd.prog c kp.f51 Tryd.f125 [x0, x1, x2, x3, x4] H Q :=
  evBody_of (pl := []) Tryd.f125 _ H Q (bodyOf Tryd.f125) (by kernel_rfl) (by kernel_rfl) (by kernel_rfl) h

def kp.f1 : Keep := { keep := fun n => [[0], [0]].getD n [], order := fun n => [].getD n [] }
theorem L.f1 (c : CallT) (x0 : Value) (H : AH) (Q : Value → AH → Prop) (h : F.f1 (sy c) x0 H Q) : evBody Tryd.prog c kp.f1 Tryd.f126 [x0] H Q :=
  evBody_of (pl := []) Tryd.f126 _ H Q (bodyOf Tryd.f126) (by kernel_rfl) (by kernel_rfl) (by kernel_rfl) h

def kp.f68 : Keep := { keep := fun n => [[0, 1, 2], [0, 1, 2], [1, 2, 10], [1, 2, 10, 11], [1, 2, 7, 8, 10], [7], []].getD n [], order := fun n => [].getD n [] }
def pl.f68 (c : CallT) (Q : Value → AH → Prop) : Plan := [
  (26, fun S T H => F.f68_l1 (sy c) Q (T 1) (T 2) (T 10) H (S 0))]
theorem L.f68 (c : CallT) (x0 x1 x2 : Value) (H : AH) (Q : Value → AH → Prop) (h : F.f68 (sy c) x0 x1 x2 H Q) : evBody Tryd.prog c kp.f68 Tryd.f120 [x0, x1, x2] H Q :=
  evBody_of (pl := pl.f68 c Q) Tryd.f120 _ H Q (bodyOf Tryd.f120) (by kernel_rfl) (by kernel_rfl) (by kernel_rfl) h

def kp.f67 : Keep := { keep := fun n => [[0, 1, 2, 3], [0, 1, 2, 3], [], [0, 1, 2, 3], [0, 3], [0, 1, 2, 3], [0, 1, 2], [0, 1, 2, 3], [0, 1, 2, 3], [0, 1, 2, 3, 9], [0, 1, 2, 3, 9], [0, 1, 2, 3, 9, 10], [0, 1, 2, 3, 9, 10], [0, 1, 2, 3, 9, 10, 11], [0, 1, 2, 3, 9, 10, 11], [0, 1, 2, 3, 9, 10, 11], [0, 1, 2, 3, 9, 10], [0, 9, 10], [9, 10]].getD n [], order := fun n => [].getD n [] }
def pl.f67 (c : CallT) (Q : Value → AH → Prop) : Plan := [
  (1023, fun S T H => F.f67_j2 (sy c) Q (T 0) (T 9) (T 10) H),
  (2044, fun S T H => F.f67_l1 (sy c) Q (T 0) (T 1) (T 2) (T 3) (T 9) (T 10) H (S 0)),
  (31, fun S T H => F.f67_j1 (sy c) Q (T 0) (T 1) (T 2) (T 3) H)]
theorem L.f67 (c : CallT) (x0 x1 x2 x3 : Value) (H : AH) (Q : Value → AH → Prop) (h : F.f67 (sy c) x0 x1 x2 x3 H Q) : evBody Tryd.prog c kp.f67 Tryd.f130 [x0, x1, x2, x3] H Q :=
  evBody_of (pl := pl.f67 c Q) Tryd.f130 _ H Q (bodyOf Tryd.f130) (by kernel_rfl) (by kernel_rfl) (by kernel_rfl) h

def kp.f29 : Keep := { keep := fun n => [[0, 1], [1, 2]].getD n [], order := fun n => [].getD n [] }
theorem L.f29 (c : CallT) (x0 x1 : Value) (H : AH) (Q : Value → AH → Prop) (h : F.f29 (sy c) x0 x1 H Q) : evBody Tryd.prog c kp.f29 Tryd.f119 [x0, x1] H Q :=
  evBody_of (pl := []) Tryd.f119 _ H Q (bodyOf Tryd.f119) (by kernel_rfl) (by kernel_rfl) (by kernel_rfl) h

def kp.f53 : Keep := { keep := fun n => [[0, 1, 2, 3], [0, 1, 2, 3], [1, 2, 3], [1, 2], [1, 2]].getD n [], order := fun n => [[], [(0, 0), (1, 0), (2, 3), (3, 7), (4, 0), (5, 0), (6, 48), (7, 112), (8, 255)]].getD n [] }
theorem L.f53 (c : CallT) (x0 x1 x2 x3 : Value) (H : AH) (Q : Value → AH → Prop) (h : F.f53 (sy c) x0 x1 x2 x3 H Q) : evBody Tryd.prog c kp.f53 Tryd.f131 [x0, x1, x2, x3] H Q :=
  evBody_of (pl := []) Tryd.f131 _ H Q (bodyOf Tryd.f131) (by kernel_rfl) (by kernel_rfl) (by kernel_rfl) h

def kp.f61 : Keep := { keep := fun n => [[0, 1], [0, 1], [0], [0, 1], [0, 1], [0, 1], [0, 1, 5], [0, 1, 5, 6], [5], [0, 1, 5, 6], [0, 1, 5, 6]].getD n [], order := fun n => [].getD n [] }
def pl.f61 (c : CallT) (Q : Value → AH → Prop) : Plan := [
  (62, fun S T H => F.f61_l1 (sy c) Q (T 0) (T 1) (T 5) H (S 0))]
theorem L.f61 (c : CallT) (x0 x1 : Value) (H : AH) (Q : Value → AH → Prop) (h : F.f61 (sy c) x0 x1 H Q) : evBody Tryd.prog c kp.f61 Tryd.f136 [x0, x1] H Q :=
  evBody_of (pl := pl.f61 c Q) Tryd.f136 _ H Q (bodyOf Tryd.f136) (by kernel_rfl) (by kernel_rfl) (by kernel_rfl) h

def kp.f63 : Keep := { keep := fun n => [[0, 1], [0, 1]].getD n [], order := fun n => [].getD n [] }
theorem L.f63 (c : CallT) (x0 x1 : Value) (H : AH) (Q : Value → AH → Prop) (h : F.f63 (sy c) x0 x1 H Q) : evBody Tryd.prog c kp.f63 Tryd.f137 [x0, x1] H Q :=
  evBody_of (pl := []) Tryd.f137 _ H Q (bodyOf Tryd.f137) (by kernel_rfl) (by kernel_rfl) (by kernel_rfl) h

def kp.f18 : Keep := { keep := fun n => [[0, 1], [0, 1], [0, 1, 5], [], [0, 1, 5], [0, 1], [0, 1, 5], [], [0, 1, 5], [0, 1], [0, 1, 5], [0, 1, 5, 6], [0, 1, 5, 6, 7], [0, 1, 5, 6, 7, 8], [0, 1, 5, 6, 7, 8, 9], [0, 1, 5, 6, 7, 8, 9, 10], [0, 1, 5, 6, 7, 8, 9, 10], [0, 1, 5, 6, 7, 8, 9, 10], [0, 1, 5, 6, 7, 8, 9, 10, 11], [], [0, 1, 5, 6, 7, 8, 9, 10, 11], [0, 1, 5, 6, 7, 8, 9, 10], [8], [0, 1, 5, 6, 7, 8, 9, 10], [0, 1, 5, 6, 7, 8, 9, 10], [0, 1, 5, 6, 7, 8, 9, 10], [0, 1, 8], [8, 12], [8, 12], [], [0, 1, 5, 6, 7, 8, 9, 10], [0, 1, 8], [8, 13], [], [8, 13], []].getD n [], order := fun n => [].getD n [] }
def pl.f18 (c : CallT) (Q : Value → AH → Prop) : Plan := [
  (32709, fun S T H => F.f18_j1 (sy c) Q (S 0) (T 0) (T 1) (T 5) (T 6) (T 7) (T 8) (T 9) (T 10) H),
  (2044, fun S T H => F.f18_l1 (sy c) Q (T 0) (T 1) (T 5) (T 6) (T 7) (T 8) (T 9) (T 10) H (S 0))]
theorem L.f18 (c : CallT) (x0 x1 : Value) (H : AH) (Q : Value → AH → Prop) (h : F.f18 (sy c) x0 x1 H Q) : evBody Tryd.prog c kp.f18 Tryd.f150 [x0, x1] H Q :=
  evBody_of (pl := pl.f18 c Q) Tryd.f150 _ H Q (bodyOf Tryd.f150) (by kernel_rfl) (by kernel_rfl) (by kernel_rfl) h

def kp.f19 : Keep := { keep := fun n => [[0, 1], [0, 1]].getD n [], order := fun n => [].getD n [] }
theorem L.f19 (c : CallT) (x0 x1 : Value) (H : AH) (Q : Value → AH → Prop) (h : F.f19 (sy c) x0 x1 H Q) : evBody Tryd.prog c kp.f19 Tryd.f156 [x0, x1] H Q :=
  evBody_of (pl := []) Tryd.f156 _ H Q (bodyOf Tryd.f156) (by kernel_rfl) (by kernel_rfl) (by kernel_rfl) h

def kpL : List (Nat × Keep) := [(5, kp.f32), (9, kp.f31), (12, kp.f72), (20, kp.f40), (13, kp.f30), (11, kp.f34), (21, kp.f41), (22, kp.f39), (23, kp.f36), (24, kp.f38), (25, kp.f37), (14, kp.f42), (26, kp.f35), (29, kp.f8), (50, kp.f4), (51, kp.f23), (30, kp.f74), (48, kp.f5), (49, kp.f33), (54, kp.f45), (55, kp.f43), (57, kp.f11), (58, kp.f9), (59, kp.f70), (60, kp.f76), (61, kp.f62), (62, kp.f80), (63, kp.f73), (80, kp.f20), (79, kp.f57), (83, kp.f10), (72, kp.f2), (85, kp.f77), (86, kp.f26), (87, kp.f78), (88, kp.f17), (89, kp.f75), (65, kp.f7), (90, kp.f79), (91, kp.f25), (110, kp.f22), (100, kp.f49), (101, kp.f48), (102, kp.f46), (103, kp.f47), (104, kp.f58), (105, kp.f54), (106, kp.f0), (107, kp.f55), (108, kp.f56), (96, kp.f64), (97, kp.f3), (116, kp.f27), (115, kp.f44), (117, kp.f65), (99, kp.f24), (95, kp.f28), (121, kp.f59), (122, kp.f52), (123, kp.f60), (124, kp.f50), (125, kp.f51), (126, kp.f1), (120, kp.f68), (130, kp.f67), (119, kp.f29), (131, kp.f53), (136, kp.f61), (137, kp.f63), (150, kp.f18), (156, kp.f19)]
def kps (f : FuncId) : Keep := ((kpL.find? (fun p => p.1 == f)).map (fun p => p.2)).getD { keep := fun _ => [], order := fun _ => [] }
def ext : CallT := fun f args H K => (f = 84 ∧ ∃ x0 x1, args = [x0, x1] ∧ atomicAdd x0 x1 H K) ∨ (f = 149 ∧ ∃ x0 x1, args = [x0, x1] ∧ byteCount x0 x1 H K) ∨ (f = 161 ∧ ∃ x0 x1, args = [x0, x1] ∧ byteIndex x0 x1 H K) ∨ False
theorem extOk : CallOk Tryd.prog ext := by
  rintro f args H K (⟨rfl, h⟩ | ⟨rfl, h⟩ | ⟨rfl, h⟩ | h)
  · exact atomicAdd_told Tryd.func84 (by kernel_rfl) (by kernel_rfl) (by kernel_rfl) (by kernel_rfl) h
  · exact byteCount_told Tryd.func149 (by kernel_rfl) (by kernel_rfl) (by kernel_rfl) (by kernel_rfl) h
  · exact byteIndex_told Tryd.func161 (by kernel_rfl) (by kernel_rfl) (by kernel_rfl) (by kernel_rfl) h
  · exact h.elim
theorem fold_f32 (x0 x1 x2 x3 : Value) (H : AH) (Q : Value → AH → Prop) (h : F.f32 (sy (CallW Tryd.prog kps ext)) x0 x1 x2 x3 H Q) : CallW Tryd.prog kps ext 5 [x0, x1, x2, x3] H Q :=
  CallW.fold (⟨Tryd.func5, by kernel_rfl, by kernel_rfl, by kernel_rfl⟩ : Go.AM.Good Tryd.prog 5 Tryd.f5) (Eq.mpr (by kernel_rfl : evBody Tryd.prog (CallW Tryd.prog kps ext) (kps 5) Tryd.f5 [x0, x1, x2, x3] H Q = evBody Tryd.prog (CallW Tryd.prog kps ext) kp.f32 Tryd.f5 [x0, x1, x2, x3] H Q) (L.f32 (CallW Tryd.prog kps ext) x0 x1 x2 x3 H Q h))
theorem fold_f31 (H : AH) (Q : Value → AH → Prop) (h : F.f31 (sy (CallW Tryd.prog kps ext)) H Q) : CallW Tryd.prog kps ext 9 [] H Q :=
  CallW.fold (⟨Tryd.func9, by kernel_rfl, by kernel_rfl, by kernel_rfl⟩ : Go.AM.Good Tryd.prog 9 Tryd.f9) (Eq.mpr (by kernel_rfl : evBody Tryd.prog (CallW Tryd.prog kps ext) (kps 9) Tryd.f9 [] H Q = evBody Tryd.prog (CallW Tryd.prog kps ext) kp.f31 Tryd.f9 [] H Q) (L.f31 (CallW Tryd.prog kps ext) H Q h))
theorem fold_f72 (x0 : Value) (H : AH) (Q : Value → AH → Prop) (h : F.f72 (sy (CallW Tryd.prog kps ext)) x0 H Q) : CallW Tryd.prog kps ext 12 [x0] H Q :=
  CallW.fold (⟨Tryd.func12, by kernel_rfl, by kernel_rfl, by kernel_rfl⟩ : Go.AM.Good Tryd.prog 12 Tryd.f12) (Eq.mpr (by kernel_rfl : evBody Tryd.prog (CallW Tryd.prog kps ext) (kps 12) Tryd.f12 [x0] H Q = evBody Tryd.prog (CallW Tryd.prog kps ext) kp.f72 Tryd.f12 [x0] H Q) (L.f72 (CallW Tryd.prog kps ext) x0 H Q h))
theorem fold_f40 (x0 x1 x2 : Value) (H : AH) (Q : Value → AH → Prop) (h : F.f40 (sy (CallW Tryd.prog kps ext)) x0 x1 x2 H Q) : CallW Tryd.prog kps ext 20 [x0, x1, x2] H Q :=
  CallW.fold (⟨Tryd.func20, by kernel_rfl, by kernel_rfl, by kernel_rfl⟩ : Go.AM.Good Tryd.prog 20 Tryd.f20) (Eq.mpr (by kernel_rfl : evBody Tryd.prog (CallW Tryd.prog kps ext) (kps 20) Tryd.f20 [x0, x1, x2] H Q = evBody Tryd.prog (CallW Tryd.prog kps ext) kp.f40 Tryd.f20 [x0, x1, x2] H Q) (L.f40 (CallW Tryd.prog kps ext) x0 x1 x2 H Q h))
theorem fold_f30 (H : AH) (Q : Value → AH → Prop) (h : F.f30 (sy (CallW Tryd.prog kps ext)) H Q) : CallW Tryd.prog kps ext 13 [] H Q :=
  CallW.fold (⟨Tryd.func13, by kernel_rfl, by kernel_rfl, by kernel_rfl⟩ : Go.AM.Good Tryd.prog 13 Tryd.f13) (Eq.mpr (by kernel_rfl : evBody Tryd.prog (CallW Tryd.prog kps ext) (kps 13) Tryd.f13 [] H Q = evBody Tryd.prog (CallW Tryd.prog kps ext) kp.f30 Tryd.f13 [] H Q) (L.f30 (CallW Tryd.prog kps ext) H Q h))
theorem fold_f34 (x0 x1 x2 : Value) (H : AH) (Q : Value → AH → Prop) (h : F.f34 (sy (CallW Tryd.prog kps ext)) x0 x1 x2 H Q) : CallW Tryd.prog kps ext 11 [x0, x1, x2] H Q :=
  CallW.fold (⟨Tryd.func11, by kernel_rfl, by kernel_rfl, by kernel_rfl⟩ : Go.AM.Good Tryd.prog 11 Tryd.f11) (Eq.mpr (by kernel_rfl : evBody Tryd.prog (CallW Tryd.prog kps ext) (kps 11) Tryd.f11 [x0, x1, x2] H Q = evBody Tryd.prog (CallW Tryd.prog kps ext) kp.f34 Tryd.f11 [x0, x1, x2] H Q) (L.f34 (CallW Tryd.prog kps ext) x0 x1 x2 H Q h))
theorem fold_f41 (x0 : Value) (H : AH) (Q : Value → AH → Prop) (h : F.f41 (sy (CallW Tryd.prog kps ext)) x0 H Q) : CallW Tryd.prog kps ext 21 [x0] H Q :=
  CallW.fold (⟨Tryd.func21, by kernel_rfl, by kernel_rfl, by kernel_rfl⟩ : Go.AM.Good Tryd.prog 21 Tryd.f21) (Eq.mpr (by kernel_rfl : evBody Tryd.prog (CallW Tryd.prog kps ext) (kps 21) Tryd.f21 [x0] H Q = evBody Tryd.prog (CallW Tryd.prog kps ext) kp.f41 Tryd.f21 [x0] H Q) (L.f41 (CallW Tryd.prog kps ext) x0 H Q h))
theorem fold_f39 (x0 : Value) (H : AH) (Q : Value → AH → Prop) (h : F.f39 (sy (CallW Tryd.prog kps ext)) x0 H Q) : CallW Tryd.prog kps ext 22 [x0] H Q :=
  CallW.fold (⟨Tryd.func22, by kernel_rfl, by kernel_rfl, by kernel_rfl⟩ : Go.AM.Good Tryd.prog 22 Tryd.f22) (Eq.mpr (by kernel_rfl : evBody Tryd.prog (CallW Tryd.prog kps ext) (kps 22) Tryd.f22 [x0] H Q = evBody Tryd.prog (CallW Tryd.prog kps ext) kp.f39 Tryd.f22 [x0] H Q) (L.f39 (CallW Tryd.prog kps ext) x0 H Q h))
theorem fold_f36 (x0 x1 : Value) (H : AH) (Q : Value → AH → Prop) (h : F.f36 (sy (CallW Tryd.prog kps ext)) x0 x1 H Q) : CallW Tryd.prog kps ext 23 [x0, x1] H Q :=
  CallW.fold (⟨Tryd.func23, by kernel_rfl, by kernel_rfl, by kernel_rfl⟩ : Go.AM.Good Tryd.prog 23 Tryd.f23) (Eq.mpr (by kernel_rfl : evBody Tryd.prog (CallW Tryd.prog kps ext) (kps 23) Tryd.f23 [x0, x1] H Q = evBody Tryd.prog (CallW Tryd.prog kps ext) kp.f36 Tryd.f23 [x0, x1] H Q) (L.f36 (CallW Tryd.prog kps ext) x0 x1 H Q h))
theorem fold_f38 (x0 x1 x2 : Value) (H : AH) (Q : Value → AH → Prop) (h : F.f38 (sy (CallW Tryd.prog kps ext)) x0 x1 x2 H Q) : CallW Tryd.prog kps ext 24 [x0, x1, x2] H Q :=
  CallW.fold (⟨Tryd.func24, by kernel_rfl, by kernel_rfl, by kernel_rfl⟩ : Go.AM.Good Tryd.prog 24 Tryd.f24) (Eq.mpr (by kernel_rfl : evBody Tryd.prog (CallW Tryd.prog kps ext) (kps 24) Tryd.f24 [x0, x1, x2] H Q = evBody Tryd.prog (CallW Tryd.prog kps ext) kp.f38 Tryd.f24 [x0, x1, x2] H Q) (L.f38 (CallW Tryd.prog kps ext) x0 x1 x2 H Q h))
theorem fold_f37 (x0 x1 x2 x3 : Value) (H : AH) (Q : Value → AH → Prop) (h : F.f37 (sy (CallW Tryd.prog kps ext)) x0 x1 x2 x3 H Q) : CallW Tryd.prog kps ext 25 [x0, x1, x2, x3] H Q :=
  CallW.fold (⟨Tryd.func25, by kernel_rfl, by kernel_rfl, by kernel_rfl⟩ : Go.AM.Good Tryd.prog 25 Tryd.f25) (Eq.mpr (by kernel_rfl : evBody Tryd.prog (CallW Tryd.prog kps ext) (kps 25) Tryd.f25 [x0, x1, x2, x3] H Q = evBody Tryd.prog (CallW Tryd.prog kps ext) kp.f37 Tryd.f25 [x0, x1, x2, x3] H Q) (L.f37 (CallW Tryd.prog kps ext) x0 x1 x2 x3 H Q h))
theorem fold_f42 (x0 x1 x2 : Value) (H : AH) (Q : Value → AH → Prop) (h : F.f42 (sy (CallW Tryd.prog kps ext)) x0 x1 x2 H Q) : CallW Tryd.prog kps ext 14 [x0, x1, x2] H Q :=
  CallW.fold (⟨Tryd.func14, by kernel_rfl, by kernel_rfl, by kernel_rfl⟩ : Go.AM.Good Tryd.prog 14 Tryd.f14) (Eq.mpr (by kernel_rfl : evBody Tryd.prog (CallW Tryd.prog kps ext) (kps 14) Tryd.f14 [x0, x1, x2] H Q = evBody Tryd.prog (CallW Tryd.prog kps ext) kp.f42 Tryd.f14 [x0, x1, x2] H Q) (L.f42 (CallW Tryd.prog kps ext) x0 x1 x2 H Q h))
theorem fold_f35 (x0 x1 : Value) (H : AH) (Q : Value → AH → Prop) (h : F.f35 (sy (CallW Tryd.prog kps ext)) x0 x1 H Q) : CallW Tryd.prog kps ext 26 [x0, x1] H Q :=
  CallW.fold (⟨Tryd.func26, by kernel_rfl, by kernel_rfl, by kernel_rfl⟩ : Go.AM.Good Tryd.prog 26 Tryd.f26) (Eq.mpr (by kernel_rfl : evBody Tryd.prog (CallW Tryd.prog kps ext) (kps 26) Tryd.f26 [x0, x1] H Q = evBody Tryd.prog (CallW Tryd.prog kps ext) kp.f35 Tryd.f26 [x0, x1] H Q) (L.f35 (CallW Tryd.prog kps ext) x0 x1 H Q h))
theorem fold_f8 (x0 x1 x2 x3 x4 : Value) (H : AH) (Q : Value → AH → Prop) (h : F.f8 (sy (CallW Tryd.prog kps ext)) x0 x1 x2 x3 x4 H Q) : CallW Tryd.prog kps ext 29 [x0, x1, x2, x3, x4] H Q :=
  CallW.fold (⟨Tryd.func29, by kernel_rfl, by kernel_rfl, by kernel_rfl⟩ : Go.AM.Good Tryd.prog 29 Tryd.f29) (Eq.mpr (by kernel_rfl : evBody Tryd.prog (CallW Tryd.prog kps ext) (kps 29) Tryd.f29 [x0, x1, x2, x3, x4] H Q = evBody Tryd.prog (CallW Tryd.prog kps ext) kp.f8 Tryd.f29 [x0, x1, x2, x3, x4] H Q) (L.f8 (CallW Tryd.prog kps ext) x0 x1 x2 x3 x4 H Q h))
theorem fold_f4 (x0 : Value) (H : AH) (Q : Value → AH → Prop) (h : F.f4 (sy (CallW Tryd.prog kps ext)) x0 H Q) : CallW Tryd.prog kps ext 50 [x0] H Q :=
  CallW.fold (⟨Tryd.func50, by kernel_rfl, by kernel_rfl, by kernel_rfl⟩ : Go.AM.Good Tryd.prog 50 Tryd.f50) (Eq.mpr (by kernel_rfl : evBody Tryd.prog (CallW Tryd.prog kps ext) (kps 50) Tryd.f50 [x0] H Q = evBody Tryd.prog (CallW Tryd.prog kps ext) kp.f4 Tryd.f50 [x0] H Q) (L.f4 (CallW Tryd.prog kps ext) x0 H Q h))
theorem fold_f23 (H : AH) (Q : Value → AH → Prop) (h : F.f23 (sy (CallW Tryd.prog kps ext)) H Q) : CallW Tryd.prog kps ext 51 [] H Q :=
  CallW.fold (⟨Tryd.func51, by kernel_rfl, by kernel_rfl, by kernel_rfl⟩ : Go.AM.Good Tryd.prog 51 Tryd.f51) (Eq.mpr (by kernel_rfl : evBody Tryd.prog (CallW Tryd.prog kps ext) (kps 51) Tryd.f51 [] H Q = evBody Tryd.prog (CallW Tryd.prog kps ext) kp.f23 Tryd.f51 [] H Q) (L.f23 (CallW Tryd.prog kps ext) H Q h))
theorem fold_f74 (x0 x1 x2 x3 : Value) (H : AH) (Q : Value → AH → Prop) (h : F.f74 (sy (CallW Tryd.prog kps ext)) x0 x1 x2 x3 H Q) : CallW Tryd.prog kps ext 30 [x0, x1, x2, x3] H Q :=
  CallW.fold (⟨Tryd.func30, by kernel_rfl, by kernel_rfl, by kernel_rfl⟩ : Go.AM.Good Tryd.prog 30 Tryd.f30) (Eq.mpr (by kernel_rfl : evBody Tryd.prog (CallW Tryd.prog kps ext) (kps 30) Tryd.f30 [x0, x1, x2, x3] H Q = evBody Tryd.prog (CallW Tryd.prog kps ext) kp.f74 Tryd.f30 [x0, x1, x2, x3] H Q) (L.f74 (CallW Tryd.prog kps ext) x0 x1 x2 x3 H Q h))
theorem fold_f5 (x0 x1 : Value) (H : AH) (Q : Value → AH → Prop) (h : F.f5 (sy (CallW Tryd.prog kps ext)) x0 x1 H Q) : CallW Tryd.prog kps ext 48 [x0, x1] H Q :=
  CallW.fold (⟨Tryd.func48, by kernel_rfl, by kernel_rfl, by kernel_rfl⟩ : Go.AM.Good Tryd.prog 48 Tryd.f48) (Eq.mpr (by kernel_rfl : evBody Tryd.prog (CallW Tryd.prog kps ext) (kps 48) Tryd.f48 [x0, x1] H Q = evBody Tryd.prog (CallW Tryd.prog kps ext) kp.f5 Tryd.f48 [x0, x1] H Q) (L.f5 (CallW Tryd.prog kps ext) x0 x1 H Q h))
theorem fold_f33 (x0 x1 : Value) (H : AH) (Q : Value → AH → Prop) (h : F.f33 (sy (CallW Tryd.prog kps ext)) x0 x1 H Q) : CallW Tryd.prog kps ext 49 [x0, x1] H Q :=
  CallW.fold (⟨Tryd.func49, by kernel_rfl, by kernel_rfl, by kernel_rfl⟩ : Go.AM.Good Tryd.prog 49 Tryd.f49) (Eq.mpr (by kernel_rfl : evBody Tryd.prog (CallW Tryd.prog kps ext) (kps 49) Tryd.f49 [x0, x1] H Q = evBody Tryd.prog (CallW Tryd.prog kps ext) kp.f33 Tryd.f49 [x0, x1] H Q) (L.f33 (CallW Tryd.prog kps ext) x0 x1 H Q h))
theorem fold_f45 (x0 : Value) (H : AH) (Q : Value → AH → Prop) (h : F.f45 (sy (CallW Tryd.prog kps ext)) x0 H Q) : CallW Tryd.prog kps ext 54 [x0] H Q :=
  CallW.fold (⟨Tryd.func54, by kernel_rfl, by kernel_rfl, by kernel_rfl⟩ : Go.AM.Good Tryd.prog 54 Tryd.f54) (Eq.mpr (by kernel_rfl : evBody Tryd.prog (CallW Tryd.prog kps ext) (kps 54) Tryd.f54 [x0] H Q = evBody Tryd.prog (CallW Tryd.prog kps ext) kp.f45 Tryd.f54 [x0] H Q) (L.f45 (CallW Tryd.prog kps ext) x0 H Q h))
theorem fold_f43 (x0 x1 : Value) (H : AH) (Q : Value → AH → Prop) (h : F.f43 (sy (CallW Tryd.prog kps ext)) x0 x1 H Q) : CallW Tryd.prog kps ext 55 [x0, x1] H Q :=
  CallW.fold (⟨Tryd.func55, by kernel_rfl, by kernel_rfl, by kernel_rfl⟩ : Go.AM.Good Tryd.prog 55 Tryd.f55) (Eq.mpr (by kernel_rfl : evBody Tryd.prog (CallW Tryd.prog kps ext) (kps 55) Tryd.f55 [x0, x1] H Q = evBody Tryd.prog (CallW Tryd.prog kps ext) kp.f43 Tryd.f55 [x0, x1] H Q) (L.f43 (CallW Tryd.prog kps ext) x0 x1 H Q h))
theorem fold_f11 (x0 x1 x2 : Value) (H : AH) (Q : Value → AH → Prop) (h : F.f11 (sy (CallW Tryd.prog kps ext)) x0 x1 x2 H Q) : CallW Tryd.prog kps ext 57 [x0, x1, x2] H Q :=
  CallW.fold (⟨Tryd.func57, by kernel_rfl, by kernel_rfl, by kernel_rfl⟩ : Go.AM.Good Tryd.prog 57 Tryd.f57) (Eq.mpr (by kernel_rfl : evBody Tryd.prog (CallW Tryd.prog kps ext) (kps 57) Tryd.f57 [x0, x1, x2] H Q = evBody Tryd.prog (CallW Tryd.prog kps ext) kp.f11 Tryd.f57 [x0, x1, x2] H Q) (L.f11 (CallW Tryd.prog kps ext) x0 x1 x2 H Q h))
theorem fold_f9 (x0 x1 : Value) (H : AH) (Q : Value → AH → Prop) (h : F.f9 (sy (CallW Tryd.prog kps ext)) x0 x1 H Q) : CallW Tryd.prog kps ext 58 [x0, x1] H Q :=
  CallW.fold (⟨Tryd.func58, by kernel_rfl, by kernel_rfl, by kernel_rfl⟩ : Go.AM.Good Tryd.prog 58 Tryd.f58) (Eq.mpr (by kernel_rfl : evBody Tryd.prog (CallW Tryd.prog kps ext) (kps 58) Tryd.f58 [x0, x1] H Q = evBody Tryd.prog (CallW Tryd.prog kps ext) kp.f9 Tryd.f58 [x0, x1] H Q) (L.f9 (CallW Tryd.prog kps ext) x0 x1 H Q h))
theorem fold_f70 (x0 x1 : Value) (H : AH) (Q : Value → AH → Prop) (h : F.f70 (sy (CallW Tryd.prog kps ext)) x0 x1 H Q) : CallW Tryd.prog kps ext 59 [x0, x1] H Q :=
  CallW.fold (⟨Tryd.func59, by kernel_rfl, by kernel_rfl, by kernel_rfl⟩ : Go.AM.Good Tryd.prog 59 Tryd.f59) (Eq.mpr (by kernel_rfl : evBody Tryd.prog (CallW Tryd.prog kps ext) (kps 59) Tryd.f59 [x0, x1] H Q = evBody Tryd.prog (CallW Tryd.prog kps ext) kp.f70 Tryd.f59 [x0, x1] H Q) (L.f70 (CallW Tryd.prog kps ext) x0 x1 H Q h))
theorem fold_f76 (x0 x1 x2 : Value) (H : AH) (Q : Value → AH → Prop) (h : F.f76 (sy (CallW Tryd.prog kps ext)) x0 x1 x2 H Q) : CallW Tryd.prog kps ext 60 [x0, x1, x2] H Q :=
  CallW.fold (⟨Tryd.func60, by kernel_rfl, by kernel_rfl, by kernel_rfl⟩ : Go.AM.Good Tryd.prog 60 Tryd.f60) (Eq.mpr (by kernel_rfl : evBody Tryd.prog (CallW Tryd.prog kps ext) (kps 60) Tryd.f60 [x0, x1, x2] H Q = evBody Tryd.prog (CallW Tryd.prog kps ext) kp.f76 Tryd.f60 [x0, x1, x2] H Q) (L.f76 (CallW Tryd.prog kps ext) x0 x1 x2 H Q h))
theorem fold_f62 (x0 x1 : Value) (H : AH) (Q : Value → AH → Prop) (h : F.f62 (sy (CallW Tryd.prog kps ext)) x0 x1 H Q) : CallW Tryd.prog kps ext 61 [x0, x1] H Q :=
  CallW.fold (⟨Tryd.func61, by kernel_rfl, by kernel_rfl, by kernel_rfl⟩ : Go.AM.Good Tryd.prog 61 Tryd.f61) (Eq.mpr (by kernel_rfl : evBody Tryd.prog (CallW Tryd.prog kps ext) (kps 61) Tryd.f61 [x0, x1] H Q = evBody Tryd.prog (CallW Tryd.prog kps ext) kp.f62 Tryd.f61 [x0, x1] H Q) (L.f62 (CallW Tryd.prog kps ext) x0 x1 H Q h))
theorem fold_f80 (x0 x1 : Value) (H : AH) (Q : Value → AH → Prop) (h : F.f80 (sy (CallW Tryd.prog kps ext)) x0 x1 H Q) : CallW Tryd.prog kps ext 62 [x0, x1] H Q :=
  CallW.fold (⟨Tryd.func62, by kernel_rfl, by kernel_rfl, by kernel_rfl⟩ : Go.AM.Good Tryd.prog 62 Tryd.f62) (Eq.mpr (by kernel_rfl : evBody Tryd.prog (CallW Tryd.prog kps ext) (kps 62) Tryd.f62 [x0, x1] H Q = evBody Tryd.prog (CallW Tryd.prog kps ext) kp.f80 Tryd.f62 [x0, x1] H Q) (L.f80 (CallW Tryd.prog kps ext) x0 x1 H Q h))
theorem fold_f73 (x0 x1 : Value) (H : AH) (Q : Value → AH → Prop) (h : F.f73 (sy (CallW Tryd.prog kps ext)) x0 x1 H Q) : CallW Tryd.prog kps ext 63 [x0, x1] H Q :=
  CallW.fold (⟨Tryd.func63, by kernel_rfl, by kernel_rfl, by kernel_rfl⟩ : Go.AM.Good Tryd.prog 63 Tryd.f63) (Eq.mpr (by kernel_rfl : evBody Tryd.prog (CallW Tryd.prog kps ext) (kps 63) Tryd.f63 [x0, x1] H Q = evBody Tryd.prog (CallW Tryd.prog kps ext) kp.f73 Tryd.f63 [x0, x1] H Q) (L.f73 (CallW Tryd.prog kps ext) x0 x1 H Q h))
theorem fold_f20 (x0 : Value) (H : AH) (Q : Value → AH → Prop) (h : F.f20 (sy (CallW Tryd.prog kps ext)) x0 H Q) : CallW Tryd.prog kps ext 80 [x0] H Q :=
  CallW.fold (⟨Tryd.func80, by kernel_rfl, by kernel_rfl, by kernel_rfl⟩ : Go.AM.Good Tryd.prog 80 Tryd.f80) (Eq.mpr (by kernel_rfl : evBody Tryd.prog (CallW Tryd.prog kps ext) (kps 80) Tryd.f80 [x0] H Q = evBody Tryd.prog (CallW Tryd.prog kps ext) kp.f20 Tryd.f80 [x0] H Q) (L.f20 (CallW Tryd.prog kps ext) x0 H Q h))
theorem fold_f57 (x0 x1 x2 x3 : Value) (H : AH) (Q : Value → AH → Prop) (h : F.f57 (sy (CallW Tryd.prog kps ext)) x0 x1 x2 x3 H Q) : CallW Tryd.prog kps ext 79 [x0, x1, x2, x3] H Q :=
  CallW.fold (⟨Tryd.func79, by kernel_rfl, by kernel_rfl, by kernel_rfl⟩ : Go.AM.Good Tryd.prog 79 Tryd.f79) (Eq.mpr (by kernel_rfl : evBody Tryd.prog (CallW Tryd.prog kps ext) (kps 79) Tryd.f79 [x0, x1, x2, x3] H Q = evBody Tryd.prog (CallW Tryd.prog kps ext) kp.f57 Tryd.f79 [x0, x1, x2, x3] H Q) (L.f57 (CallW Tryd.prog kps ext) x0 x1 x2 x3 H Q h))
theorem fold_f10 (x0 x1 : Value) (H : AH) (Q : Value → AH → Prop) (h : F.f10 (sy (CallW Tryd.prog kps ext)) x0 x1 H Q) : CallW Tryd.prog kps ext 83 [x0, x1] H Q :=
  CallW.fold (⟨Tryd.func83, by kernel_rfl, by kernel_rfl, by kernel_rfl⟩ : Go.AM.Good Tryd.prog 83 Tryd.f83) (Eq.mpr (by kernel_rfl : evBody Tryd.prog (CallW Tryd.prog kps ext) (kps 83) Tryd.f83 [x0, x1] H Q = evBody Tryd.prog (CallW Tryd.prog kps ext) kp.f10 Tryd.f83 [x0, x1] H Q) (L.f10 (CallW Tryd.prog kps ext) x0 x1 H Q h))
theorem fold_f2 (x0 : Value) (H : AH) (Q : Value → AH → Prop) (h : F.f2 (sy (CallW Tryd.prog kps ext)) x0 H Q) : CallW Tryd.prog kps ext 72 [x0] H Q :=
  CallW.fold (⟨Tryd.func72, by kernel_rfl, by kernel_rfl, by kernel_rfl⟩ : Go.AM.Good Tryd.prog 72 Tryd.f72) (Eq.mpr (by kernel_rfl : evBody Tryd.prog (CallW Tryd.prog kps ext) (kps 72) Tryd.f72 [x0] H Q = evBody Tryd.prog (CallW Tryd.prog kps ext) kp.f2 Tryd.f72 [x0] H Q) (L.f2 (CallW Tryd.prog kps ext) x0 H Q h))
theorem fold_f77 (x0 : Value) (H : AH) (Q : Value → AH → Prop) (h : F.f77 (sy (CallW Tryd.prog kps ext)) x0 H Q) : CallW Tryd.prog kps ext 85 [x0] H Q :=
  CallW.fold (⟨Tryd.func85, by kernel_rfl, by kernel_rfl, by kernel_rfl⟩ : Go.AM.Good Tryd.prog 85 Tryd.f85) (Eq.mpr (by kernel_rfl : evBody Tryd.prog (CallW Tryd.prog kps ext) (kps 85) Tryd.f85 [x0] H Q = evBody Tryd.prog (CallW Tryd.prog kps ext) kp.f77 Tryd.f85 [x0] H Q) (L.f77 (CallW Tryd.prog kps ext) x0 H Q h))
theorem fold_f26 (x0 x1 : Value) (H : AH) (Q : Value → AH → Prop) (h : F.f26 (sy (CallW Tryd.prog kps ext)) x0 x1 H Q) : CallW Tryd.prog kps ext 86 [x0, x1] H Q :=
  CallW.fold (⟨Tryd.func86, by kernel_rfl, by kernel_rfl, by kernel_rfl⟩ : Go.AM.Good Tryd.prog 86 Tryd.f86) (Eq.mpr (by kernel_rfl : evBody Tryd.prog (CallW Tryd.prog kps ext) (kps 86) Tryd.f86 [x0, x1] H Q = evBody Tryd.prog (CallW Tryd.prog kps ext) kp.f26 Tryd.f86 [x0, x1] H Q) (L.f26 (CallW Tryd.prog kps ext) x0 x1 H Q h))
theorem fold_f78 (x0 : Value) (H : AH) (Q : Value → AH → Prop) (h : F.f78 (sy (CallW Tryd.prog kps ext)) x0 H Q) : CallW Tryd.prog kps ext 87 [x0] H Q :=
  CallW.fold (⟨Tryd.func87, by kernel_rfl, by kernel_rfl, by kernel_rfl⟩ : Go.AM.Good Tryd.prog 87 Tryd.f87) (Eq.mpr (by kernel_rfl : evBody Tryd.prog (CallW Tryd.prog kps ext) (kps 87) Tryd.f87 [x0] H Q = evBody Tryd.prog (CallW Tryd.prog kps ext) kp.f78 Tryd.f87 [x0] H Q) (L.f78 (CallW Tryd.prog kps ext) x0 H Q h))
theorem fold_f17 (x0 x1 : Value) (H : AH) (Q : Value → AH → Prop) (h : F.f17 (sy (CallW Tryd.prog kps ext)) x0 x1 H Q) : CallW Tryd.prog kps ext 88 [x0, x1] H Q :=
  CallW.fold (⟨Tryd.func88, by kernel_rfl, by kernel_rfl, by kernel_rfl⟩ : Go.AM.Good Tryd.prog 88 Tryd.f88) (Eq.mpr (by kernel_rfl : evBody Tryd.prog (CallW Tryd.prog kps ext) (kps 88) Tryd.f88 [x0, x1] H Q = evBody Tryd.prog (CallW Tryd.prog kps ext) kp.f17 Tryd.f88 [x0, x1] H Q) (L.f17 (CallW Tryd.prog kps ext) x0 x1 H Q h))
theorem fold_f75 (x0 x1 : Value) (H : AH) (Q : Value → AH → Prop) (h : F.f75 (sy (CallW Tryd.prog kps ext)) x0 x1 H Q) : CallW Tryd.prog kps ext 89 [x0, x1] H Q :=
  CallW.fold (⟨Tryd.func89, by kernel_rfl, by kernel_rfl, by kernel_rfl⟩ : Go.AM.Good Tryd.prog 89 Tryd.f89) (Eq.mpr (by kernel_rfl : evBody Tryd.prog (CallW Tryd.prog kps ext) (kps 89) Tryd.f89 [x0, x1] H Q = evBody Tryd.prog (CallW Tryd.prog kps ext) kp.f75 Tryd.f89 [x0, x1] H Q) (L.f75 (CallW Tryd.prog kps ext) x0 x1 H Q h))
theorem fold_f7 (x0 x1 x2 : Value) (H : AH) (Q : Value → AH → Prop) (h : F.f7 (sy (CallW Tryd.prog kps ext)) x0 x1 x2 H Q) : CallW Tryd.prog kps ext 65 [x0, x1, x2] H Q :=
  CallW.fold (⟨Tryd.func65, by kernel_rfl, by kernel_rfl, by kernel_rfl⟩ : Go.AM.Good Tryd.prog 65 Tryd.f65) (Eq.mpr (by kernel_rfl : evBody Tryd.prog (CallW Tryd.prog kps ext) (kps 65) Tryd.f65 [x0, x1, x2] H Q = evBody Tryd.prog (CallW Tryd.prog kps ext) kp.f7 Tryd.f65 [x0, x1, x2] H Q) (L.f7 (CallW Tryd.prog kps ext) x0 x1 x2 H Q h))
theorem fold_f79 (x0 x1 : Value) (H : AH) (Q : Value → AH → Prop) (h : F.f79 (sy (CallW Tryd.prog kps ext)) x0 x1 H Q) : CallW Tryd.prog kps ext 90 [x0, x1] H Q :=
  CallW.fold (⟨Tryd.func90, by kernel_rfl, by kernel_rfl, by kernel_rfl⟩ : Go.AM.Good Tryd.prog 90 Tryd.f90) (Eq.mpr (by kernel_rfl : evBody Tryd.prog (CallW Tryd.prog kps ext) (kps 90) Tryd.f90 [x0, x1] H Q = evBody Tryd.prog (CallW Tryd.prog kps ext) kp.f79 Tryd.f90 [x0, x1] H Q) (L.f79 (CallW Tryd.prog kps ext) x0 x1 H Q h))
theorem fold_f25 (x0 x1 : Value) (H : AH) (Q : Value → AH → Prop) (h : F.f25 (sy (CallW Tryd.prog kps ext)) x0 x1 H Q) : CallW Tryd.prog kps ext 91 [x0, x1] H Q :=
  CallW.fold (⟨Tryd.func91, by kernel_rfl, by kernel_rfl, by kernel_rfl⟩ : Go.AM.Good Tryd.prog 91 Tryd.f91) (Eq.mpr (by kernel_rfl : evBody Tryd.prog (CallW Tryd.prog kps ext) (kps 91) Tryd.f91 [x0, x1] H Q = evBody Tryd.prog (CallW Tryd.prog kps ext) kp.f25 Tryd.f91 [x0, x1] H Q) (L.f25 (CallW Tryd.prog kps ext) x0 x1 H Q h))
theorem fold_f22 (x0 : Value) (H : AH) (Q : Value → AH → Prop) (h : F.f22 (sy (CallW Tryd.prog kps ext)) x0 H Q) : CallW Tryd.prog kps ext 110 [x0] H Q :=
  CallW.fold (⟨Tryd.func110, by kernel_rfl, by kernel_rfl, by kernel_rfl⟩ : Go.AM.Good Tryd.prog 110 Tryd.f110) (Eq.mpr (by kernel_rfl : evBody Tryd.prog (CallW Tryd.prog kps ext) (kps 110) Tryd.f110 [x0] H Q = evBody Tryd.prog (CallW Tryd.prog kps ext) kp.f22 Tryd.f110 [x0] H Q) (L.f22 (CallW Tryd.prog kps ext) x0 H Q h))
theorem fold_f49 (x0 x1 x2 : Value) (H : AH) (Q : Value → AH → Prop) (h : F.f49 (sy (CallW Tryd.prog kps ext)) x0 x1 x2 H Q) : CallW Tryd.prog kps ext 100 [x0, x1, x2] H Q :=
  CallW.fold (⟨Tryd.func100, by kernel_rfl, by kernel_rfl, by kernel_rfl⟩ : Go.AM.Good Tryd.prog 100 Tryd.f100) (Eq.mpr (by kernel_rfl : evBody Tryd.prog (CallW Tryd.prog kps ext) (kps 100) Tryd.f100 [x0, x1, x2] H Q = evBody Tryd.prog (CallW Tryd.prog kps ext) kp.f49 Tryd.f100 [x0, x1, x2] H Q) (L.f49 (CallW Tryd.prog kps ext) x0 x1 x2 H Q h))
theorem fold_f48 (x0 x1 x2 : Value) (H : AH) (Q : Value → AH → Prop) (h : F.f48 (sy (CallW Tryd.prog kps ext)) x0 x1 x2 H Q) : CallW Tryd.prog kps ext 101 [x0, x1, x2] H Q :=
  CallW.fold (⟨Tryd.func101, by kernel_rfl, by kernel_rfl, by kernel_rfl⟩ : Go.AM.Good Tryd.prog 101 Tryd.f101) (Eq.mpr (by kernel_rfl : evBody Tryd.prog (CallW Tryd.prog kps ext) (kps 101) Tryd.f101 [x0, x1, x2] H Q = evBody Tryd.prog (CallW Tryd.prog kps ext) kp.f48 Tryd.f101 [x0, x1, x2] H Q) (L.f48 (CallW Tryd.prog kps ext) x0 x1 x2 H Q h))
theorem fold_f46 (x0 x1 x2 : Value) (H : AH) (Q : Value → AH → Prop) (h : F.f46 (sy (CallW Tryd.prog kps ext)) x0 x1 x2 H Q) : CallW Tryd.prog kps ext 102 [x0, x1, x2] H Q :=
  CallW.fold (⟨Tryd.func102, by kernel_rfl, by kernel_rfl, by kernel_rfl⟩ : Go.AM.Good Tryd.prog 102 Tryd.f102) (Eq.mpr (by kernel_rfl : evBody Tryd.prog (CallW Tryd.prog kps ext) (kps 102) Tryd.f102 [x0, x1, x2] H Q = evBody Tryd.prog (CallW Tryd.prog kps ext) kp.f46 Tryd.f102 [x0, x1, x2] H Q) (L.f46 (CallW Tryd.prog kps ext) x0 x1 x2 H Q h))
theorem fold_f47 (x0 x1 x2 : Value) (H : AH) (Q : Value → AH → Prop) (h : F.f47 (sy (CallW Tryd.prog kps ext)) x0 x1 x2 H Q) : CallW Tryd.prog kps ext 103 [x0, x1, x2] H Q :=
  CallW.fold (⟨Tryd.func103, by kernel_rfl, by kernel_rfl, by kernel_rfl⟩ : Go.AM.Good Tryd.prog 103 Tryd.f103) (Eq.mpr (by kernel_rfl : evBody Tryd.prog (CallW Tryd.prog kps ext) (kps 103) Tryd.f103 [x0, x1, x2] H Q = evBody Tryd.prog (CallW Tryd.prog kps ext) kp.f47 Tryd.f103 [x0, x1, x2] H Q) (L.f47 (CallW Tryd.prog kps ext) x0 x1 x2 H Q h))
theorem fold_f58 (x0 x1 x2 : Value) (H : AH) (Q : Value → AH → Prop) (h : F.f58 (sy (CallW Tryd.prog kps ext)) x0 x1 x2 H Q) : CallW Tryd.prog kps ext 104 [x0, x1, x2] H Q :=
  CallW.fold (⟨Tryd.func104, by kernel_rfl, by kernel_rfl, by kernel_rfl⟩ : Go.AM.Good Tryd.prog 104 Tryd.f104) (Eq.mpr (by kernel_rfl : evBody Tryd.prog (CallW Tryd.prog kps ext) (kps 104) Tryd.f104 [x0, x1, x2] H Q = evBody Tryd.prog (CallW Tryd.prog kps ext) kp.f58 Tryd.f104 [x0, x1, x2] H Q) (L.f58 (CallW Tryd.prog kps ext) x0 x1 x2 H Q h))
theorem fold_f54 (x0 x1 x2 : Value) (H : AH) (Q : Value → AH → Prop) (h : F.f54 (sy (CallW Tryd.prog kps ext)) x0 x1 x2 H Q) : CallW Tryd.prog kps ext 105 [x0, x1, x2] H Q :=
  CallW.fold (⟨Tryd.func105, by kernel_rfl, by kernel_rfl, by kernel_rfl⟩ : Go.AM.Good Tryd.prog 105 Tryd.f105) (Eq.mpr (by kernel_rfl : evBody Tryd.prog (CallW Tryd.prog kps ext) (kps 105) Tryd.f105 [x0, x1, x2] H Q = evBody Tryd.prog (CallW Tryd.prog kps ext) kp.f54 Tryd.f105 [x0, x1, x2] H Q) (L.f54 (CallW Tryd.prog kps ext) x0 x1 x2 H Q h))
theorem fold_f0 (x0 x1 : Value) (H : AH) (Q : Value → AH → Prop) (h : F.f0 (sy (CallW Tryd.prog kps ext)) x0 x1 H Q) : CallW Tryd.prog kps ext 106 [x0, x1] H Q :=
  CallW.fold (⟨Tryd.func106, by kernel_rfl, by kernel_rfl, by kernel_rfl⟩ : Go.AM.Good Tryd.prog 106 Tryd.f106) (Eq.mpr (by kernel_rfl : evBody Tryd.prog (CallW Tryd.prog kps ext) (kps 106) Tryd.f106 [x0, x1] H Q = evBody Tryd.prog (CallW Tryd.prog kps ext) kp.f0 Tryd.f106 [x0, x1] H Q) (L.f0 (CallW Tryd.prog kps ext) x0 x1 H Q h))
theorem fold_f55 (x0 x1 x2 x3 : Value) (H : AH) (Q : Value → AH → Prop) (h : F.f55 (sy (CallW Tryd.prog kps ext)) x0 x1 x2 x3 H Q) : CallW Tryd.prog kps ext 107 [x0, x1, x2, x3] H Q :=
  CallW.fold (⟨Tryd.func107, by kernel_rfl, by kernel_rfl, by kernel_rfl⟩ : Go.AM.Good Tryd.prog 107 Tryd.f107) (Eq.mpr (by kernel_rfl : evBody Tryd.prog (CallW Tryd.prog kps ext) (kps 107) Tryd.f107 [x0, x1, x2, x3] H Q = evBody Tryd.prog (CallW Tryd.prog kps ext) kp.f55 Tryd.f107 [x0, x1, x2, x3] H Q) (L.f55 (CallW Tryd.prog kps ext) x0 x1 x2 x3 H Q h))
theorem fold_f56 (x0 x1 x2 x3 : Value) (H : AH) (Q : Value → AH → Prop) (h : F.f56 (sy (CallW Tryd.prog kps ext)) x0 x1 x2 x3 H Q) : CallW Tryd.prog kps ext 108 [x0, x1, x2, x3] H Q :=
  CallW.fold (⟨Tryd.func108, by kernel_rfl, by kernel_rfl, by kernel_rfl⟩ : Go.AM.Good Tryd.prog 108 Tryd.f108) (Eq.mpr (by kernel_rfl : evBody Tryd.prog (CallW Tryd.prog kps ext) (kps 108) Tryd.f108 [x0, x1, x2, x3] H Q = evBody Tryd.prog (CallW Tryd.prog kps ext) kp.f56 Tryd.f108 [x0, x1, x2, x3] H Q) (L.f56 (CallW Tryd.prog kps ext) x0 x1 x2 x3 H Q h))
theorem fold_f64 (x0 x1 : Value) (H : AH) (Q : Value → AH → Prop) (h : F.f64 (sy (CallW Tryd.prog kps ext)) x0 x1 H Q) : CallW Tryd.prog kps ext 96 [x0, x1] H Q :=
  CallW.fold (⟨Tryd.func96, by kernel_rfl, by kernel_rfl, by kernel_rfl⟩ : Go.AM.Good Tryd.prog 96 Tryd.f96) (Eq.mpr (by kernel_rfl : evBody Tryd.prog (CallW Tryd.prog kps ext) (kps 96) Tryd.f96 [x0, x1] H Q = evBody Tryd.prog (CallW Tryd.prog kps ext) kp.f64 Tryd.f96 [x0, x1] H Q) (L.f64 (CallW Tryd.prog kps ext) x0 x1 H Q h))
theorem fold_f3 (x0 : Value) (H : AH) (Q : Value → AH → Prop) (h : F.f3 (sy (CallW Tryd.prog kps ext)) x0 H Q) : CallW Tryd.prog kps ext 97 [x0] H Q :=
  CallW.fold (⟨Tryd.func97, by kernel_rfl, by kernel_rfl, by kernel_rfl⟩ : Go.AM.Good Tryd.prog 97 Tryd.f97) (Eq.mpr (by kernel_rfl : evBody Tryd.prog (CallW Tryd.prog kps ext) (kps 97) Tryd.f97 [x0] H Q = evBody Tryd.prog (CallW Tryd.prog kps ext) kp.f3 Tryd.f97 [x0] H Q) (L.f3 (CallW Tryd.prog kps ext) x0 H Q h))
theorem fold_f27 (x0 x1 : Value) (H : AH) (Q : Value → AH → Prop) (h : F.f27 (sy (CallW Tryd.prog kps ext)) x0 x1 H Q) : CallW Tryd.prog kps ext 116 [x0, x1] H Q :=
  CallW.fold (⟨Tryd.func116, by kernel_rfl, by kernel_rfl, by kernel_rfl⟩ : Go.AM.Good Tryd.prog 116 Tryd.f116) (Eq.mpr (by kernel_rfl : evBody Tryd.prog (CallW Tryd.prog kps ext) (kps 116) Tryd.f116 [x0, x1] H Q = evBody Tryd.prog (CallW Tryd.prog kps ext) kp.f27 Tryd.f116 [x0, x1] H Q) (L.f27 (CallW Tryd.prog kps ext) x0 x1 H Q h))
theorem fold_f44 (x0 x1 : Value) (H : AH) (Q : Value → AH → Prop) (h : F.f44 (sy (CallW Tryd.prog kps ext)) x0 x1 H Q) : CallW Tryd.prog kps ext 115 [x0, x1] H Q :=
  CallW.fold (⟨Tryd.func115, by kernel_rfl, by kernel_rfl, by kernel_rfl⟩ : Go.AM.Good Tryd.prog 115 Tryd.f115) (Eq.mpr (by kernel_rfl : evBody Tryd.prog (CallW Tryd.prog kps ext) (kps 115) Tryd.f115 [x0, x1] H Q = evBody Tryd.prog (CallW Tryd.prog kps ext) kp.f44 Tryd.f115 [x0, x1] H Q) (L.f44 (CallW Tryd.prog kps ext) x0 x1 H Q h))
theorem fold_f65 (x0 x1 : Value) (H : AH) (Q : Value → AH → Prop) (h : F.f65 (sy (CallW Tryd.prog kps ext)) x0 x1 H Q) : CallW Tryd.prog kps ext 117 [x0, x1] H Q :=
  CallW.fold (⟨Tryd.func117, by kernel_rfl, by kernel_rfl, by kernel_rfl⟩ : Go.AM.Good Tryd.prog 117 Tryd.f117) (Eq.mpr (by kernel_rfl : evBody Tryd.prog (CallW Tryd.prog kps ext) (kps 117) Tryd.f117 [x0, x1] H Q = evBody Tryd.prog (CallW Tryd.prog kps ext) kp.f65 Tryd.f117 [x0, x1] H Q) (L.f65 (CallW Tryd.prog kps ext) x0 x1 H Q h))
theorem fold_f24 (x0 x1 : Value) (H : AH) (Q : Value → AH → Prop) (h : F.f24 (sy (CallW Tryd.prog kps ext)) x0 x1 H Q) : CallW Tryd.prog kps ext 99 [x0, x1] H Q :=
  CallW.fold (⟨Tryd.func99, by kernel_rfl, by kernel_rfl, by kernel_rfl⟩ : Go.AM.Good Tryd.prog 99 Tryd.f99) (Eq.mpr (by kernel_rfl : evBody Tryd.prog (CallW Tryd.prog kps ext) (kps 99) Tryd.f99 [x0, x1] H Q = evBody Tryd.prog (CallW Tryd.prog kps ext) kp.f24 Tryd.f99 [x0, x1] H Q) (L.f24 (CallW Tryd.prog kps ext) x0 x1 H Q h))
theorem fold_f28 (x0 x1 : Value) (H : AH) (Q : Value → AH → Prop) (h : F.f28 (sy (CallW Tryd.prog kps ext)) x0 x1 H Q) : CallW Tryd.prog kps ext 95 [x0, x1] H Q :=
  CallW.fold (⟨Tryd.func95, by kernel_rfl, by kernel_rfl, by kernel_rfl⟩ : Go.AM.Good Tryd.prog 95 Tryd.f95) (Eq.mpr (by kernel_rfl : evBody Tryd.prog (CallW Tryd.prog kps ext) (kps 95) Tryd.f95 [x0, x1] H Q = evBody Tryd.prog (CallW Tryd.prog kps ext) kp.f28 Tryd.f95 [x0, x1] H Q) (L.f28 (CallW Tryd.prog kps ext) x0 x1 H Q h))
theorem fold_f59 (x0 x1 x2 x3 : Value) (H : AH) (Q : Value → AH → Prop) (h : F.f59 (sy (CallW Tryd.prog kps ext)) x0 x1 x2 x3 H Q) : CallW Tryd.prog kps ext 121 [x0, x1, x2, x3] H Q :=
  CallW.fold (⟨Tryd.func121, by kernel_rfl, by kernel_rfl, by kernel_rfl⟩ : Go.AM.Good Tryd.prog 121 Tryd.f121) (Eq.mpr (by kernel_rfl : evBody Tryd.prog (CallW Tryd.prog kps ext) (kps 121) Tryd.f121 [x0, x1, x2, x3] H Q = evBody Tryd.prog (CallW Tryd.prog kps ext) kp.f59 Tryd.f121 [x0, x1, x2, x3] H Q) (L.f59 (CallW Tryd.prog kps ext) x0 x1 x2 x3 H Q h))
theorem fold_f52 (x0 : Value) (H : AH) (Q : Value → AH → Prop) (h : F.f52 (sy (CallW Tryd.prog kps ext)) x0 H Q) : CallW Tryd.prog kps ext 122 [x0] H Q :=
  CallW.fold (⟨Tryd.func122, by kernel_rfl, by kernel_rfl, by kernel_rfl⟩ : Go.AM.Good Tryd.prog 122 Tryd.f122) (Eq.mpr (by kernel_rfl : evBody Tryd.prog (CallW Tryd.prog kps ext) (kps 122) Tryd.f122 [x0] H Q = evBody Tryd.prog (CallW Tryd.prog kps ext) kp.f52 Tryd.f122 [x0] H Q) (L.f52 (CallW Tryd.prog kps ext) x0 H Q h))
theorem fold_f60 (x0 : Value) (H : AH) (Q : Value → AH → Prop) (h : F.f60 (sy (CallW Tryd.prog kps ext)) x0 H Q) : CallW Tryd.prog kps ext 123 [x0] H Q :=
  CallW.fold (⟨Tryd.func123, by kernel_rfl, by kernel_rfl, by kernel_rfl⟩ : Go.AM.Good Tryd.prog 123 Tryd.f123) (Eq.mpr (by kernel_rfl : evBody Tryd.prog (CallW Tryd.prog kps ext) (kps 123) Tryd.f123 [x0] H Q = evBody Tryd.prog (CallW Tryd.prog kps ext) kp.f60 Tryd.f123 [x0] H Q) (L.f60 (CallW Tryd.prog kps ext) x0 H Q h))
theorem fold_f50 (x0 x1 x2 : Value) (H : AH) (Q : Value → AH → Prop) (h : F.f50 (sy (CallW Tryd.prog kps ext)) x0 x1 x2 H Q) : CallW Tryd.prog kps ext 124 [x0, x1, x2] H Q :=
  CallW.fold (⟨Tryd.func124, by kernel_rfl, by kernel_rfl, by kernel_rfl⟩ : Go.AM.Good Tryd.prog 124 Tryd.f124) (Eq.mpr (by kernel_rfl : evBody Tryd.prog (CallW Tryd.prog kps ext) (kps 124) Tryd.f124 [x0, x1, x2] H Q = evBody Tryd.prog (CallW Tryd.prog kps ext) kp.f50 Tryd.f124 [x0, x1, x2] H Q) (L.f50 (CallW Tryd.prog kps ext) x0 x1 x2 H Q h))
theorem fold_f51 (x0 x1 x2 x3 x4 : Value) (H : AH) (Q : Value → AH → Prop) (h : F.f51 (sy (CallW Tryd.prog kps ext)) x0 x1 x2 x3 x4 H Q) : CallW Tryd.prog kps ext 125 [x0, x1, x2, x3, x4] H Q :=
  CallW.fold (⟨Tryd.func125, by kernel_rfl, by kernel_rfl, by kernel_rfl⟩ : Go.AM.Good Tryd.prog 125 Tryd.f125) (Eq.mpr (by kernel_rfl : evBody Tryd.prog (CallW Tryd.prog kps ext) (kps 125) Tryd.f125 [x0, x1, x2, x3, x4] H Q = evBody Tryd.prog (CallW Tryd.prog kps ext) kp.f51 Tryd.f125 [x0, x1, x2, x3, x4] H Q) (L.f51 (CallW Tryd.prog kps ext) x0 x1 x2 x3 x4 H Q h))
theorem fold_f1 (x0 : Value) (H : AH) (Q : Value → AH → Prop) (h : F.f1 (sy (CallW Tryd.prog kps ext)) x0 H Q) : CallW Tryd.prog kps ext 126 [x0] H Q :=
  CallW.fold (⟨Tryd.func126, by kernel_rfl, by kernel_rfl, by kernel_rfl⟩ : Go.AM.Good Tryd.prog 126 Tryd.f126) (Eq.mpr (by kernel_rfl : evBody Tryd.prog (CallW Tryd.prog kps ext) (kps 126) Tryd.f126 [x0] H Q = evBody Tryd.prog (CallW Tryd.prog kps ext) kp.f1 Tryd.f126 [x0] H Q) (L.f1 (CallW Tryd.prog kps ext) x0 H Q h))
theorem fold_f68 (x0 x1 x2 : Value) (H : AH) (Q : Value → AH → Prop) (h : F.f68 (sy (CallW Tryd.prog kps ext)) x0 x1 x2 H Q) : CallW Tryd.prog kps ext 120 [x0, x1, x2] H Q :=
  CallW.fold (⟨Tryd.func120, by kernel_rfl, by kernel_rfl, by kernel_rfl⟩ : Go.AM.Good Tryd.prog 120 Tryd.f120) (Eq.mpr (by kernel_rfl : evBody Tryd.prog (CallW Tryd.prog kps ext) (kps 120) Tryd.f120 [x0, x1, x2] H Q = evBody Tryd.prog (CallW Tryd.prog kps ext) kp.f68 Tryd.f120 [x0, x1, x2] H Q) (L.f68 (CallW Tryd.prog kps ext) x0 x1 x2 H Q h))
theorem fold_f67 (x0 x1 x2 x3 : Value) (H : AH) (Q : Value → AH → Prop) (h : F.f67 (sy (CallW Tryd.prog kps ext)) x0 x1 x2 x3 H Q) : CallW Tryd.prog kps ext 130 [x0, x1, x2, x3] H Q :=
  CallW.fold (⟨Tryd.func130, by kernel_rfl, by kernel_rfl, by kernel_rfl⟩ : Go.AM.Good Tryd.prog 130 Tryd.f130) (Eq.mpr (by kernel_rfl : evBody Tryd.prog (CallW Tryd.prog kps ext) (kps 130) Tryd.f130 [x0, x1, x2, x3] H Q = evBody Tryd.prog (CallW Tryd.prog kps ext) kp.f67 Tryd.f130 [x0, x1, x2, x3] H Q) (L.f67 (CallW Tryd.prog kps ext) x0 x1 x2 x3 H Q h))
theorem fold_f29 (x0 x1 : Value) (H : AH) (Q : Value → AH → Prop) (h : F.f29 (sy (CallW Tryd.prog kps ext)) x0 x1 H Q) : CallW Tryd.prog kps ext 119 [x0, x1] H Q :=
  CallW.fold (⟨Tryd.func119, by kernel_rfl, by kernel_rfl, by kernel_rfl⟩ : Go.AM.Good Tryd.prog 119 Tryd.f119) (Eq.mpr (by kernel_rfl : evBody Tryd.prog (CallW Tryd.prog kps ext) (kps 119) Tryd.f119 [x0, x1] H Q = evBody Tryd.prog (CallW Tryd.prog kps ext) kp.f29 Tryd.f119 [x0, x1] H Q) (L.f29 (CallW Tryd.prog kps ext) x0 x1 H Q h))
theorem fold_f53 (x0 x1 x2 x3 : Value) (H : AH) (Q : Value → AH → Prop) (h : F.f53 (sy (CallW Tryd.prog kps ext)) x0 x1 x2 x3 H Q) : CallW Tryd.prog kps ext 131 [x0, x1, x2, x3] H Q :=
  CallW.fold (⟨Tryd.func131, by kernel_rfl, by kernel_rfl, by kernel_rfl⟩ : Go.AM.Good Tryd.prog 131 Tryd.f131) (Eq.mpr (by kernel_rfl : evBody Tryd.prog (CallW Tryd.prog kps ext) (kps 131) Tryd.f131 [x0, x1, x2, x3] H Q = evBody Tryd.prog (CallW Tryd.prog kps ext) kp.f53 Tryd.f131 [x0, x1, x2, x3] H Q) (L.f53 (CallW Tryd.prog kps ext) x0 x1 x2 x3 H Q h))
theorem fold_f61 (x0 x1 : Value) (H : AH) (Q : Value → AH → Prop) (h : F.f61 (sy (CallW Tryd.prog kps ext)) x0 x1 H Q) : CallW Tryd.prog kps ext 136 [x0, x1] H Q :=
  CallW.fold (⟨Tryd.func136, by kernel_rfl, by kernel_rfl, by kernel_rfl⟩ : Go.AM.Good Tryd.prog 136 Tryd.f136) (Eq.mpr (by kernel_rfl : evBody Tryd.prog (CallW Tryd.prog kps ext) (kps 136) Tryd.f136 [x0, x1] H Q = evBody Tryd.prog (CallW Tryd.prog kps ext) kp.f61 Tryd.f136 [x0, x1] H Q) (L.f61 (CallW Tryd.prog kps ext) x0 x1 H Q h))
theorem fold_f63 (x0 x1 : Value) (H : AH) (Q : Value → AH → Prop) (h : F.f63 (sy (CallW Tryd.prog kps ext)) x0 x1 H Q) : CallW Tryd.prog kps ext 137 [x0, x1] H Q :=
  CallW.fold (⟨Tryd.func137, by kernel_rfl, by kernel_rfl, by kernel_rfl⟩ : Go.AM.Good Tryd.prog 137 Tryd.f137) (Eq.mpr (by kernel_rfl : evBody Tryd.prog (CallW Tryd.prog kps ext) (kps 137) Tryd.f137 [x0, x1] H Q = evBody Tryd.prog (CallW Tryd.prog kps ext) kp.f63 Tryd.f137 [x0, x1] H Q) (L.f63 (CallW Tryd.prog kps ext) x0 x1 H Q h))
theorem fold_f18 (x0 x1 : Value) (H : AH) (Q : Value → AH → Prop) (h : F.f18 (sy (CallW Tryd.prog kps ext)) x0 x1 H Q) : CallW Tryd.prog kps ext 150 [x0, x1] H Q :=
  CallW.fold (⟨Tryd.func150, by kernel_rfl, by kernel_rfl, by kernel_rfl⟩ : Go.AM.Good Tryd.prog 150 Tryd.f150) (Eq.mpr (by kernel_rfl : evBody Tryd.prog (CallW Tryd.prog kps ext) (kps 150) Tryd.f150 [x0, x1] H Q = evBody Tryd.prog (CallW Tryd.prog kps ext) kp.f18 Tryd.f150 [x0, x1] H Q) (L.f18 (CallW Tryd.prog kps ext) x0 x1 H Q h))
theorem fold_f19 (x0 x1 : Value) (H : AH) (Q : Value → AH → Prop) (h : F.f19 (sy (CallW Tryd.prog kps ext)) x0 x1 H Q) : CallW Tryd.prog kps ext 156 [x0, x1] H Q :=
  CallW.fold (⟨Tryd.func156, by kernel_rfl, by kernel_rfl, by kernel_rfl⟩ : Go.AM.Good Tryd.prog 156 Tryd.f156) (Eq.mpr (by kernel_rfl : evBody Tryd.prog (CallW Tryd.prog kps ext) (kps 156) Tryd.f156 [x0, x1] H Q = evBody Tryd.prog (CallW Tryd.prog kps ext) kp.f19 Tryd.f156 [x0, x1] H Q) (L.f19 (CallW Tryd.prog kps ext) x0 x1 H Q h))
theorem fold : Go.AM.Fold (sy (CallW Tryd.prog kps ext)) where
  mono := CallW.mono
  f32 := fold_f32
  f31 := fold_f31
  f72 := fold_f72
  f40 := fold_f40
  f30 := fold_f30
  f34 := fold_f34
  f41 := fold_f41
  f39 := fold_f39
  f36 := fold_f36
  f38 := fold_f38
  f37 := fold_f37
  f42 := fold_f42
  f35 := fold_f35
  f8 := fold_f8
  f4 := fold_f4
  f23 := fold_f23
  f74 := fold_f74
  f5 := fold_f5
  f33 := fold_f33
  f45 := fold_f45
  f43 := fold_f43
  f11 := fold_f11
  f9 := fold_f9
  f70 := fold_f70
  f76 := fold_f76
  f62 := fold_f62
  f80 := fold_f80
  f73 := fold_f73
  f20 := fold_f20
  f57 := fold_f57
  f10 := fold_f10
  f2 := fold_f2
  f77 := fold_f77
  f26 := fold_f26
  f78 := fold_f78
  f17 := fold_f17
  f75 := fold_f75
  f7 := fold_f7
  f79 := fold_f79
  f25 := fold_f25
  f22 := fold_f22
  f49 := fold_f49
  f48 := fold_f48
  f46 := fold_f46
  f47 := fold_f47
  f58 := fold_f58
  f54 := fold_f54
  f0 := fold_f0
  f55 := fold_f55
  f56 := fold_f56
  f64 := fold_f64
  f3 := fold_f3
  f27 := fold_f27
  f44 := fold_f44
  f65 := fold_f65
  f24 := fold_f24
  f28 := fold_f28
  f59 := fold_f59
  f52 := fold_f52
  f60 := fold_f60
  f50 := fold_f50
  f51 := fold_f51
  f1 := fold_f1
  f68 := fold_f68
  f67 := fold_f67
  f29 := fold_f29
  f53 := fold_f53
  f61 := fold_f61
  f63 := fold_f63
  f18 := fold_f18
  f19 := fold_f19
  f69 := fun x0 x1 H Q h => CallW.ext (.inl <| ⟨rfl, x0, x1, rfl, h⟩)
  f12 := fun x0 x1 H Q h => CallW.ext (.inr <| .inl <| ⟨rfl, x0, x1, rfl, h⟩)
  f14 := fun x0 x1 H Q h => CallW.ext (.inr <| .inr <| .inl <| ⟨rfl, x0, x1, rfl, h⟩)
end Go.Proofs.YtmibhogaoakcaaaDoor
