/- WHAT THE WAYS ASK FOR HOLDS. -/
import Derived.Test.YtfobgbnjicmnaaaGreatDoorKb9f5O0
set_option linter.all false
set_option maxRecDepth 100000
set_option maxHeartbeats 4000000
namespace Go.Proofs.YtfobgbnjicmnaaaGreatDoor.kernelRefers
open Go.AM
theorem ok0 (X Y Z : BitVec 16) (g0 : neqI (aI X Y) (I 0#16) = false) (g1 : neqI (bI X Z) (I 0#16) = false) : (tree0 X Y Z).P := by
  apply Tq.ok
  unfold tree0 rest0
  simp only [c0, c1, c2, c3, c4, c5, c6, c7, c8, c9, c10, c11, c12, c13, c14, c15, c16, c17, c18, c19, c20, c21, c22, c23, c24, c25] at g0 g1
  simp only [c0, c1, c2, c3, c4, c5, c6, c7, c8, c9, c10, c11, c12, c13, c14, c15, c16, c17, c18, c19, c20, c21, c22, c23, c24, c25, Tq.B]
  have a5 := nz X 5 Y; have a7 := nz X 7 Y; have a9 := nz X 9 Y; have b5 := nz X 5 Z; have b7 := nz X 7 Z; have b9 := nz X 9 Z; have gg := gz X Y Z
  generalize decide (¬ (Z &&& hh X &&& ~~~(Y &&& hh X) &&& 1031#16) = 0#16) = G at *
  generalize decide (¬ (Y &&& hh X) = 0#16) = na at *
  generalize decide (¬ (Z &&& hh X) = 0#16) = nb at *
  generalize (hh X).getLsbD 5 = h5 at *; generalize (hh X).getLsbD 7 = h7 at *; generalize (hh X).getLsbD 9 = h9 at *
  generalize Y.getLsbD 5 = y5 at *; generalize Y.getLsbD 7 = y7 at *; generalize Y.getLsbD 9 = y9 at *
  generalize Z.getLsbD 5 = z5 at *; generalize Z.getLsbD 7 = z7 at *; generalize Z.getLsbD 9 = z9 at *
  have hc := andB (impB a5) (andB (impB a7) (andB (impB a9) (andB (impB b5) (andB (impB b7) (andB (impB b9) (andB (impB gg) (andB (eqB g0) (eqB g1))))))))
  clear g0 g1 a5 a7 a9 b5 b7 b9 gg X Y Z
  revert h5 h7 h9 y5 y7 y9 z5 z7 z9 na nb G
  decide +kernel
theorem ok1 (X Y Z : BitVec 16) (g0 : neqI (aI X Y) (I 0#16) = false) (g1 : neqI (bI X Z) (I 0#16) = false) : (tree1 X Y Z).P := by
  apply Tq.ok
  unfold tree1 rest1
  simp only [c0, c1, c2, c3, c4, c5, c6, c7, c8, c9, c10, c11, c12, c13, c14, c15, c16, c17, c18, c19, c20, c21, c22, c23, c24, c25] at g0 g1
  simp only [c0, c1, c2, c3, c4, c5, c6, c7, c8, c9, c10, c11, c12, c13, c14, c15, c16, c17, c18, c19, c20, c21, c22, c23, c24, c25, Tq.B]
  have a5 := nz X 5 Y; have a7 := nz X 7 Y; have a9 := nz X 9 Y; have b5 := nz X 5 Z; have b7 := nz X 7 Z; have b9 := nz X 9 Z; have gg := gz X Y Z
  generalize decide (¬ (Z &&& hh X &&& ~~~(Y &&& hh X) &&& 1031#16) = 0#16) = G at *
  generalize decide (¬ (Y &&& hh X) = 0#16) = na at *
  generalize decide (¬ (Z &&& hh X) = 0#16) = nb at *
  generalize (hh X).getLsbD 5 = h5 at *; generalize (hh X).getLsbD 7 = h7 at *; generalize (hh X).getLsbD 9 = h9 at *
  generalize Y.getLsbD 5 = y5 at *; generalize Y.getLsbD 7 = y7 at *; generalize Y.getLsbD 9 = y9 at *
  generalize Z.getLsbD 5 = z5 at *; generalize Z.getLsbD 7 = z7 at *; generalize Z.getLsbD 9 = z9 at *
  have hc := andB (impB a5) (andB (impB a7) (andB (impB a9) (andB (impB b5) (andB (impB b7) (andB (impB b9) (andB (impB gg) (andB (eqB g0) (eqB g1))))))))
  clear g0 g1 a5 a7 a9 b5 b7 b9 gg X Y Z
  revert h5 h7 h9 y5 y7 y9 z5 z7 z9 na nb G
  decide +kernel
theorem ok2 (X Y Z : BitVec 16) (g0 : neqI (aI X Y) (I 0#16) = false) (g1 : neqI (bI X Z) (I 0#16) = true) : (tree2 X Y Z).P := by
  apply Tq.ok
  unfold tree2 rest2
  simp only [c0, c1, c2, c3, c4, c5, c6, c7, c8, c9, c10, c11, c12, c13, c14, c15, c16, c17, c18, c19, c20, c21, c22, c23, c24, c25] at g0 g1
  simp only [c0, c1, c2, c3, c4, c5, c6, c7, c8, c9, c10, c11, c12, c13, c14, c15, c16, c17, c18, c19, c20, c21, c22, c23, c24, c25, Tq.B]
  have a5 := nz X 5 Y; have a7 := nz X 7 Y; have a9 := nz X 9 Y; have b5 := nz X 5 Z; have b7 := nz X 7 Z; have b9 := nz X 9 Z; have gg := gz X Y Z
  generalize decide (¬ (Z &&& hh X &&& ~~~(Y &&& hh X) &&& 1031#16) = 0#16) = G at *
  generalize decide (¬ (Y &&& hh X) = 0#16) = na at *
  generalize decide (¬ (Z &&& hh X) = 0#16) = nb at *
  generalize (hh X).getLsbD 5 = h5 at *; generalize (hh X).getLsbD 7 = h7 at *; generalize (hh X).getLsbD 9 = h9 at *
  generalize Y.getLsbD 5 = y5 at *; generalize Y.getLsbD 7 = y7 at *; generalize Y.getLsbD 9 = y9 at *
  generalize Z.getLsbD 5 = z5 at *; generalize Z.getLsbD 7 = z7 at *; generalize Z.getLsbD 9 = z9 at *
  have hc := andB (impB a5) (andB (impB a7) (andB (impB a9) (andB (impB b5) (andB (impB b7) (andB (impB b9) (andB (impB gg) (andB (eqB g0) (eqB g1))))))))
  clear g0 g1 a5 a7 a9 b5 b7 b9 gg X Y Z
  revert h5 h7 h9 y5 y7 y9 z5 z7 z9 na nb G
  decide +kernel
theorem ok3 (X Y Z : BitVec 16) (g0 : neqI (aI X Y) (I 0#16) = false) (g1 : neqI (bI X Z) (I 0#16) = true) (g2 : neqI (andNotI (andI (I 128#16) (hI X)) (bI X Z)) (I 0#16) = true) : (tree3 X Y Z).P := by
  apply Tq.ok
  unfold tree3 rest3
  simp only [c0, c1, c2, c3, c4, c5, c6, c7, c8, c9, c10, c11, c12, c13, c14, c15, c16, c17, c18, c19, c20, c21, c22, c23, c24, c25] at g0 g1 g2
  simp only [c0, c1, c2, c3, c4, c5, c6, c7, c8, c9, c10, c11, c12, c13, c14, c15, c16, c17, c18, c19, c20, c21, c22, c23, c24, c25, Tq.B]
  have a5 := nz X 5 Y; have a7 := nz X 7 Y; have a9 := nz X 9 Y; have b5 := nz X 5 Z; have b7 := nz X 7 Z; have b9 := nz X 9 Z; have gg := gz X Y Z
  generalize decide (¬ (Z &&& hh X &&& ~~~(Y &&& hh X) &&& 1031#16) = 0#16) = G at *
  generalize decide (¬ (Y &&& hh X) = 0#16) = na at *
  generalize decide (¬ (Z &&& hh X) = 0#16) = nb at *
  generalize (hh X).getLsbD 5 = h5 at *; generalize (hh X).getLsbD 7 = h7 at *; generalize (hh X).getLsbD 9 = h9 at *
  generalize Y.getLsbD 5 = y5 at *; generalize Y.getLsbD 7 = y7 at *; generalize Y.getLsbD 9 = y9 at *
  generalize Z.getLsbD 5 = z5 at *; generalize Z.getLsbD 7 = z7 at *; generalize Z.getLsbD 9 = z9 at *
  have hc := andB (impB a5) (andB (impB a7) (andB (impB a9) (andB (impB b5) (andB (impB b7) (andB (impB b9) (andB (impB gg) (andB (eqB g0) (andB (eqB g1) (eqB g2)))))))))
  clear g0 g1 g2 a5 a7 a9 b5 b7 b9 gg X Y Z
  revert h5 h7 h9 y5 y7 y9 z5 z7 z9 na nb G
  decide +kernel
theorem ok4 (X Y Z : BitVec 16) (g0 : neqI (aI X Y) (I 0#16) = false) (g1 : neqI (bI X Z) (I 0#16) = true) (g2 : neqI (andNotI (andI (I 128#16) (hI X)) (bI X Z)) (I 0#16) = false) : (tree4 X Y Z).P := by
  apply Tq.ok
  unfold tree4 rest4
  simp only [c0, c1, c2, c3, c4, c5, c6, c7, c8, c9, c10, c11, c12, c13, c14, c15, c16, c17, c18, c19, c20, c21, c22, c23, c24, c25] at g0 g1 g2
  simp only [c0, c1, c2, c3, c4, c5, c6, c7, c8, c9, c10, c11, c12, c13, c14, c15, c16, c17, c18, c19, c20, c21, c22, c23, c24, c25, Tq.B]
  have a5 := nz X 5 Y; have a7 := nz X 7 Y; have a9 := nz X 9 Y; have b5 := nz X 5 Z; have b7 := nz X 7 Z; have b9 := nz X 9 Z; have gg := gz X Y Z
  generalize decide (¬ (Z &&& hh X &&& ~~~(Y &&& hh X) &&& 1031#16) = 0#16) = G at *
  generalize decide (¬ (Y &&& hh X) = 0#16) = na at *
  generalize decide (¬ (Z &&& hh X) = 0#16) = nb at *
  generalize (hh X).getLsbD 5 = h5 at *; generalize (hh X).getLsbD 7 = h7 at *; generalize (hh X).getLsbD 9 = h9 at *
  generalize Y.getLsbD 5 = y5 at *; generalize Y.getLsbD 7 = y7 at *; generalize Y.getLsbD 9 = y9 at *
  generalize Z.getLsbD 5 = z5 at *; generalize Z.getLsbD 7 = z7 at *; generalize Z.getLsbD 9 = z9 at *
  have hc := andB (impB a5) (andB (impB a7) (andB (impB a9) (andB (impB b5) (andB (impB b7) (andB (impB b9) (andB (impB gg) (andB (eqB g0) (andB (eqB g1) (eqB g2)))))))))
  clear g0 g1 g2 a5 a7 a9 b5 b7 b9 gg X Y Z
  revert h5 h7 h9 y5 y7 y9 z5 z7 z9 na nb G
  decide +kernel
theorem ok5 (X Y Z : BitVec 16) (g0 : neqI (aI X Y) (I 0#16) = true) (g1 : neqI (bI X Z) (I 0#16) = false) : (tree5 X Y Z).P := by
  apply Tq.ok
  unfold tree5 rest5
  simp only [c0, c1, c2, c3, c4, c5, c6, c7, c8, c9, c10, c11, c12, c13, c14, c15, c16, c17, c18, c19, c20, c21, c22, c23, c24, c25] at g0 g1
  simp only [c0, c1, c2, c3, c4, c5, c6, c7, c8, c9, c10, c11, c12, c13, c14, c15, c16, c17, c18, c19, c20, c21, c22, c23, c24, c25, Tq.B]
  have a5 := nz X 5 Y; have a7 := nz X 7 Y; have a9 := nz X 9 Y; have b5 := nz X 5 Z; have b7 := nz X 7 Z; have b9 := nz X 9 Z; have gg := gz X Y Z
  generalize decide (¬ (Z &&& hh X &&& ~~~(Y &&& hh X) &&& 1031#16) = 0#16) = G at *
  generalize decide (¬ (Y &&& hh X) = 0#16) = na at *
  generalize decide (¬ (Z &&& hh X) = 0#16) = nb at *
  generalize (hh X).getLsbD 5 = h5 at *; generalize (hh X).getLsbD 7 = h7 at *; generalize (hh X).getLsbD 9 = h9 at *
  generalize Y.getLsbD 5 = y5 at *; generalize Y.getLsbD 7 = y7 at *; generalize Y.getLsbD 9 = y9 at *
  generalize Z.getLsbD 5 = z5 at *; generalize Z.getLsbD 7 = z7 at *; generalize Z.getLsbD 9 = z9 at *
  have hc := andB (impB a5) (andB (impB a7) (andB (impB a9) (andB (impB b5) (andB (impB b7) (andB (impB b9) (andB (impB gg) (andB (eqB g0) (eqB g1))))))))
  clear g0 g1 a5 a7 a9 b5 b7 b9 gg X Y Z
  revert h5 h7 h9 y5 y7 y9 z5 z7 z9 na nb G
  decide +kernel
theorem ok6 (X Y Z : BitVec 16) (g0 : neqI (aI X Y) (I 0#16) = true) (g1 : neqI (bI X Z) (I 0#16) = false) (g2 : neqI (andNotI (andI (I 128#16) (hI X)) (bI X Z)) (I 0#16) = true) : (tree6 X Y Z).P := by
  apply Tq.ok
  unfold tree6 rest6
  simp only [c0, c1, c2, c3, c4, c5, c6, c7, c8, c9, c10, c11, c12, c13, c14, c15, c16, c17, c18, c19, c20, c21, c22, c23, c24, c25] at g0 g1 g2
  simp only [c0, c1, c2, c3, c4, c5, c6, c7, c8, c9, c10, c11, c12, c13, c14, c15, c16, c17, c18, c19, c20, c21, c22, c23, c24, c25, Tq.B]
  have a5 := nz X 5 Y; have a7 := nz X 7 Y; have a9 := nz X 9 Y; have b5 := nz X 5 Z; have b7 := nz X 7 Z; have b9 := nz X 9 Z; have gg := gz X Y Z
  generalize decide (¬ (Z &&& hh X &&& ~~~(Y &&& hh X) &&& 1031#16) = 0#16) = G at *
  generalize decide (¬ (Y &&& hh X) = 0#16) = na at *
  generalize decide (¬ (Z &&& hh X) = 0#16) = nb at *
  generalize (hh X).getLsbD 5 = h5 at *; generalize (hh X).getLsbD 7 = h7 at *; generalize (hh X).getLsbD 9 = h9 at *
  generalize Y.getLsbD 5 = y5 at *; generalize Y.getLsbD 7 = y7 at *; generalize Y.getLsbD 9 = y9 at *
  generalize Z.getLsbD 5 = z5 at *; generalize Z.getLsbD 7 = z7 at *; generalize Z.getLsbD 9 = z9 at *
  have hc := andB (impB a5) (andB (impB a7) (andB (impB a9) (andB (impB b5) (andB (impB b7) (andB (impB b9) (andB (impB gg) (andB (eqB g0) (andB (eqB g1) (eqB g2)))))))))
  clear g0 g1 g2 a5 a7 a9 b5 b7 b9 gg X Y Z
  revert h5 h7 h9 y5 y7 y9 z5 z7 z9 na nb G
  decide +kernel
theorem ok7 (X Y Z : BitVec 16) (g0 : neqI (aI X Y) (I 0#16) = true) (g1 : neqI (bI X Z) (I 0#16) = false) (g2 : neqI (andNotI (andI (I 128#16) (hI X)) (bI X Z)) (I 0#16) = false) : (tree7 X Y Z).P := by
  apply Tq.ok
  unfold tree7 rest7
  simp only [c0, c1, c2, c3, c4, c5, c6, c7, c8, c9, c10, c11, c12, c13, c14, c15, c16, c17, c18, c19, c20, c21, c22, c23, c24, c25] at g0 g1 g2
  simp only [c0, c1, c2, c3, c4, c5, c6, c7, c8, c9, c10, c11, c12, c13, c14, c15, c16, c17, c18, c19, c20, c21, c22, c23, c24, c25, Tq.B]
  have a5 := nz X 5 Y; have a7 := nz X 7 Y; have a9 := nz X 9 Y; have b5 := nz X 5 Z; have b7 := nz X 7 Z; have b9 := nz X 9 Z; have gg := gz X Y Z
  generalize decide (¬ (Z &&& hh X &&& ~~~(Y &&& hh X) &&& 1031#16) = 0#16) = G at *
  generalize decide (¬ (Y &&& hh X) = 0#16) = na at *
  generalize decide (¬ (Z &&& hh X) = 0#16) = nb at *
  generalize (hh X).getLsbD 5 = h5 at *; generalize (hh X).getLsbD 7 = h7 at *; generalize (hh X).getLsbD 9 = h9 at *
  generalize Y.getLsbD 5 = y5 at *; generalize Y.getLsbD 7 = y7 at *; generalize Y.getLsbD 9 = y9 at *
  generalize Z.getLsbD 5 = z5 at *; generalize Z.getLsbD 7 = z7 at *; generalize Z.getLsbD 9 = z9 at *
  have hc := andB (impB a5) (andB (impB a7) (andB (impB a9) (andB (impB b5) (andB (impB b7) (andB (impB b9) (andB (impB gg) (andB (eqB g0) (andB (eqB g1) (eqB g2)))))))))
  clear g0 g1 g2 a5 a7 a9 b5 b7 b9 gg X Y Z
  revert h5 h7 h9 y5 y7 y9 z5 z7 z9 na nb G
  decide +kernel
theorem ok8 (X Y Z : BitVec 16) (g0 : neqI (aI X Y) (I 0#16) = true) (g1 : neqI (bI X Z) (I 0#16) = true) (g2 : neqI (orI (andNotI (andI (I 128#16) (hI X)) (bI X Z)) (andNotI (andI (I 32#16) (hI X)) (aI X Y))) (I 0#16) = true) : (tree8 X Y Z).P := by
  apply Tq.ok
  unfold tree8 rest8
  simp only [c0, c1, c2, c3, c4, c5, c6, c7, c8, c9, c10, c11, c12, c13, c14, c15, c16, c17, c18, c19, c20, c21, c22, c23, c24, c25] at g0 g1 g2
  simp only [c0, c1, c2, c3, c4, c5, c6, c7, c8, c9, c10, c11, c12, c13, c14, c15, c16, c17, c18, c19, c20, c21, c22, c23, c24, c25, Tq.B]
  have a5 := nz X 5 Y; have a7 := nz X 7 Y; have a9 := nz X 9 Y; have b5 := nz X 5 Z; have b7 := nz X 7 Z; have b9 := nz X 9 Z; have gg := gz X Y Z
  generalize decide (¬ (Z &&& hh X &&& ~~~(Y &&& hh X) &&& 1031#16) = 0#16) = G at *
  generalize decide (¬ (Y &&& hh X) = 0#16) = na at *
  generalize decide (¬ (Z &&& hh X) = 0#16) = nb at *
  generalize (hh X).getLsbD 5 = h5 at *; generalize (hh X).getLsbD 7 = h7 at *; generalize (hh X).getLsbD 9 = h9 at *
  generalize Y.getLsbD 5 = y5 at *; generalize Y.getLsbD 7 = y7 at *; generalize Y.getLsbD 9 = y9 at *
  generalize Z.getLsbD 5 = z5 at *; generalize Z.getLsbD 7 = z7 at *; generalize Z.getLsbD 9 = z9 at *
  have hc := andB (impB a5) (andB (impB a7) (andB (impB a9) (andB (impB b5) (andB (impB b7) (andB (impB b9) (andB (impB gg) (andB (eqB g0) (andB (eqB g1) (eqB g2)))))))))
  clear g0 g1 g2 a5 a7 a9 b5 b7 b9 gg X Y Z
  revert h5 h7 h9 y5 y7 y9 z5 z7 z9 na nb G
  decide +kernel
theorem ok9 (X Y Z : BitVec 16) (g0 : neqI (aI X Y) (I 0#16) = true) (g1 : neqI (bI X Z) (I 0#16) = true) (g2 : neqI (orI (andNotI (andI (I 128#16) (hI X)) (bI X Z)) (andNotI (andI (I 32#16) (hI X)) (aI X Y))) (I 0#16) = false) (g3 : eqlI (andNotI (I 512#16) (hI X)) (I 0#16) = true) (g4 : eqlI (andNotI (I 512#16) (aI X Y)) (I 0#16) = true) (g5 : eqlI (andNotI (I 512#16) (bI X Z)) (I 0#16) = true) : (tree9 X Y Z).P := by
  apply Tq.ok
  unfold tree9 rest9
  simp only [c0, c1, c2, c3, c4, c5, c6, c7, c8, c9, c10, c11, c12, c13, c14, c15, c16, c17, c18, c19, c20, c21, c22, c23, c24, c25] at g0 g1 g2 g3 g4 g5
  simp only [c0, c1, c2, c3, c4, c5, c6, c7, c8, c9, c10, c11, c12, c13, c14, c15, c16, c17, c18, c19, c20, c21, c22, c23, c24, c25, Tq.B]
  have a5 := nz X 5 Y; have a7 := nz X 7 Y; have a9 := nz X 9 Y; have b5 := nz X 5 Z; have b7 := nz X 7 Z; have b9 := nz X 9 Z; have gg := gz X Y Z
  generalize decide (¬ (Z &&& hh X &&& ~~~(Y &&& hh X) &&& 1031#16) = 0#16) = G at *
  generalize decide (¬ (Y &&& hh X) = 0#16) = na at *
  generalize decide (¬ (Z &&& hh X) = 0#16) = nb at *
  generalize (hh X).getLsbD 5 = h5 at *; generalize (hh X).getLsbD 7 = h7 at *; generalize (hh X).getLsbD 9 = h9 at *
  generalize Y.getLsbD 5 = y5 at *; generalize Y.getLsbD 7 = y7 at *; generalize Y.getLsbD 9 = y9 at *
  generalize Z.getLsbD 5 = z5 at *; generalize Z.getLsbD 7 = z7 at *; generalize Z.getLsbD 9 = z9 at *
  have hc := andB (impB a5) (andB (impB a7) (andB (impB a9) (andB (impB b5) (andB (impB b7) (andB (impB b9) (andB (impB gg) (andB (eqB g0) (andB (eqB g1) (andB (eqB g2) (andB (eqB g3) (andB (eqB g4) (eqB g5))))))))))))
  clear g0 g1 g2 g3 g4 g5 a5 a7 a9 b5 b7 b9 gg X Y Z
  revert h5 h7 h9 y5 y7 y9 z5 z7 z9 na nb G
  decide +kernel
theorem ok10 (X Y Z : BitVec 16) (g0 : neqI (aI X Y) (I 0#16) = true) (g1 : neqI (bI X Z) (I 0#16) = true) (g2 : neqI (orI (andNotI (andI (I 128#16) (hI X)) (bI X Z)) (andNotI (andI (I 32#16) (hI X)) (aI X Y))) (I 0#16) = false) (g3 : eqlI (andNotI (I 512#16) (hI X)) (I 0#16) = true) (g4 : eqlI (andNotI (I 512#16) (aI X Y)) (I 0#16) = true) (g5 : eqlI (andNotI (I 512#16) (bI X Z)) (I 0#16) = false) : (tree10 X Y Z).P := by
  apply Tq.ok
  unfold tree10 rest10
  simp only [c0, c1, c2, c3, c4, c5, c6, c7, c8, c9, c10, c11, c12, c13, c14, c15, c16, c17, c18, c19, c20, c21, c22, c23, c24, c25] at g0 g1 g2 g3 g4 g5
  simp only [c0, c1, c2, c3, c4, c5, c6, c7, c8, c9, c10, c11, c12, c13, c14, c15, c16, c17, c18, c19, c20, c21, c22, c23, c24, c25, Tq.B]
  have a5 := nz X 5 Y; have a7 := nz X 7 Y; have a9 := nz X 9 Y; have b5 := nz X 5 Z; have b7 := nz X 7 Z; have b9 := nz X 9 Z; have gg := gz X Y Z
  generalize decide (¬ (Z &&& hh X &&& ~~~(Y &&& hh X) &&& 1031#16) = 0#16) = G at *
  generalize decide (¬ (Y &&& hh X) = 0#16) = na at *
  generalize decide (¬ (Z &&& hh X) = 0#16) = nb at *
  generalize (hh X).getLsbD 5 = h5 at *; generalize (hh X).getLsbD 7 = h7 at *; generalize (hh X).getLsbD 9 = h9 at *
  generalize Y.getLsbD 5 = y5 at *; generalize Y.getLsbD 7 = y7 at *; generalize Y.getLsbD 9 = y9 at *
  generalize Z.getLsbD 5 = z5 at *; generalize Z.getLsbD 7 = z7 at *; generalize Z.getLsbD 9 = z9 at *
  have hc := andB (impB a5) (andB (impB a7) (andB (impB a9) (andB (impB b5) (andB (impB b7) (andB (impB b9) (andB (impB gg) (andB (eqB g0) (andB (eqB g1) (andB (eqB g2) (andB (eqB g3) (andB (eqB g4) (eqB g5))))))))))))
  clear g0 g1 g2 g3 g4 g5 a5 a7 a9 b5 b7 b9 gg X Y Z
  revert h5 h7 h9 y5 y7 y9 z5 z7 z9 na nb G
  decide +kernel
theorem ok11 (X Y Z : BitVec 16) (g0 : neqI (aI X Y) (I 0#16) = true) (g1 : neqI (bI X Z) (I 0#16) = true) (g2 : neqI (orI (andNotI (andI (I 128#16) (hI X)) (bI X Z)) (andNotI (andI (I 32#16) (hI X)) (aI X Y))) (I 0#16) = false) (g3 : eqlI (andNotI (I 512#16) (hI X)) (I 0#16) = true) (g4 : eqlI (andNotI (I 512#16) (aI X Y)) (I 0#16) = false) : (tree11 X Y Z).P := by
  apply Tq.ok
  unfold tree11 rest11
  simp only [c0, c1, c2, c3, c4, c5, c6, c7, c8, c9, c10, c11, c12, c13, c14, c15, c16, c17, c18, c19, c20, c21, c22, c23, c24, c25] at g0 g1 g2 g3 g4
  simp only [c0, c1, c2, c3, c4, c5, c6, c7, c8, c9, c10, c11, c12, c13, c14, c15, c16, c17, c18, c19, c20, c21, c22, c23, c24, c25, Tq.B]
  have a5 := nz X 5 Y; have a7 := nz X 7 Y; have a9 := nz X 9 Y; have b5 := nz X 5 Z; have b7 := nz X 7 Z; have b9 := nz X 9 Z; have gg := gz X Y Z
  generalize decide (¬ (Z &&& hh X &&& ~~~(Y &&& hh X) &&& 1031#16) = 0#16) = G at *
  generalize decide (¬ (Y &&& hh X) = 0#16) = na at *
  generalize decide (¬ (Z &&& hh X) = 0#16) = nb at *
  generalize (hh X).getLsbD 5 = h5 at *; generalize (hh X).getLsbD 7 = h7 at *; generalize (hh X).getLsbD 9 = h9 at *
  generalize Y.getLsbD 5 = y5 at *; generalize Y.getLsbD 7 = y7 at *; generalize Y.getLsbD 9 = y9 at *
  generalize Z.getLsbD 5 = z5 at *; generalize Z.getLsbD 7 = z7 at *; generalize Z.getLsbD 9 = z9 at *
  have hc := andB (impB a5) (andB (impB a7) (andB (impB a9) (andB (impB b5) (andB (impB b7) (andB (impB b9) (andB (impB gg) (andB (eqB g0) (andB (eqB g1) (andB (eqB g2) (andB (eqB g3) (eqB g4)))))))))))
  clear g0 g1 g2 g3 g4 a5 a7 a9 b5 b7 b9 gg X Y Z
  revert h5 h7 h9 y5 y7 y9 z5 z7 z9 na nb G
  decide +kernel
theorem ok12 (X Y Z : BitVec 16) (g0 : neqI (aI X Y) (I 0#16) = true) (g1 : neqI (bI X Z) (I 0#16) = true) (g2 : neqI (orI (andNotI (andI (I 128#16) (hI X)) (bI X Z)) (andNotI (andI (I 32#16) (hI X)) (aI X Y))) (I 0#16) = false) (g3 : eqlI (andNotI (I 512#16) (hI X)) (I 0#16) = false) : (tree12 X Y Z).P := by
  apply Tq.ok
  unfold tree12 rest12
  simp only [c0, c1, c2, c3, c4, c5, c6, c7, c8, c9, c10, c11, c12, c13, c14, c15, c16, c17, c18, c19, c20, c21, c22, c23, c24, c25] at g0 g1 g2 g3
  simp only [c0, c1, c2, c3, c4, c5, c6, c7, c8, c9, c10, c11, c12, c13, c14, c15, c16, c17, c18, c19, c20, c21, c22, c23, c24, c25, Tq.B]
  have a5 := nz X 5 Y; have a7 := nz X 7 Y; have a9 := nz X 9 Y; have b5 := nz X 5 Z; have b7 := nz X 7 Z; have b9 := nz X 9 Z; have gg := gz X Y Z
  generalize decide (¬ (Z &&& hh X &&& ~~~(Y &&& hh X) &&& 1031#16) = 0#16) = G at *
  generalize decide (¬ (Y &&& hh X) = 0#16) = na at *
  generalize decide (¬ (Z &&& hh X) = 0#16) = nb at *
  generalize (hh X).getLsbD 5 = h5 at *; generalize (hh X).getLsbD 7 = h7 at *; generalize (hh X).getLsbD 9 = h9 at *
  generalize Y.getLsbD 5 = y5 at *; generalize Y.getLsbD 7 = y7 at *; generalize Y.getLsbD 9 = y9 at *
  generalize Z.getLsbD 5 = z5 at *; generalize Z.getLsbD 7 = z7 at *; generalize Z.getLsbD 9 = z9 at *
  have hc := andB (impB a5) (andB (impB a7) (andB (impB a9) (andB (impB b5) (andB (impB b7) (andB (impB b9) (andB (impB gg) (andB (eqB g0) (andB (eqB g1) (andB (eqB g2) (eqB g3))))))))))
  clear g0 g1 g2 g3 a5 a7 a9 b5 b7 b9 gg X Y Z
  revert h5 h7 h9 y5 y7 y9 z5 z7 z9 na nb G
  decide +kernel
theorem ok13 (X Y Z : BitVec 16) (g0 : neqI (aI X Y) (I 0#16) = true) (g1 : neqI (bI X Z) (I 0#16) = true) (g2 : neqI (andNotI (andI (I 128#16) (hI X)) (bI X Z)) (I 0#16) = true) : (tree13 X Y Z).P := by
  apply Tq.ok
  unfold tree13 rest13
  simp only [c0, c1, c2, c3, c4, c5, c6, c7, c8, c9, c10, c11, c12, c13, c14, c15, c16, c17, c18, c19, c20, c21, c22, c23, c24, c25] at g0 g1 g2
  simp only [c0, c1, c2, c3, c4, c5, c6, c7, c8, c9, c10, c11, c12, c13, c14, c15, c16, c17, c18, c19, c20, c21, c22, c23, c24, c25, Tq.B]
  have a5 := nz X 5 Y; have a7 := nz X 7 Y; have a9 := nz X 9 Y; have b5 := nz X 5 Z; have b7 := nz X 7 Z; have b9 := nz X 9 Z; have gg := gz X Y Z
  generalize decide (¬ (Z &&& hh X &&& ~~~(Y &&& hh X) &&& 1031#16) = 0#16) = G at *
  generalize decide (¬ (Y &&& hh X) = 0#16) = na at *
  generalize decide (¬ (Z &&& hh X) = 0#16) = nb at *
  generalize (hh X).getLsbD 5 = h5 at *; generalize (hh X).getLsbD 7 = h7 at *; generalize (hh X).getLsbD 9 = h9 at *
  generalize Y.getLsbD 5 = y5 at *; generalize Y.getLsbD 7 = y7 at *; generalize Y.getLsbD 9 = y9 at *
  generalize Z.getLsbD 5 = z5 at *; generalize Z.getLsbD 7 = z7 at *; generalize Z.getLsbD 9 = z9 at *
  have hc := andB (impB a5) (andB (impB a7) (andB (impB a9) (andB (impB b5) (andB (impB b7) (andB (impB b9) (andB (impB gg) (andB (eqB g0) (andB (eqB g1) (eqB g2)))))))))
  clear g0 g1 g2 a5 a7 a9 b5 b7 b9 gg X Y Z
  revert h5 h7 h9 y5 y7 y9 z5 z7 z9 na nb G
  decide +kernel
theorem ok14 (X Y Z : BitVec 16) (g0 : neqI (aI X Y) (I 0#16) = true) (g1 : neqI (bI X Z) (I 0#16) = true) (g2 : neqI (andNotI (andI (I 128#16) (hI X)) (bI X Z)) (I 0#16) = false) (g3 : eqlI (andNotI (I 512#16) (hI X)) (I 0#16) = true) (g4 : eqlI (andNotI (I 512#16) (aI X Y)) (I 0#16) = true) (g5 : eqlI (andNotI (I 512#16) (bI X Z)) (I 0#16) = true) (g6 : neqI (andI (andNotI (bI X Z) (aI X Y)) (I 1031#16)) (I 0#16) = true) : (tree14 X Y Z).P := by
  apply Tq.ok
  unfold tree14 rest14
  simp only [c0, c1, c2, c3, c4, c5, c6, c7, c8, c9, c10, c11, c12, c13, c14, c15, c16, c17, c18, c19, c20, c21, c22, c23, c24, c25] at g0 g1 g2 g3 g4 g5 g6
  simp only [c0, c1, c2, c3, c4, c5, c6, c7, c8, c9, c10, c11, c12, c13, c14, c15, c16, c17, c18, c19, c20, c21, c22, c23, c24, c25, Tq.B]
  have a5 := nz X 5 Y; have a7 := nz X 7 Y; have a9 := nz X 9 Y; have b5 := nz X 5 Z; have b7 := nz X 7 Z; have b9 := nz X 9 Z; have gg := gz X Y Z
  generalize decide (¬ (Z &&& hh X &&& ~~~(Y &&& hh X) &&& 1031#16) = 0#16) = G at *
  generalize decide (¬ (Y &&& hh X) = 0#16) = na at *
  generalize decide (¬ (Z &&& hh X) = 0#16) = nb at *
  generalize (hh X).getLsbD 5 = h5 at *; generalize (hh X).getLsbD 7 = h7 at *; generalize (hh X).getLsbD 9 = h9 at *
  generalize Y.getLsbD 5 = y5 at *; generalize Y.getLsbD 7 = y7 at *; generalize Y.getLsbD 9 = y9 at *
  generalize Z.getLsbD 5 = z5 at *; generalize Z.getLsbD 7 = z7 at *; generalize Z.getLsbD 9 = z9 at *
  have hc := andB (impB a5) (andB (impB a7) (andB (impB a9) (andB (impB b5) (andB (impB b7) (andB (impB b9) (andB (impB gg) (andB (eqB g0) (andB (eqB g1) (andB (eqB g2) (andB (eqB g3) (andB (eqB g4) (andB (eqB g5) (eqB g6)))))))))))))
  clear g0 g1 g2 g3 g4 g5 g6 a5 a7 a9 b5 b7 b9 gg X Y Z
  revert h5 h7 h9 y5 y7 y9 z5 z7 z9 na nb G
  decide +kernel
theorem ok15 (X Y Z : BitVec 16) (g0 : neqI (aI X Y) (I 0#16) = true) (g1 : neqI (bI X Z) (I 0#16) = true) (g2 : neqI (andNotI (andI (I 128#16) (hI X)) (bI X Z)) (I 0#16) = false) (g3 : eqlI (andNotI (I 512#16) (hI X)) (I 0#16) = true) (g4 : eqlI (andNotI (I 512#16) (aI X Y)) (I 0#16) = true) (g5 : eqlI (andNotI (I 512#16) (bI X Z)) (I 0#16) = true) (g6 : neqI (andI (andNotI (bI X Z) (aI X Y)) (I 1031#16)) (I 0#16) = false) : (tree15 X Y Z).P := by
  apply Tq.ok
  unfold tree15 rest15
  simp only [c0, c1, c2, c3, c4, c5, c6, c7, c8, c9, c10, c11, c12, c13, c14, c15, c16, c17, c18, c19, c20, c21, c22, c23, c24, c25] at g0 g1 g2 g3 g4 g5 g6
  simp only [c0, c1, c2, c3, c4, c5, c6, c7, c8, c9, c10, c11, c12, c13, c14, c15, c16, c17, c18, c19, c20, c21, c22, c23, c24, c25, Tq.B]
  have a5 := nz X 5 Y; have a7 := nz X 7 Y; have a9 := nz X 9 Y; have b5 := nz X 5 Z; have b7 := nz X 7 Z; have b9 := nz X 9 Z; have gg := gz X Y Z
  generalize decide (¬ (Z &&& hh X &&& ~~~(Y &&& hh X) &&& 1031#16) = 0#16) = G at *
  generalize decide (¬ (Y &&& hh X) = 0#16) = na at *
  generalize decide (¬ (Z &&& hh X) = 0#16) = nb at *
  generalize (hh X).getLsbD 5 = h5 at *; generalize (hh X).getLsbD 7 = h7 at *; generalize (hh X).getLsbD 9 = h9 at *
  generalize Y.getLsbD 5 = y5 at *; generalize Y.getLsbD 7 = y7 at *; generalize Y.getLsbD 9 = y9 at *
  generalize Z.getLsbD 5 = z5 at *; generalize Z.getLsbD 7 = z7 at *; generalize Z.getLsbD 9 = z9 at *
  have hc := andB (impB a5) (andB (impB a7) (andB (impB a9) (andB (impB b5) (andB (impB b7) (andB (impB b9) (andB (impB gg) (andB (eqB g0) (andB (eqB g1) (andB (eqB g2) (andB (eqB g3) (andB (eqB g4) (andB (eqB g5) (eqB g6)))))))))))))
  clear g0 g1 g2 g3 g4 g5 g6 a5 a7 a9 b5 b7 b9 gg X Y Z
  revert h5 h7 h9 y5 y7 y9 z5 z7 z9 na nb G
  decide +kernel
theorem ok16 (X Y Z : BitVec 16) (g0 : neqI (aI X Y) (I 0#16) = true) (g1 : neqI (bI X Z) (I 0#16) = true) (g2 : neqI (andNotI (andI (I 128#16) (hI X)) (bI X Z)) (I 0#16) = false) (g3 : eqlI (andNotI (I 512#16) (hI X)) (I 0#16) = true) (g4 : eqlI (andNotI (I 512#16) (aI X Y)) (I 0#16) = true) (g5 : eqlI (andNotI (I 512#16) (bI X Z)) (I 0#16) = false) : (tree16 X Y Z).P := by
  apply Tq.ok
  unfold tree16 rest16
  simp only [c0, c1, c2, c3, c4, c5, c6, c7, c8, c9, c10, c11, c12, c13, c14, c15, c16, c17, c18, c19, c20, c21, c22, c23, c24, c25] at g0 g1 g2 g3 g4 g5
  simp only [c0, c1, c2, c3, c4, c5, c6, c7, c8, c9, c10, c11, c12, c13, c14, c15, c16, c17, c18, c19, c20, c21, c22, c23, c24, c25, Tq.B]
  have a5 := nz X 5 Y; have a7 := nz X 7 Y; have a9 := nz X 9 Y; have b5 := nz X 5 Z; have b7 := nz X 7 Z; have b9 := nz X 9 Z; have gg := gz X Y Z
  generalize decide (¬ (Z &&& hh X &&& ~~~(Y &&& hh X) &&& 1031#16) = 0#16) = G at *
  generalize decide (¬ (Y &&& hh X) = 0#16) = na at *
  generalize decide (¬ (Z &&& hh X) = 0#16) = nb at *
  generalize (hh X).getLsbD 5 = h5 at *; generalize (hh X).getLsbD 7 = h7 at *; generalize (hh X).getLsbD 9 = h9 at *
  generalize Y.getLsbD 5 = y5 at *; generalize Y.getLsbD 7 = y7 at *; generalize Y.getLsbD 9 = y9 at *
  generalize Z.getLsbD 5 = z5 at *; generalize Z.getLsbD 7 = z7 at *; generalize Z.getLsbD 9 = z9 at *
  have hc := andB (impB a5) (andB (impB a7) (andB (impB a9) (andB (impB b5) (andB (impB b7) (andB (impB b9) (andB (impB gg) (andB (eqB g0) (andB (eqB g1) (andB (eqB g2) (andB (eqB g3) (andB (eqB g4) (eqB g5))))))))))))
  clear g0 g1 g2 g3 g4 g5 a5 a7 a9 b5 b7 b9 gg X Y Z
  revert h5 h7 h9 y5 y7 y9 z5 z7 z9 na nb G
  decide +kernel
theorem ok17 (X Y Z : BitVec 16) (g0 : neqI (aI X Y) (I 0#16) = true) (g1 : neqI (bI X Z) (I 0#16) = true) (g2 : neqI (andNotI (andI (I 128#16) (hI X)) (bI X Z)) (I 0#16) = false) (g3 : eqlI (andNotI (I 512#16) (hI X)) (I 0#16) = true) (g4 : eqlI (andNotI (I 512#16) (aI X Y)) (I 0#16) = false) : (tree17 X Y Z).P := by
  apply Tq.ok
  unfold tree17 rest17
  simp only [c0, c1, c2, c3, c4, c5, c6, c7, c8, c9, c10, c11, c12, c13, c14, c15, c16, c17, c18, c19, c20, c21, c22, c23, c24, c25] at g0 g1 g2 g3 g4
  simp only [c0, c1, c2, c3, c4, c5, c6, c7, c8, c9, c10, c11, c12, c13, c14, c15, c16, c17, c18, c19, c20, c21, c22, c23, c24, c25, Tq.B]
  have a5 := nz X 5 Y; have a7 := nz X 7 Y; have a9 := nz X 9 Y; have b5 := nz X 5 Z; have b7 := nz X 7 Z; have b9 := nz X 9 Z; have gg := gz X Y Z
  generalize decide (¬ (Z &&& hh X &&& ~~~(Y &&& hh X) &&& 1031#16) = 0#16) = G at *
  generalize decide (¬ (Y &&& hh X) = 0#16) = na at *
  generalize decide (¬ (Z &&& hh X) = 0#16) = nb at *
  generalize (hh X).getLsbD 5 = h5 at *; generalize (hh X).getLsbD 7 = h7 at *; generalize (hh X).getLsbD 9 = h9 at *
  generalize Y.getLsbD 5 = y5 at *; generalize Y.getLsbD 7 = y7 at *; generalize Y.getLsbD 9 = y9 at *
  generalize Z.getLsbD 5 = z5 at *; generalize Z.getLsbD 7 = z7 at *; generalize Z.getLsbD 9 = z9 at *
  have hc := andB (impB a5) (andB (impB a7) (andB (impB a9) (andB (impB b5) (andB (impB b7) (andB (impB b9) (andB (impB gg) (andB (eqB g0) (andB (eqB g1) (andB (eqB g2) (andB (eqB g3) (eqB g4)))))))))))
  clear g0 g1 g2 g3 g4 a5 a7 a9 b5 b7 b9 gg X Y Z
  revert h5 h7 h9 y5 y7 y9 z5 z7 z9 na nb G
  decide +kernel
theorem ok18 (X Y Z : BitVec 16) (g0 : neqI (aI X Y) (I 0#16) = true) (g1 : neqI (bI X Z) (I 0#16) = true) (g2 : neqI (andNotI (andI (I 128#16) (hI X)) (bI X Z)) (I 0#16) = false) (g3 : eqlI (andNotI (I 512#16) (hI X)) (I 0#16) = false) : (tree18 X Y Z).P := by
  apply Tq.ok
  unfold tree18 rest18
  simp only [c0, c1, c2, c3, c4, c5, c6, c7, c8, c9, c10, c11, c12, c13, c14, c15, c16, c17, c18, c19, c20, c21, c22, c23, c24, c25] at g0 g1 g2 g3
  simp only [c0, c1, c2, c3, c4, c5, c6, c7, c8, c9, c10, c11, c12, c13, c14, c15, c16, c17, c18, c19, c20, c21, c22, c23, c24, c25, Tq.B]
  have a5 := nz X 5 Y; have a7 := nz X 7 Y; have a9 := nz X 9 Y; have b5 := nz X 5 Z; have b7 := nz X 7 Z; have b9 := nz X 9 Z; have gg := gz X Y Z
  generalize decide (¬ (Z &&& hh X &&& ~~~(Y &&& hh X) &&& 1031#16) = 0#16) = G at *
  generalize decide (¬ (Y &&& hh X) = 0#16) = na at *
  generalize decide (¬ (Z &&& hh X) = 0#16) = nb at *
  generalize (hh X).getLsbD 5 = h5 at *; generalize (hh X).getLsbD 7 = h7 at *; generalize (hh X).getLsbD 9 = h9 at *
  generalize Y.getLsbD 5 = y5 at *; generalize Y.getLsbD 7 = y7 at *; generalize Y.getLsbD 9 = y9 at *
  generalize Z.getLsbD 5 = z5 at *; generalize Z.getLsbD 7 = z7 at *; generalize Z.getLsbD 9 = z9 at *
  have hc := andB (impB a5) (andB (impB a7) (andB (impB a9) (andB (impB b5) (andB (impB b7) (andB (impB b9) (andB (impB gg) (andB (eqB g0) (andB (eqB g1) (andB (eqB g2) (eqB g3))))))))))
  clear g0 g1 g2 g3 a5 a7 a9 b5 b7 b9 gg X Y Z
  revert h5 h7 h9 y5 y7 y9 z5 z7 z9 na nb G
  decide +kernel
end Go.Proofs.YtfobgbnjicmnaaaGreatDoor.kernelRefers
