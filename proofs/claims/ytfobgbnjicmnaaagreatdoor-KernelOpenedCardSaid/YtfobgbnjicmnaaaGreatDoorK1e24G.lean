/- WHICH FUNCTIONS ARE USED; THE PLACES WHERE A RESULT IS SAID. -/
import Derived.Test.YtfobgbnjicmnaaaGreatDoorK1e24A2
import Derived.Test.YtfobgbnjicmnaaaGreatDoorProg
import Derived.KernelRfl
set_option linter.all false
set_option maxRecDepth 100000
set_option maxHeartbeats 4000000
namespace Go.Proofs.YtfobgbnjicmnaaaGreatDoor.kernelOpened
open Go.AM
def mask : Nat := 2584772529969467050184798858861514225411816925915754571040229141945753798944332023887118904543304629492936392981738764304
def ids : ExtIds := { add := 89, load := 115, count := 389, index := 406, shut := none }
def idsA : ExtIds := { add := 89, load := 115, count := 389, index := 406, shut := some 11 }
def maskA : Nat := 2584772529969467050184798858861514225411816925915754571040229141945753798944332023887118904543304629492936392981738762256
noncomputable def lib (st : Nat → Nat → Nat → Option Ast) : Lib := libX Tryz.prog (base0 Tryz.prog) idsA maskA st
noncomputable def lib0 : Lib := libX Tryz.prog (base0 Tryz.prog) ids mask noSt
noncomputable section
def cN (s : ByteArray) : Value := .int .i64 (s.size : Int)
def cD (s : ByteArray) : List Value := s.data.toList.map fun b => .int .u8 b.toNat
def cZ (s : ByteArray) : List Value := List.replicate s.size (.int .u8 0)
def cH (x : BitVec 16) : Value := .int .u16 ((x &&& 2047#16).toNat : Int)
def cP (x : BitVec 16) : Option Value := some (.agg ⟨[.string ⟨#[112]⟩, .int .u32 2147418112, .slice none 0 0, cH x, .slice none 0 0, .slice none 0 0]⟩)
def stLong : Nat → Nat → Nat → Option Ast := stL [(4, [(3, 2, .val (.bool true))])]
/-- The places that all short ways have: how, what is handled, what is denied of it, what is denied of cutting. -/
def stH (x : BitVec 16) (r c c' : Int) : List (Nat × List (Nat × Nat × Ast)) := [
  (4, [(5, 1, .val (cH x)), (6, 3, .mode 3), (8, 2, .val (.int .u8 r)), (11, 1, .mode 4), (15, 2, .mode 1), (21, 30, .val (.int .u16 c))]),
  (3221, [(1, 1, .val (.int .u16 0))]), (1081, [(1, 3, .val (.int .u16 c))]), (1193, [(2, 7, .mode 2)]), (2081, [(1, 3, .val (.int .u16 c'))]), (4161, [(6, 9, .same)])]
/-- With a text. -/
def stT (x : BitVec 16) (r c c' : Int) (s : ByteArray) (b : Nat) : List (Nat × List (Nat × Nat × Ast)) := [
  (4, [(3, 2, .val (.bool false)), (5, 1, .val (cH x)), (6, 3, .mode 3), (8, 2, .val (.int .u8 r)), (11, 1, .mode 4), (15, 2, .mode 1), (21, 30, .val (.int .u16 c)), (21, 50, .str s), (21, 52, .val (.bool true))]),
  (96, [(4, 6, .obj (.cells (cD s) (some 1)) (mkSlc s.size s.size)), (8, 6, .val (cN s))]),
  (139, [(8, 7, .val (.bool false)), (10, 8, .val (cN s)), (10, 9, .val (cN s)), (10, 10, .obj (.cells (cZ s) none) (mkSlc s.size s.size)), (11, 5, .copy (cZ s)),
    (12, 2, .cut (.slice (some ⟨b, 0, none⟩) s.size s.size)), (12, 4, .copy (cD s))]),
  (138, [(10, 6, .val (.bool false)), (12, 14, .val (cN s)), (12, 15, .val (cN s)), (12, 16, .val (cN s)), (12, 17, .cut (.slice (some ⟨b, 0, none⟩) s.size s.size)), (12, 18, .app (cD s))]),
  (95, [(7, 6, .val (cN s))])] ++ stH x r c c'
/-- With a text that isn't looked at. -/
def stR (x : BitVec 16) (r c c' : Int) : List (Nat × List (Nat × Nat × Ast)) := (4, [(3, 2, .val (.bool false)), (5, 1, .val (cH x)), (6, 3, .mode 3), (8, 2, .val (.int .u8 r)), (11, 1, .mode 4), (15, 2, .mode 1), (21, 30, .val (.int .u16 c))]) :: stH x r c c'
end
end Go.Proofs.YtfobgbnjicmnaaaGreatDoor.kernelOpened
