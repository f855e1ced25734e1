/- WHICH FUNCTIONS ARE USED; THE PLACES WHERE A RESULT IS SAID. -/
import Derived.Test.YtfobgbnjicmnaaaGreatDoorKee5bA2
import Derived.Test.YtfobgbnjicmnaaaGreatDoorProg
import Derived.KernelRfl
set_option linter.all false
set_option maxRecDepth 100000
set_option maxHeartbeats 4000000
namespace Go.Proofs.YtfobgbnjicmnaaaGreatDoor.kernelOrphans
open Go.AM
def mask : Nat := 2584772529969467050464766951633739807143091941581629152122939705408163962184266587524080826943276364301277459236612553216
def ids : ExtIds := { add := 89, load := 115, count := 389, index := 406 }
noncomputable def lib (st : Nat → Nat → Nat → Option Ast) : Lib := libX Tryz.prog (base0 Tryz.prog) ids mask st
noncomputable section
def cN (s : ByteArray) : Value := .int .i64 (s.size : Int)
def cD (s : ByteArray) : List Value := s.data.toList.map fun b => .int .u8 b.toNat
def cZ (s : ByteArray) : List Value := List.replicate s.size (.int .u8 0)
def st (r : Int) (s : ByteArray) (b : Nat) : Nat → Nat → Nat → Option Ast := stL [
  (9, [(3, 2, .val (.bool false)), (7, 1, .val (.int .u8 r)), (17, 34, .str s), (17, 36, .val (.bool false))]),
  (96, [(4, 6, .obj (.cells (cD s) (some 1)) (mkSlc s.size s.size)), (8, 6, .val (cN s))]),
  (139, [(8, 7, .val (.bool false)), (10, 8, .val (cN s)), (10, 9, .val (cN s)), (10, 10, .obj (.cells (cZ s) none) (mkSlc s.size s.size)), (11, 5, .copy (cZ s)),
    (12, 2, .cut (.slice (some ⟨b, 0, none⟩) s.size s.size)), (12, 4, .copy (cD s))])]
def stLong : Nat → Nat → Nat → Option Ast := stL [(9, [(3, 2, .val (.bool true))])]
end
end Go.Proofs.YtfobgbnjicmnaaaGreatDoor.kernelOrphans
