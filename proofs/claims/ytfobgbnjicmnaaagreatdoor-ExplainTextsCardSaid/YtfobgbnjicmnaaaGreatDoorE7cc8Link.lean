/- THE FUNCTIONS, HELD AGAINST THE PROGRAM: written by program (gen2.py). -/
import Derived.Test.YtfobgbnjicmnaaaGreatDoorE7cc8F
import Derived.Test.YtfobgbnjicmnaaaGreatDoorE7cc8J0
import Derived.Test.YtfobgbnjicmnaaaGreatDoorE7cc8RX
import Derived.Test.YtfobgbnjicmnaaaGreatDoorProg
import Derived.KernelRfl
set_option linter.all false
set_option maxRecDepth 100000
set_option maxHeartbeats 4000000
namespace Go.Proofs.YtfobgbnjicmnaaaGreatDoor
open Go.AM
attribute [local irreducible] evD obls
def fidL:List Nat:=[0,0,307,0,180,0,0,0,77,50,228,444,0,120,0,36,52,0,0,293,357,344,290,0,0,0,0,0,0,0,0,318,0,0,265,360,0,319,0,341,0,0,17,0,20,0,0,0,0,0,0,0,0,0,0,0,0,0,0,0,113,0,0,0,69,0,0,0,108,259,124,278,75,0,61,208,29,0,0,0,0,0,273,0,178,0,0,0,316,169,112,119,280,279,281,0,337,170,0,0,107,270,60,274,33,139,0,277,276,0,0,148,73,0,0,0,74,0,0,0,0,263,0,72,442,147,0,0,0,0,326,327,47,111,198,338,0,0,0,118,117,0,0,0,0,0,0,0,70,0,0,0,0,0,89,368,199,172,272,173,0,116,171,115,257,258,328,329,331,334,335,336,333,332,330,248,249,251,254,255,256,253,252,250,364,311,312,366,365,367,310,314,313,315,382,358,0,0,54,216,83,0,0,217,206,80,0,0,218,285,125,179,126,81,0,0,0,0,121,0,0,191,192,138,142,200,203,205,207,34,0,0,275,271,0,143,174,175,176,122,123,79,196,129,260,177,261,262,264,184,185,186,317,267,359,268,376,378,377,320,321,388,380,389,390,391,400,395,394,401,406,407,0,0,0,0,0,0,0,0,0,0,0,0,0,0,0,37,0,0,0,0,0,0,0,76,0,0,0,0,0,0,0,0,0,0,0,0,0,197,209,0,202,13,0,0,0,0,0,0,0,0,0,0,0,0,0,0,30,0,0,0,0,64,0,0,0,86,0,114,0,0,57,58,82,0,165,164,163,166,110,0,0,0,0,109,0,162,443,168,127,236,235,239,241,240,225,226,227,229,230,231,232,233,234,243,0,167,219,220,221,222,223,224,245,246,247,181,182,183,294,238,237,297,298,299,242,289,291,292,301,302,303,0,0,244,286,87,287,288,308,309,266,345,346,296,295,347,348,349,350,352,355,356,354,353,351,300,342,343,304,305,306,339,340,371,372,373,375,374,370,369,386,387,385,383,384,396,397,402,398,403,399,405,404,408,409,410,414,415,411,412,413,422,421,416,417,418,419,420,0,0,0,0,0,0,445,0,0,0,0,0,0,10,35,38,39,40,41,42,43,44,78,26,49,84,85,128]
def tidL:List Nat:=[9]
def gidL:List Nat:=[0,1,2]
def sy (c:CallT):Sy:={ call:=c,fid:=fun n=>fidL.getD n 0,tid:=fun n=>tidL.getD n 0,gid:=fun n=>gidL.getD n 0 }
def kp.f12:Keep:={ keep:=fun n=>[[0,1,2,3,4],[0,1,2,3,9],[],[0,1,2,3,9],[],[0,1,2,3,9],[0,1,2,3,9,11],[0,1,2,3,9,11,12,13],[1,2,3,9,11,12,13,29,30,31],[1,2,3,9,11,12,13,29,30,31],[1,2,3,9,11,12,13,14,15,29,30,31],[1,2,3,9,11,12,13,14,15,29,30,31],[1,2,3,9,11,12,13,14,15,16,29,30,31],[1,2,3,9,11,14,15,29,30,31],[1,2,3,9,11,12,13,15,29,30,31],[1,2,3,9,11,12,13,15,17,29,30,31],[1,2,3,9,11,12,13,15,17,18,29,30,31],[],[1,2,3,9,11,12,13,29,30,31],[2,3,9,11,12,13],[2,3,9,12,13,19,20],[2,3,9,12,13,19,20,21],[2,3,9,12,13,19,20,21,23]].getD n [],order:=fun n=>[].getD n [] }
def pl.f12 (Q:VK) (c:CallT):Plan:=[
  (129639,fun S T H=>F.f12_j1 (sy c) Q (S 0) (T 1) (T 2) (T 3) (T 9) (T 11) (T 12) (T 13) (T 15) (T 29) (T 30) (T 31) H),
  (506,fun S T H=>F.f12_l1 (sy c) Q (T 1) (T 2) (T 3) (T 9) (T 11) (T 12) (T 13) (T 29) (T 30) (T 31) H (S 0))]

def kp.f18:Keep:={ keep:=fun n=>[[0],[0],[4],[],[4],[],[4],[],[]].getD n [],order:=fun n=>[].getD n [] }

def kp.f15:Keep:={ keep:=fun n=>[[0],[0],[0,3],[0,3],[0,3],[3]].getD n [],order:=fun n=>[].getD n [] }
def pl.f15 (Q:VK) (c:CallT):Plan:=[
  (14,fun S T H=>F.f15_l1 (sy c) Q (T 0) (T 3) H (S 0))]

def kp.f8:Keep:={ keep:=fun n=>[[0],[1],[1,3],[1,3,13],[1,3],[3,13],[3],[3,13],[3],[3]].getD n [],order:=fun n=>[].getD n [] }

def kp.f4:Keep:={ keep:=fun n=>[[0],[0,2],[0,2,4],[0,2,4,5],[0,2,4,5],[0,2,4,5],[0,2,4,5,6],[0,2,4,5],[2,4]].getD n [],order:=fun n=>[[],[],[],[],[],[(0,0),(1,1),(2,0),(3,0),(4,12),(5,28),(6,60),(7,127),(8,255)],[],[],[(0,0),(1,0),(2,2),(3,6),(4,1),(5,31)]].getD n [] }
def pl.f4 (Q:VK) (c:CallT):Plan:=[
  (58,fun S T H=>F.f4_l1 (sy c) Q (T 0) (T 2) (T 4) (T 5) H (S 0))]

def kp.f6:Keep:={ keep:=fun n=>[[0,1,2,3],[0,1,2,3],[],[0,1,2,3],[0,1,3,10,11,12],[12],[0,1,3,10,11],[1,3,10,13],[1,3,10,13,14],[3,10,13,14,43,44,45],[3,10,13,14,43,44,45],[3,10,13,14,15,16,43,44,45],[3,10,13,14,15,17,43,44,45],[3,10,13,14,15,17,43,44,45],[3,10,13,14,43,44,45],[14]].getD n [],order:=fun n=>[[],[],[],[],[],[],[(0,0),(2,0),(1,1),(3,7),(4,15)]].getD n [] }
def pl.f6 (Q:VK) (c:CallT):Plan:=[
  (1018,fun S T H=>F.f6_l1 (sy c) Q (T 3) (T 10) (T 13) (T 14) (T 43) (T 44) (T 45) H (S 0))]

def kp.f3:Keep:={ keep:=fun n=>[[0,1],[0,3],[],[0,3],[0,3,5],[3,5,15,16,17],[3,5,15,16,17],[3,5,6,7,15,16,17],[3,5,6,8,15,16,17],[3,5,15,16,17],[5]].getD n [],order:=fun n=>[].getD n [] }
def pl.f3 (Q:VK) (c:CallT):Plan:=[
  (122,fun S T H=>F.f3_l1 (sy c) Q (T 3) (T 5) (T 15) (T 16) (T 17) H (S 0))]

def kp.f7:Keep:={ keep:=fun n=>[[0,1,2],[0,1,2],[],[0,1,2],[0,1,2,7],[1,2,7,16,17,18],[1,2,7,16,17,18],[1,2,7,8,9,16,17,18],[1,2,7,8,16,17,18],[1,2,7,16,17,18],[7]].getD n [],order:=fun n=>[].getD n [] }
def pl.f7 (Q:VK) (c:CallT):Plan:=[
  (122,fun S T H=>F.f7_l1 (sy c) Q (T 1) (T 2) (T 7) (T 16) (T 17) (T 18) H (S 0))]

def kp.f5:Keep:={ keep:=fun n=>[[0],[1]].getD n [],order:=fun n=>[[],[(0,0),(1,1),(2,3),(3,7),(7,0),(8,128),(4,15),(5,31),(6,63),(9,415),(10,1023),(11,2047)]].getD n [] }

def kp.f17:Keep:={ keep:=fun n=>[[0],[0],[0,3],[0,3,4],[0,3,4,5],[0,3,4,5],[0,3,4,5],[0,3,4,5],[0,3,4,5],[0,3,4,5],[4],[],[4]].getD n [],order:=fun n=>[].getD n [] }
def pl.f17 (Q:VK) (c:CallT):Plan:=[
  (15653,fun S T H=>F.f17_j1 (sy c) Q (S 0) (T 0) (T 3) (T 4) (T 5) H),
  (122,fun S T H=>F.f17_l1 (sy c) Q (T 0) (T 3) (T 4) (T 5) H (S 0))]

def kp.f0:Keep:={ keep:=fun n=>[[0],[0],[0],[0]].getD n [],order:=fun n=>[].getD n [] }

def kp.f19:Keep:={ keep:=fun n=>[[0],[0],[3],[3,6],[3,6],[3,6],[3],[]].getD n [],order:=fun n=>[].getD n [] }
def pl.f19 (Q:VK) (c:CallT):Plan:=[
  (109,fun S T H=>F.f19_j1 (sy c) Q (T 3) (T 7) H)]

def kp.f20:Keep:={ keep:=fun n=>[[0],[0],[],[0]].getD n [],order:=fun n=>[].getD n [] }

def kp.f22:Keep:={ keep:=fun n=>[[0,1],[0,1],[1],[0]].getD n [],order:=fun n=>[].getD n [] }

def kp.f23:Keep:={ keep:=fun n=>[[0],[0],[0,3],[0,3,6,7],[0,3,6,7],[0,3,4,5,6,7],[0,3,5,6,7],[0,3,6,7],[3],[],[3]].getD n [],order:=fun n=>[].getD n [] }
def pl.f23 (Q:VK) (c:CallT):Plan:=[
  (58,fun S T H=>F.f23_l1 (sy c) Q (T 0) (T 3) (T 6) (T 7) H (S 0))]

def kp.f16:Keep:={ keep:=fun n=>[[],[]].getD n [],order:=fun n=>[].getD n [] }

def kp.f13:Keep:={ keep:=fun n=>[[0,1],[0,1]].getD n [],order:=fun n=>[].getD n [] }

def kp.f21:Keep:={ keep:=fun n=>[[0],[0],[4],[],[4],[],[4],[],[]].getD n [],order:=fun n=>[].getD n [] }

def kp.f24:Keep:={ keep:=fun n=>[[],[0]].getD n [],order:=fun n=>[].getD n [] }

def kp.f14:Keep:={ keep:=fun n=>[[0],[0],[0,3],[0,3,4],[0,3,4],[0,3,4],[3]].getD n [],order:=fun n=>[].getD n [] }
def pl.f14 (Q:VK) (c:CallT):Plan:=[
  (58,fun S T H=>F.f14_l1 (sy c) Q (T 0) (T 3) (T 4) H (S 0))]

def kpL:List (Nat×Keep):=[(10,kp.f12),(36,kp.f18),(37,kp.f15),(38,kp.f8),(39,kp.f4),(40,kp.f6),(41,kp.f3),(42,kp.f7),(43,kp.f5),(44,kp.f17),(76,kp.f0),(50,kp.f19),(52,kp.f20),(77,kp.f22),(84,kp.f23),(85,kp.f16),(86,kp.f13),(120,kp.f21),(128,kp.f24),(114,kp.f14)]
def kps (f:FuncId):Keep:=((kpL.find? (fun p=>p.1 == f)).map (fun p=>p.2)).getD { keep:=fun _=>[],order:=fun _=>[] }
def joinRen:Go.Shelf.Ren:=⟨fun n=>(([(156,129),(165,184),(166,185),(169,186),(240,267),(241,268),(276,320),(277,321)]:List (Nat×Nat)).find? fun p=>p.1 == n).elim 0 (·.2),fun n=>(([(0,0),(3,3),(4,4),(5,5),(9,9),(20,20),(31,124),(37,29),(70,353),(72,355),(75,357),(76,358),(80,125),(127,455),(164,514)]:List (Nat×Nat)).find? fun p=>p.1 == n).elim 0 (·.2),fun n=>n⟩
theorem joinLays:Go.Proofs.Lays.n156 Tryz.prog joinRen where
  mixed:=by kernel_rfl
  f156:=by kernel_rfl
  f165:=by kernel_rfl
  f166:=by kernel_rfl
  f169:=by kernel_rfl
  f240:=by kernel_rfl
  f241:=by kernel_rfl
  f276:=by kernel_rfl
  f277:=by kernel_rfl
  t0:=by kernel_rfl
  a0:=fun _=>by kernel_rfl
  z0:=fun _=>by kernel_rfl
  v0:=fun _=>by kernel_rfl
  t3:=by kernel_rfl
  a3:=fun _=>by kernel_rfl
  z3:=fun _=>by kernel_rfl
  v3:=fun _=>by kernel_rfl
  t4:=by kernel_rfl
  a4:=fun _=>by kernel_rfl
  z4:=fun _=>by kernel_rfl
  v4:=fun _=>by kernel_rfl
  t9:=by kernel_rfl
  a9:=fun _=>by kernel_rfl
  z9:=fun _=>by kernel_rfl
  v9:=fun _=>by kernel_rfl
  t20:=by kernel_rfl
  a20:=fun _=>by kernel_rfl
  z20:=fun _=>by kernel_rfl
  v20:=fun _=>by kernel_rfl
  t31:=by kernel_rfl
  a31:=fun _=>by kernel_rfl
  z31:=fun _=>by kernel_rfl
  v31:=fun _=>by kernel_rfl
  t37:=by kernel_rfl
  a37:=fun _=>by kernel_rfl
  z37:=fun _=>by kernel_rfl
  v37:=fun _=>by kernel_rfl
  t70:=by kernel_rfl
  a70:=fun _=>by kernel_rfl
  z70:=fun _=>by kernel_rfl
  v70:=fun _=>by kernel_rfl
  t72:=by kernel_rfl
  a72:=fun _=>by kernel_rfl
  z72:=fun _=>by kernel_rfl
  v72:=fun _=>by kernel_rfl
  t75:=by kernel_rfl
  a75:=fun _=>by kernel_rfl
  z75:=fun _=>by kernel_rfl
  v75:=fun _=>by kernel_rfl
  t76:=by kernel_rfl
  a76:=fun _=>by kernel_rfl
  z76:=fun _=>by kernel_rfl
  v76:=fun _=>by kernel_rfl
  t127:=by kernel_rfl
  a127:=fun _=>by kernel_rfl
  z127:=fun _=>by kernel_rfl
  v127:=fun _=>by kernel_rfl
  t164:=by kernel_rfl
  a164:=fun _=>by kernel_rfl
  z164:=fun _=>by kernel_rfl
  v164:=fun _=>by kernel_rfl
theorem joinExtra:Go.Proofs.Builder.Extra Tryz.prog joinRen where
  sizeBuilder:=by kernel_rfl
  liesBuilder:=by kernel_rfl
  t5:=by kernel_rfl
  a5:=fun _=>by kernel_rfl
  z5:=fun _=>by kernel_rfl
  v5:=fun _=>by kernel_rfl
  infoByte:=by kernel_rfl
  cellsByte:=by kernel_rfl
  sizeByte:=by kernel_rfl
  neB5:=by decide
def ext:CallT:=fun f args H K=>(f=35/\args=[]/\K (.bool true) H)\/(f=129/\∃ x0 x1,args=[x0,x1]/\strJoin x0 x1 H K)\/False
theorem extOk:CallOk Tryz.prog ext:=by
  rintro f args H K (⟨rfl,h⟩ | ⟨rfl,h⟩ | h)
  · exact explainTexts.awakeTold h
  · exact strJoin_told joinLays joinExtra h
  · exact h.elim
abbrev W:CallT:=CallW Tryz.prog kps ext
theorem mkF {i:Nat} {fn:Func} {kp:Keep} {code:Code} {args:List Value} {H:AH} {Q:VK} (pl:CallT->Plan) {G:CallT->Prop} (hfn:Tryz.prog.funcs[i]? = some fn)
    (h1 : (fn.body.isNone, (fn.name == "runtime.NumGoroutine"), codeOk Tryz.prog fn.ntmps (bodyOf fn), fn.body, kps i) = (false, false, true, some code, kp))
    (h2:∀ c,(obls Tryz.prog c kp (pl c) code 1 (fun _=>bodyK Tryz.prog fn.results.toList Q)).map (·.1)=(obls Tryz.prog c kp (pl c) code 1 (fun _=>bodyK Tryz.prog fn.results.toList Q)).map (·.2))
    (h3:∀ c,G c=evD Tryz.prog c kp (pl c) code nostk 1 (argEnv args) H (bodyK Tryz.prog fn.results.toList Q)) (h:G W):W i args H Q:=by
  simp only [Prod.mk.injEq] at h1
  obtain ⟨a,b,c,d,e⟩:=h1
  refine CallW.fold ⟨hfn,a,b,c⟩ ?_
  rw [e]
  exact evBody_of (pl:=pl W) fn args H Q code d (h2 W) (h3 W) h
theorem fold_f12 (x0 x1 x2 x3 x4:Value) (H:AH) (Q:VK):F.f12 (sy W) x0 x1 x2 x3 x4 H Q->W 10 [x0,x1,x2,x3,x4] H Q :=
  mkF (kp:=kp.f12) (code:=bodyOf Tryz.f10) (pl.f12 Q) (G:=fun c=>F.f12 (sy c) x0 x1 x2 x3 x4 H Q) Tryz.func10 (by kernel_rfl) (fun c=>by kernel_rfl) (fun c=>by kernel_rfl)
theorem fold_f18 (x0:Value) (H:AH) (Q:VK):F.f18 (sy W) x0 H Q->W 36 [x0] H Q :=
  mkF (kp:=kp.f18) (code:=bodyOf Tryz.f36) (fun _=>[]) (G:=fun c=>F.f18 (sy c) x0 H Q) Tryz.func36 (by kernel_rfl) (fun c=>by kernel_rfl) (fun c=>by kernel_rfl)
theorem fold_f15 (x0:Value) (H:AH) (Q:VK):F.f15 (sy W) x0 H Q->W 37 [x0] H Q :=
  mkF (kp:=kp.f15) (code:=bodyOf Tryz.f37) (pl.f15 Q) (G:=fun c=>F.f15 (sy c) x0 H Q) Tryz.func37 (by kernel_rfl) (fun c=>by kernel_rfl) (fun c=>by kernel_rfl)
theorem fold_f8 (x0:Value) (H:AH) (Q:VK):F.f8 (sy W) x0 H Q->W 38 [x0] H Q :=
  mkF (kp:=kp.f8) (code:=bodyOf Tryz.f38) (fun _=>[]) (G:=fun c=>F.f8 (sy c) x0 H Q) Tryz.func38 (by kernel_rfl) (fun c=>by kernel_rfl) (fun c=>by kernel_rfl)
theorem fold_f4 (x0:Value) (H:AH) (Q:VK):F.f4 (sy W) x0 H Q->W 39 [x0] H Q :=
  mkF (kp:=kp.f4) (code:=bodyOf Tryz.f39) (pl.f4 Q) (G:=fun c=>F.f4 (sy c) x0 H Q) Tryz.func39 (by kernel_rfl) (fun c=>by kernel_rfl) (fun c=>by kernel_rfl)
theorem fold_f6 (x0 x1 x2 x3:Value) (H:AH) (Q:VK):F.f6 (sy W) x0 x1 x2 x3 H Q->W 40 [x0,x1,x2,x3] H Q :=
  mkF (kp:=kp.f6) (code:=bodyOf Tryz.f40) (pl.f6 Q) (G:=fun c=>F.f6 (sy c) x0 x1 x2 x3 H Q) Tryz.func40 (by kernel_rfl) (fun c=>by kernel_rfl) (fun c=>by kernel_rfl)
theorem fold_f3 (x0 x1:Value) (H:AH) (Q:VK):F.f3 (sy W) x0 x1 H Q->W 41 [x0,x1] H Q :=
  mkF (kp:=kp.f3) (code:=bodyOf Tryz.f41) (pl.f3 Q) (G:=fun c=>F.f3 (sy c) x0 x1 H Q) Tryz.func41 (by kernel_rfl) (fun c=>by kernel_rfl) (fun c=>by kernel_rfl)
theorem fold_f7 (x0 x1 x2:Value) (H:AH) (Q:VK):F.f7 (sy W) x0 x1 x2 H Q->W 42 [x0,x1,x2] H Q :=
  mkF (kp:=kp.f7) (code:=bodyOf Tryz.f42) (pl.f7 Q) (G:=fun c=>F.f7 (sy c) x0 x1 x2 H Q) Tryz.func42 (by kernel_rfl) (fun c=>by kernel_rfl) (fun c=>by kernel_rfl)
theorem fold_f5 (x0:Value) (H:AH) (Q:VK):F.f5 (sy W) x0 H Q->W 43 [x0] H Q :=
  mkF (kp:=kp.f5) (code:=bodyOf Tryz.f43) (fun _=>[]) (G:=fun c=>F.f5 (sy c) x0 H Q) Tryz.func43 (by kernel_rfl) (fun c=>by kernel_rfl) (fun c=>by kernel_rfl)
theorem fold_f17 (x0:Value) (H:AH) (Q:VK):F.f17 (sy W) x0 H Q->W 44 [x0] H Q :=
  mkF (kp:=kp.f17) (code:=bodyOf Tryz.f44) (pl.f17 Q) (G:=fun c=>F.f17 (sy c) x0 H Q) Tryz.func44 (by kernel_rfl) (fun c=>by kernel_rfl) (fun c=>by kernel_rfl)
theorem fold_f0 (x0:Value) (H:AH) (Q:VK):F.f0 (sy W) x0 H Q->W 76 [x0] H Q :=
  mkF (kp:=kp.f0) (code:=bodyOf Tryz.f76) (fun _=>[]) (G:=fun c=>F.f0 (sy c) x0 H Q) Tryz.func76 (by kernel_rfl) (fun c=>by kernel_rfl) (fun c=>by kernel_rfl)
theorem fold_f19 (x0:Value) (H:AH) (Q:VK):F.f19 (sy W) x0 H Q->W 50 [x0] H Q :=
  mkF (kp:=kp.f19) (code:=bodyOf Tryz.f50) (pl.f19 Q) (G:=fun c=>F.f19 (sy c) x0 H Q) Tryz.func50 (by kernel_rfl) (fun c=>by kernel_rfl) (fun c=>by kernel_rfl)
theorem fold_f20 (x0:Value) (H:AH) (Q:VK):F.f20 (sy W) x0 H Q->W 52 [x0] H Q :=
  mkF (kp:=kp.f20) (code:=bodyOf Tryz.f52) (fun _=>[]) (G:=fun c=>F.f20 (sy c) x0 H Q) Tryz.func52 (by kernel_rfl) (fun c=>by kernel_rfl) (fun c=>by kernel_rfl)
theorem fold_f22 (x0 x1:Value) (H:AH) (Q:VK):F.f22 (sy W) x0 x1 H Q->W 77 [x0,x1] H Q :=
  mkF (kp:=kp.f22) (code:=bodyOf Tryz.f77) (fun _=>[]) (G:=fun c=>F.f22 (sy c) x0 x1 H Q) Tryz.func77 (by kernel_rfl) (fun c=>by kernel_rfl) (fun c=>by kernel_rfl)
theorem fold_f23 (x0:Value) (H:AH) (Q:VK):F.f23 (sy W) x0 H Q->W 84 [x0] H Q :=
  mkF (kp:=kp.f23) (code:=bodyOf Tryz.f84) (pl.f23 Q) (G:=fun c=>F.f23 (sy c) x0 H Q) Tryz.func84 (by kernel_rfl) (fun c=>by kernel_rfl) (fun c=>by kernel_rfl)
theorem fold_f16 (H:AH) (Q:VK):F.f16 (sy W) H Q->W 85 [] H Q :=
  mkF (kp:=kp.f16) (code:=bodyOf Tryz.f85) (fun _=>[]) (G:=fun c=>F.f16 (sy c) H Q) Tryz.func85 (by kernel_rfl) (fun c=>by kernel_rfl) (fun c=>by kernel_rfl)
theorem fold_f13 (x0 x1:Value) (H:AH) (Q:VK):F.f13 (sy W) x0 x1 H Q->W 86 [x0,x1] H Q :=
  mkF (kp:=kp.f13) (code:=bodyOf Tryz.f86) (fun _=>[]) (G:=fun c=>F.f13 (sy c) x0 x1 H Q) Tryz.func86 (by kernel_rfl) (fun c=>by kernel_rfl) (fun c=>by kernel_rfl)
theorem fold_f21 (x0:Value) (H:AH) (Q:VK):F.f21 (sy W) x0 H Q->W 120 [x0] H Q :=
  mkF (kp:=kp.f21) (code:=bodyOf Tryz.f120) (fun _=>[]) (G:=fun c=>F.f21 (sy c) x0 H Q) Tryz.func120 (by kernel_rfl) (fun c=>by kernel_rfl) (fun c=>by kernel_rfl)
theorem fold_f24 (H:AH) (Q:VK):F.f24 (sy W) H Q->W 128 [] H Q :=
  mkF (kp:=kp.f24) (code:=bodyOf Tryz.f128) (fun _=>[]) (G:=fun c=>F.f24 (sy c) H Q) Tryz.func128 (by kernel_rfl) (fun c=>by kernel_rfl) (fun c=>by kernel_rfl)
theorem fold_f14 (x0:Value) (H:AH) (Q:VK):F.f14 (sy W) x0 H Q->W 114 [x0] H Q :=
  mkF (kp:=kp.f14) (code:=bodyOf Tryz.f114) (pl.f14 Q) (G:=fun c=>F.f14 (sy c) x0 H Q) Tryz.func114 (by kernel_rfl) (fun c=>by kernel_rfl) (fun c=>by kernel_rfl)
theorem fold:Go.AM.Fold (sy W) where
  mono:=CallW.mono
  f12:=fold_f12
  f18:=fold_f18
  f15:=fold_f15
  f8:=fold_f8
  f4:=fold_f4
  f6:=fold_f6
  f3:=fold_f3
  f7:=fold_f7
  f5:=fold_f5
  f17:=fold_f17
  f0:=fold_f0
  f19:=fold_f19
  f20:=fold_f20
  f22:=fold_f22
  f23:=fold_f23
  f16:=fold_f16
  f13:=fold_f13
  f21:=fold_f21
  f24:=fold_f24
  f14:=fold_f14
  f11:=fun  H Q h=>CallW.ext (.inl<|⟨rfl,rfl,h⟩)
  f27:=fun x0 x1 H Q h=>CallW.ext (.inr <| .inl<|⟨rfl,x0,x1,rfl,h⟩)
end Go.Proofs.YtfobgbnjicmnaaaGreatDoor
