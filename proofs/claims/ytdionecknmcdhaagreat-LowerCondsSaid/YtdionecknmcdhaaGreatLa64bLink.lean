/- THE FUNCTIONS, HELD AGAINST THE PROGRAM: written by program (gen2.py). -/
import Derived.Test.YtdionecknmcdhaaGreatLa64bF
import Derived.Test.YtdionecknmcdhaaGreatProg
import Derived.KernelRfl
set_option linter.all false
set_option maxRecDepth 100000
set_option maxHeartbeats 4000000
namespace Go.Proofs.YtdionecknmcdhaaGreat
open Go.AM
attribute [local irreducible] evD obls
def fidL:List Nat:=[0,0,94,0,49,0,0,0,48,61,23,134,7,74,0,0,0,0,0,57,75,79,54,0,0,0,0,0,0,0,0,106,0,0,97,110,0,107,0,76,0,0,0,14,0,15,47,0,0,12,0,17,0,0,6,0,0,0,0,0,41,42,43,44,0,18,0,0,0,0,0,0,0,0,0,0,0,0,0,0,0,0,0,0,0,0,0,0,0,0,0,0,0,0,0,0,0,0,0,0,0,0,0,0,0,0,0,0,0,0,0,0,0,0,0,0,0,0,0,0,0,0,0,0,0,0,0,0,0,0,0,0,40,0,0,0,0,0,0,0,0,0,0,0,0,0,0,0,135,0,0,0,0,0,73,0,0,65,0,0,0,0,0,0,92,93,0,0,0,0,0,0,0,0,0,0,0,0,0,0,0,0,0,0,0,102,103,0,0,0,0,0,0,0,0,0,0,0,0,0,0,0,0,0,0,0,0,0,0,0,0,0,0,0,0,0,0,0,0,0,0,0,0,0,0,0,0,0,0,0,0,0,0,0,0,0,0,0,0,0,0,0,0,0,0,0,0,0,0,0,0,0,0,0,0,0,0,0,0,0,0,0,0,0,0,0,0,0,0,0,0,0,0,0,0,0,0,0,0,0,0,0,0,0,0,0,0,0,0,0,0,0,0,0,0,0,0,0,0,0,0,0,0,0,0,0,0,0,0,0,0,0,0,0,0,0,0,0,0,0,0,0,0,0,0,0,0,0,0,0,0,0,0,0,0,0,0,0,0,0,0,0,0,0,13,0,10,9,0,8,11,0,0,0,0,0,0,0,133,38,39,31,30,34,36,35,20,21,22,24,25,26,27,28,29,19,16,0,0,0,0,129,0,0,67,68,69,70,71,72,58,33,32,62,63,64,37,53,55,56,50,51,52,46,45,0,0,0,0,0,95,96,98,80,81,60,59,82,83,84,85,87,90,91,89,88,86,66,77,78,0,0,0,0,0,99,100,101,105,104,137,0,108,109,0,0,0,0,0,0,0,0,0,0,0,0,0,0,0,0,0,0,0,0,0,0,0,0,0,0,0,5,0,0,0,0,132,0,0,0,0,3,4]
def tidL:List Nat:=[9]
def gidL:List Nat:=[]
def sy (c:CallT):Sy:={ call:=c,fid:=fun n=>fidL.getD n 0,tid:=fun n=>tidL.getD n 0,gid:=fun n=>gidL.getD n 0 }
def kp.f52:Keep:={ keep:=fun n=>[[0,1,2,3],[2,3,4,5],[],[2,3,4,5],[2,3,28,29,30],[2,3,28,29,30],[2,3,10,28,29,30],[2,3,10,28,29,30],[2,3,10,11,28,29,30],[2,3,10,12,13,28,29,30],[2,3,10,13,14,15,28,29,30],[],[2,3,10,14,28,29,30],[2,3,10,14,28,29,30,92,93,94],[2,3,10,14,28,29,30,92,93,94],[2,3,10,14,17,28,29,30,92,93,94],[2,3,10,14,17,18,28,29,30,92,93,94],[2,3,10,14,17,18,28,29,30,92,93,94,99],[2,3,10,14,17,18,28,29,30,92,93,94,99],[2,3,10,14,17,18,19,28,29,30,92,93,94,99],[2,3,10,14,17,18,28,29,30,92,93,94,99],[2,3,10,14,17,18,28,29,30,92,93,94],[2,3,10,14,18,28,29,30,92,93,94],[2,3,10,14,18,20,28,29,30,92,93,94],[2,3,10,14,18,28,29,30,92,93,94],[2,3,10,14,18,20,28,29,30,92,93,94],[2,3,10,14,20,21,28,29,30,92,93,94],[],[2,3,10,14,28,29,30,92,93,94],[2,3,28,29,30],[]].getD n [],order:=fun n=>[[],[],[],[(0,0),(1,0),(5,0),(2,2),(3,7),(4,15)],[],[],[],[(1,0),(2,2),(6,0),(0,0),(3,7),(4,15),(5,31),(7,127)]].getD n [] }
def pl.f52 (Q:VK) (c:CallT):Plan:=[
  (979891007,fun S T H=>F.f52_j1 (sy c) Q (S 1) (S 0) (T 2) (T 3) (T 10) (T 14) (T 18) (T 20) (T 28) (T 29) (T 30) (T 92) (T 93) (T 94) H),
  (489945498,fun S T H=>F.f52_l3 (sy c) Q (S 2) (S 1) (T 2) (T 3) (T 10) (T 14) (T 17) (T 18) (T 28) (T 29) (T 30) (T 92) (T 93) (T 94) (T 99) H (S 0)),
  (478462,fun S T H=>F.f52_l2 (sy c) Q (S 1) (T 2) (T 3) (T 10) (T 14) (T 28) (T 29) (T 30) (T 92) (T 93) (T 94) H (S 0)),
  (58,fun S T H=>F.f52_l1 (sy c) Q (T 2) (T 3) (T 28) (T 29) (T 30) H (S 0))]

def kp.f51:Keep:={ keep:=fun n=>[[],[],[1,2],[2,3,4],[2,3,4,5],[2,4,5,7]].getD n [],order:=fun n=>[].getD n [] }

def kp.f49:Keep:={ keep:=fun n=>[[0],[1,2],[1,2,3],[1,2,3,4],[1,2,3,4],[2,4],[2,4]].getD n [],order:=fun n=>[[],[],[(0,0),(1,1),(2,3),(3,7),(4,0),(5,16),(6,48),(7,112),(8,0),(9,0),(10,512),(11,1536),(12,0),(13,4096),(14,15872),(15,32512),(16,65280),(17,131071),(18,0),(19,524287)]].getD n [] }

def kp.f54:Keep:={ keep:=fun n=>[[0],[0]].getD n [],order:=fun n=>[].getD n [] }

def kp.f17:Keep:={ keep:=fun n=>[[0],[1,2],[1,2,3],[1,2,3,4],[2,3,4,14,15,16],[2,3,4,14,15,16],[2,3,4,6,14,15,16],[2,3,4,14,15,16],[2,3,4],[2,3,32],[2,3,32],[2,3,7,8,32],[2,3,7,8,32],[2,3],[2,3]].getD n [],order:=fun n=>[[],[],[],[],[],[],[(0,0),(1,0),(2,2),(3,0),(4,0),(5,16),(6,56),(7,0),(8,128),(9,504),(10,1023)],[],[],[],[],[],[(0,0),(1,1),(2,0),(3,0),(4,8),(5,28),(6,60),(7,127),(8,255),(9,511)]].getD n [] }
def pl.f17 (Q:VK) (c:CallT):Plan:=[
  (250,fun S T H=>F.f17_l2 (sy c) Q (T 2) (T 3) (T 32) H (S 0)),
  (122,fun S T H=>F.f17_l1 (sy c) Q (T 2) (T 3) (T 4) (T 14) (T 15) (T 16) H (S 0))]

def kp.f37:Keep:={ keep:=fun n=>[[0],[1],[1,3],[1,3],[1,3,4,5],[1,3,4,5],[1,3,5],[1,3],[1,3,6],[1,3,6,45,46,47],[1,3,6,45,46,47],[1,3,6,8,45,46,47],[1,3,6,45,46,47],[1,3,6],[1,3,6],[1,3,6],[3,6,70,71,72],[3,6,70,71,72],[3,6,10,70,71,72],[3,6,10,70,71,72],[3,6,70,71,72],[3],[3]].getD n [],order:=fun n=>[[],[],[],[(0,0),(2,0),(3,4),(4,12),(1,1),(5,31),(6,63),(7,127)],[(0,0),(1,1),(2,3),(3,0),(4,15)],[],[],[],[],[],[],[(0,0),(1,0),(2,2),(3,0),(4,8),(5,24),(6,56),(7,127)],[],[(0,0),(1,1),(2,3),(3,0),(4,15)],[],[],[],[],[(0,0),(1,1),(2,3),(3,0),(4,0),(5,16),(6,56),(7,127)]].getD n [] }
def pl.f37 (Q:VK) (c:CallT):Plan:=[
  (32762,fun S T H=>F.f37_l2 (sy c) Q (T 3) (T 6) (T 70) (T 71) (T 72) H (S 0)),
  (4090,fun S T H=>F.f37_l1 (sy c) Q (T 1) (T 3) (T 6) (T 45) (T 46) (T 47) H (S 0))]

def kp.f32:Keep:={ keep:=fun n=>[[0],[0],[0,4],[0,4,5],[0,4,5],[0,4,5],[0,4,5,6],[6],[0,4,5],[],[4],[4,7],[4,7,8],[4,7,8],[4,7,8],[7]].getD n [],order:=fun n=>[].getD n [] }
def pl.f32 (Q:VK) (c:CallT):Plan:=[
  (250,fun S T H=>F.f32_l2 (sy c) Q (T 4) (T 7) (T 8) H (S 0)),
  (58,fun S T H=>F.f32_l1 (sy c) Q (T 0) (T 4) (T 5) H (S 0))]

def kp.f80:Keep:={ keep:=fun n=>[[0],[0,3],[0,3,4],[3,4],[0,3]].getD n [],order:=fun n=>[[],[],[],[(0,0),(1,0),(2,3)]].getD n [] }

def kp.f48:Keep:={ keep:=fun n=>[[0,1],[2,3],[],[2,3],[2,5],[2,5,20],[2,5],[2,5,20],[2,5],[2,5,20],[2,5],[2,5,20],[2,5],[2,5,20],[2,5],[2,5,20],[2,5],[2,5,20],[2,5],[]].getD n [],order:=fun n=>[].getD n [] }

def kp.f79:Keep:={ keep:=fun n=>[[0,1],[0,3],[],[0,3],[0,6],[0,6,7],[0,6,7],[0,6,7],[0,6,7],[0,6,7],[6,7],[7],[6,7]].getD n [],order:=fun n=>[[],[],[],[],[],[(0,0),(1,1),(2,3),(3,7),(4,15),(5,31),(6,15),(7,79),(8,207),(9,463),(10,975),(11,2047),(12,4095)],[(0,0),(1,1),(2,3),(3,7),(4,0),(5,16),(6,63),(7,127),(8,255)]].getD n [] }
def pl.f79 (Q:VK) (c:CallT):Plan:=[
  (124,fun S T H=>F.f79_l1 (sy c) Q (T 0) (T 6) (T 7) H (S 0))]

def kp.f50:Keep:={ keep:=fun n=>[[],[]].getD n [],order:=fun n=>[].getD n [] }

def kp.f64:Keep:={ keep:=fun n=>[[0,1]].getD n [],order:=fun n=>[].getD n [] }

def kp.f18:Keep:={ keep:=fun n=>[[0,1],[2,3]].getD n [],order:=fun n=>[[],[(0,0),(1,1),(3,0),(4,8),(2,3),(5,31),(6,63),(7,127)]].getD n [] }

def kp.f21:Keep:={ keep:=fun n=>[[0],[0],[0,3],[3,7,8,9],[3,7,8,9],[3,5,7,8,9],[3,6,7,8,9],[3,6,7,8,9],[3,6,7,8,9],[3,7,8,9],[3]].getD n [],order:=fun n=>[[],[],[],[],[],[(0,0),(1,1),(3,0),(4,8),(6,0),(2,3),(5,31),(7,127)]].getD n [] }
def pl.f21 (Q:VK) (c:CallT):Plan:=[
  (58,fun S T H=>F.f21_l1 (sy c) Q (T 3) (T 7) (T 8) (T 9) H (S 0))]

def kp.f63:Keep:={ keep:=fun n=>[[0,1],[0,1,4]].getD n [],order:=fun n=>[].getD n [] }

def kp.f19:Keep:={ keep:=fun n=>[[0,1],[2,3]].getD n [],order:=fun n=>[].getD n [] }

def kp.f38:Keep:={ keep:=fun n=>[[0,1],[0,1],[0,1,5,6],[5],[0,1],[0,1,7],[0,1,7],[7]].getD n [],order:=fun n=>[].getD n [] }

def kp.f28:Keep:={ keep:=fun n=>[[0],[0],[],[0],[0]].getD n [],order:=fun n=>[].getD n [] }

def kp.f13:Keep:={ keep:=fun n=>[[0],[0,2]].getD n [],order:=fun n=>[].getD n [] }

def kp.f30:Keep:={ keep:=fun n=>[[0,1],[0,3]].getD n [],order:=fun n=>[].getD n [] }

def kp.f27:Keep:={ keep:=fun n=>[[0,1,2,3,4]].getD n [],order:=fun n=>[].getD n [] }

def kp.f26:Keep:={ keep:=fun n=>[[0,1]].getD n [],order:=fun n=>[].getD n [] }

def kp.f40:Keep:={ keep:=fun n=>[[0,1,2],[0,1,2,10],[0],[0,1,2,10],[0,1,2],[0,1,2],[0,1,2,6],[0,1,2,6,7,8],[0,1,2,6,7,8],[0,1,2,6,8],[0,1,2,6,8],[0,1,2,6]].getD n [],order:=fun n=>[[],[],[(0,0),(1,1),(2,3),(3,0),(4,8),(5,24),(6,56),(7,127)],[],[(0,0),(1,1),(2,3),(3,0),(4,8),(5,24),(6,56),(7,0),(8,0),(9,256),(10,768),(11,1792),(12,3968),(13,0),(14,8192),(15,24576),(16,57344),(17,131071)],[],[(0,0),(1,1),(2,3),(4,0),(5,16),(6,48),(3,7),(7,127),(8,255),(9,511)],[(0,0),(1,1),(2,3),(3,0),(4,0),(5,24),(6,56),(7,120),(8,0),(9,0),(10,1023)]].getD n [] }

def kp.f39:Keep:={ keep:=fun n=>[[0,1],[0,10,11,12],[0,10,11,12],[0,5,10,11,12],[0,5,6,10,11,12],[0,5,6,10,11,12,21,22,23],[0,5,6,10,11,12,21,22,23],[0,5,6,8,10,11,12,21,22,23],[0,5,6,8,9,10,11,12,21,22,23],[0,5,6,9,10,11,12,21,22,23],[0,5,6,10,11,12,21,22,23],[0,5,6,10,11,12],[0,6,10,11,12],[0,10,11,12],[0]].getD n [],order:=fun n=>[[],[],[],[],[],[],[],[],[],[],[],[(0,0),(1,1),(2,3),(3,0),(4,0),(5,16),(6,56),(7,127)],[],[],[(0,0),(1,1),(2,3),(3,0),(4,8),(5,24),(6,56),(7,127)]].getD n [] }
def pl.f39 (Q:VK) (c:CallT):Plan:=[
  (10650,fun S T H=>F.f39_l2 (sy c) Q (S 1) (T 0) (T 5) (T 6) (T 10) (T 11) (T 12) (T 21) (T 22) (T 23) H (S 0)),
  (10,fun S T H=>F.f39_l1 (sy c) Q (T 0) (T 10) (T 11) (T 12) H (S 0))]

def kp.f42:Keep:={ keep:=fun n=>[[0],[0,7,8,9],[0,7,8,9],[0,3,7,8,9],[0,3,7,8,9],[0,7,8,9]].getD n [],order:=fun n=>[[],[],[],[(0,0),(1,1),(2,3),(3,0),(4,8),(5,24),(6,56),(7,0),(8,248),(9,511)],[(0,0),(1,1),(2,3),(3,0),(4,8),(5,31)]].getD n [] }
def pl.f42 (Q:VK) (c:CallT):Plan:=[
  (6,fun S T H=>F.f42_l1 (sy c) Q (T 0) (T 7) (T 8) (T 9) H (S 0))]

def kp.f29:Keep:={ keep:=fun n=>[[0],[0],[],[0]].getD n [],order:=fun n=>[].getD n [] }

def kp.f36:Keep:={ keep:=fun n=>[[0,1],[0,3],[],[0,3,10],[0,3],[0,3,6],[],[0,3],[0,3,10],[0,3],[],[0,3],[0,3,10],[0,3],[0,7,8],[],[0,7],[0,3,10],[0,3],[]].getD n [],order:=fun n=>[[],[],[],[],[(0,0),(1,1),(2,3),(3,7),(4,0),(5,16),(6,63),(7,127),(8,255),(9,255),(10,511),(11,2047)],[],[],[(0,0),(1,1),(2,3),(3,7),(4,0),(5,16),(6,0),(7,64),(8,192),(9,448),(10,960),(11,2047)],[],[],[],[(0,0),(1,0),(2,2),(3,6),(4,14),(5,0),(6,32),(7,96),(8,254),(9,511),(10,1023),(11,2047)]].getD n [] }

def kp.f0:Keep:={ keep:=fun n=>[[0],[0,2],[2],[0,2],[2],[0,2],[0,2,17,18,19],[0,2,17,18,19],[0,2,3,4,17,18,19],[0,2,3,5,17,18,19],[2,3,5],[0,2,17,18,19],[0,2],[0,2,6],[2,6],[0,2]].getD n [],order:=fun n=>[].getD n [] }
def pl.f0 (Q:VK) (c:CallT):Plan:=[
  (58,fun S T H=>F.f0_l1 (sy c) Q (T 0) (T 2) (T 17) (T 18) (T 19) H (S 0))]

def kp.f85:Keep:={ keep:=fun n=>[[0,1],[0,3],[0,3],[0,3,13],[0,3],[0,3,13],[0,3],[0,3,13],[0,3],[0,3,13],[0,3],[0,3,13],[0,3],[0,3,13],[0,3],[0,3,13],[0,3],[0,3],[0],[0,3,13],[0,3],[0],[0]].getD n [],order:=fun n=>[[],[],[],[],[],[],[],[],[(0,0),(1,0),(2,2),(3,6),(4,0),(5,16),(6,48),(7,112),(8,1),(9,257),(10,1023),(11,2047)],[],[(0,0),(1,0),(2,2),(3,6),(4,0),(5,16),(6,48),(7,112),(8,1),(9,257),(10,1023),(11,2047)],[],[],[],[],[],[(0,0),(1,0),(2,0),(3,4),(4,1),(5,17),(6,49),(7,127),(8,255),(9,511)]].getD n [] }

def kp.f78:Keep:={ keep:=fun n=>[[0,1],[0,1]].getD n [],order:=fun n=>[].getD n [] }

def kp.f75:Keep:={ keep:=fun n=>[[0,1,2],[0,1,2,6],[0,1,2,6,7,8],[0,1,2,6,7,8],[0,1,2,6,8],[0,1,2,6,7,8],[0,1,2,6,7],[0,1,2,6],[0,1,2,6],[0,1,2,6,7,8],[0,1,2,6,7,8],[0,1,2,6,8],[0,1,2,6,7,8],[0,1,2,6,7],[0,1,2,6,7,9],[0,1,2,6,7,9],[0,1,2,6]].getD n [],order:=fun n=>[].getD n [] }
def pl.f75 (Q:VK) (c:CallT):Plan:=[
  (3988,fun S T H=>F.f75_l3 (sy c) Q (S 1) (T 0) (T 1) (T 2) (T 6) (T 7) (T 8) H (S 0)),
  (62,fun S T H=>F.f75_l2 (sy c) Q (T 0) (T 1) (T 2) (T 6) H (S 0)),
  (28,fun S T H=>F.f75_l1 (sy c) Q (T 0) (T 1) (T 2) (T 6) (T 7) (T 8) H (S 0))]

def kp.f23:Keep:={ keep:=fun n=>[[0],[0],[0,3]].getD n [],order:=fun n=>[[],[],[(0,0),(1,0),(2,2),(3,7),(4,15)]].getD n [] }

def kp.f6:Keep:={ keep:=fun n=>[[0,1],[0,1],[0,1,5],[0,1,5,6],[6],[],[],[0,1,6],[],[0,1],[],[0,1],[],[]].getD n [],order:=fun n=>[].getD n [] }

def kp.f24:Keep:={ keep:=fun n=>[[0],[0],[0,3],[3,6,7,8],[3,6,7,8],[3,5,6,7,8],[3,5,6,7,8],[3,6,7,8],[3]].getD n [],order:=fun n=>[].getD n [] }
def pl.f24 (Q:VK) (c:CallT):Plan:=[
  (58,fun S T H=>F.f24_l1 (sy c) Q (T 3) (T 6) (T 7) (T 8) H (S 0))]

def kp.f22:Keep:={ keep:=fun n=>[[0],[0],[0,7,8,9],[0,7,8,9],[0,3,4,7,8,9],[0,3,4,7,8,9],[],[0,3,4,7,8,9],[0,4,7,8,9,33,34,35],[0,4,7,8,9,33,34,35],[0,4,6,7,8,9,33,34,35],[],[0,4,7,8,9,33,34,35],[0,7,8,9],[]].getD n [],order:=fun n=>[].getD n [] }
def pl.f22 (Q:VK) (c:CallT):Plan:=[
  (13518,fun S T H=>F.f22_l2 (sy c) Q (S 1) (T 0) (T 4) (T 7) (T 8) (T 9) (T 33) (T 34) (T 35) H (S 0)),
  (13513,fun S T H=>F.f22_j1 (sy c) Q (S 0) (T 0) (T 3) (T 4) (T 7) (T 8) (T 9) (T 14) H),
  (26,fun S T H=>F.f22_l1 (sy c) Q (T 0) (T 7) (T 8) (T 9) H (S 0))]

def kp.f45:Keep:={ keep:=fun n=>[[0],[0],[0]].getD n [],order:=fun n=>[].getD n [] }

def kp.f73:Keep:={ keep:=fun n=>[[0,1,2,3,4],[0,1,2,3,4,10],[0,1,2,3,4,10,11],[0,1,2,3,4,10,11,12],[0,1,2,4],[0,1,2,3,4,10,11,12],[0,1,2,4],[0,1,2,3,4,10,11,12],[0,1,2,3,4,10,11,12],[0,1,2,3,4,10,11,12],[0,1,2,3,4,10,11,12],[0,1,2,3,4,10,11,12,13,14],[0,1,2,3,4,10,11,12,13],[0,1,2,3,4,10,11,12,13],[0,1,2,3,4,10,11,12,13],[0,1,2,3,4,10,11,12,13,14],[0,1,2,3,4,10,11,12,13],[0,1,2,3,4,10,11,12,13],[0,1,2,3,4,10,11,13],[0,2,3,4,10,11,15],[0,1,2,3,4,12,13],[0,1,2,3,4,12,16,17],[0,1,2,3,4,11,12,16],[0,1,2,3,4,11,12,16,18,19],[0,1,2,3,4,11,16,18,19,20],[0,1,2,3,4,11,16,18,20],[0,1,2,3,4,10,11,16],[0,2,3,4,10,11,16],[0,1,2,3,4,11,16,19,20],[0,1,2,3,4,10,11,16],[0,1,3,4,10,11,16]].getD n [],order:=fun n=>[[],[],[],[],[],[],[],[],[],[],[],[],[],[],[],[],[],[(0,0),(1,1),(2,3),(3,7),(4,7),(5,7),(6,39),(7,119),(8,247),(9,7),(10,7),(11,1543),(12,3591),(13,8191),(14,16383),(15,32767),(16,65535)]].getD n [] }
def pl.f73 (Q:VK) (c:CallT):Plan:=[
  (7295,fun S T H=>F.f73_j3 (sy c) Q (S 0) (T 0) (T 1) (T 2) (T 3) (T 4) (T 10) (T 11) (T 12) (T 13) H),
  (3647,fun S T H=>F.f73_j2 (sy c) Q (S 0) (T 0) (T 1) (T 2) (T 3) (T 4) (T 10) (T 11) (T 12) (T 13) (T 14) H),
  (911,fun S T H=>F.f73_j1 (sy c) Q (S 0) (T 0) (T 1) (T 2) (T 3) (T 4) (T 10) (T 11) (T 12) H),
  (14,fun S T H=>F.f73_l1 (sy c) Q (T 0) (T 1) (T 2) (T 3) (T 4) (T 10) (T 11) H (S 0))]

def kp.f7:Keep:={ keep:=fun n=>[[0,1],[0,1],[0,1,5],[0,1,5,6],[6],[],[],[0,1,6],[],[0,1],[],[0,1],[],[]].getD n [],order:=fun n=>[].getD n [] }

def kp.f31:Keep:={ keep:=fun n=>[[0,1],[0,3],[0,3]].getD n [],order:=fun n=>[[],[],[(0,0),(1,0),(2,2),(3,6),(4,14),(5,0),(6,32),(7,126),(8,255),(9,511),(10,1023)]].getD n [] }

def kp.f11:Keep:={ keep:=fun n=>[[0,1,2,3],[0,1,2,3,8]].getD n [],order:=fun n=>[].getD n [] }

def kp.f25:Keep:={ keep:=fun n=>[[0,1]].getD n [],order:=fun n=>[].getD n [] }

def kp.f41:Keep:={ keep:=fun n=>[[0,1,2,3],[0,2,3,5],[0,2,3,5,8,9],[0,2,3,5,8,9,10],[0,2,3,5,8,9,10],[0,3],[0,2,3,5,8,9,10,31],[0,2,3,5,8,9,10],[0,2,3,5,9,10],[0,2,3,9],[0,2,3,5,8,9,10,31],[0,2,3,5,8,9,10],[0,2,3,5,9,10],[0,2,3,9],[0,2,3,5,8,9,10,31],[0,2,3,5],[0,2,3,5,8,9,10,31],[0,2,3,5],[0,2,3,5,8,9,10,31],[0,2,3,5],[0,2,3,5,8,9,10,31],[0,2,3,5],[0,2,3,5,8,9,10,31],[0,2,3,5,8,9,10],[0,2,3,5,8,9,10],[0,2,3,5,9,10],[0,2,3,5,9],[0,2,3,9]].getD n [],order:=fun n=>[[],[(0,0),(1,1),(2,3),(3,7),(4,0),(5,16),(6,48),(7,15),(8,255)],[],[(0,0),(1,1),(2,3),(3,0),(4,8),(5,24),(6,56),(7,127)],[],[],[],[],[],[],[],[],[],[],[],[],[],[],[],[],[],[],[],[(0,0),(1,1),(2,3),(3,0),(4,8),(5,24),(6,56),(7,120),(8,255)],[],[],[(0,0),(1,1),(2,3),(3,0),(4,8),(5,24),(6,56),(7,127)]].getD n [] }

def kp.f15:Keep:={ keep:=fun n=>[[0],[0,2]].getD n [],order:=fun n=>[].getD n [] }

def kp.f10:Keep:={ keep:=fun n=>[[0],[0]].getD n [],order:=fun n=>[].getD n [] }

def kp.f33:Keep:={ keep:=fun n=>[[0,1],[0,1],[0,6,7]].getD n [],order:=fun n=>[].getD n [] }

def kp.f35:Keep:={ keep:=fun n=>[[0,1]].getD n [],order:=fun n=>[[(0,0),(1,0),(2,2),(3,6),(4,14),(5,0),(6,32),(7,96),(8,224),(9,510),(10,1023),(11,2047),(12,4095)]].getD n [] }

def kp.f34:Keep:={ keep:=fun n=>[[0,1],[0,3],[0,3,5,6],[0,3,5,6,7,8],[],[0,3,5,6,7,8],[],[0,3,5,7],[0,3,5,7],[0,3,5],[0,3,5,7],[0,3,5,7],[0,3,7],[0,3,5,7],[0,5,7,9],[0,9],[]].getD n [],order:=fun n=>[[],[],[],[],[],[],[],[],[],[],[],[],[],[],[],[(0,0),(1,0),(2,2),(3,6),(4,14),(5,0),(6,32),(7,126),(8,255),(9,511),(10,1023)]].getD n [] }
def pl.f34 (Q:VK) (c:CallT):Plan:=[
  (127,fun S T H=>F.f34_j2 (sy c) Q (T 0) (T 3) (T 5) (T 7) H),
  (63,fun S T H=>F.f34_j1 (sy c) Q (T 0) (T 3) (T 5) (T 7) H)]

def kp.f3:Keep:={ keep:=fun n=>[[0,1,2],[1,2,3],[3,7],[],[3,7],[],[3,7],[],[3],[],[3],[],[3],[],[3],[],[]].getD n [],order:=fun n=>[].getD n [] }

def kp.f1:Keep:={ keep:=fun n=>[[0],[1]].getD n [],order:=fun n=>[].getD n [] }

def kp.f2:Keep:={ keep:=fun n=>[[0],[0,2],[0,2,3],[0,2,3,14,15],[0,2,3,14,15],[0,2,3,4,14,15],[0,2,3,14,15],[0,2,3],[0,2,3],[2,3,24,25,26],[2,3,24,25,26],[2,3,5,6,24,25,26],[2,3,5,6,7,24,25,26],[2,3,5,6,7,24,25,26,36],[2,3,5,6,7,24,25,26,36],[2,3,5,6,7,24,25,26],[2,5],[2,3,5,6,7,24,25,26,36],[2,3,5,6,7,24,25,26,36],[2,3,5,6,7,24,25,26],[2,3,5,6,7,24,25,26],[2,3,7,24,25,26,58,59,60],[2,3,7,24,25,26,58,59,60],[2,3,7,9,24,25,26,58,59,60],[2,3,7,24,25,26,58,59,60],[2,3,24,25,26],[2]].getD n [],order:=fun n=>[].getD n [] }
def pl.f2 (Q:VK) (c:CallT):Plan:=[
  (256414,fun S T H=>F.f2_l3 (sy c) Q (S 1) (T 2) (T 3) (T 7) (T 24) (T 25) (T 26) (T 58) (T 59) (T 60) H (S 0)),
  (64103,fun S T H=>F.f2_j1 (sy c) Q (S 0) (T 2) (T 3) (T 5) (T 6) (T 7) (T 24) (T 25) (T 26) H),
  (2051287,fun S T H=>F.f2_j3 (sy c) Q (S 0) (T 2) (T 3) (T 5) (T 6) (T 7) (T 24) (T 25) (T 26) (T 48) H),
  (512821,fun S T H=>F.f2_j2 (sy c) Q (S 0) (T 2) (T 3) (T 5) (T 6) (T 7) (T 24) (T 25) (T 26) (T 36) (T 37) H),
  (250,fun S T H=>F.f2_l2 (sy c) Q (T 2) (T 3) (T 24) (T 25) (T 26) H (S 0)),
  (58,fun S T H=>F.f2_l1 (sy c) Q (T 0) (T 2) (T 3) (T 14) (T 15) H (S 0))]

def kp.f82:Keep:={ keep:=fun n=>[[0,1],[0,3],[0,3,9],[0,3],[5],[0,3,9],[0,3],[3,9],[],[3]].getD n [],order:=fun n=>[[],[],[],[(0,0),(1,1),(2,3),(3,7),(4,0),(5,16),(6,63),(7,127),(8,255),(9,255),(10,511),(11,2047)],[],[],[(0,0),(1,0),(2,2),(3,6),(4,1),(5,17),(6,63),(7,127),(8,255)]].getD n [] }

def kp.f84:Keep:={ keep:=fun n=>[[0,1],[0,3],[0,3,4],[0,4,10],[0,4],[0,4,10],[0,4],[0,4,10],[0,4],[0,4,10],[0,4],[0],[0,4],[0,4,10],[0,4],[0,4,10],[0,4],[0,4,10],[0,4],[0,4,10],[0,4],[0,4,10],[0,4],[0,10],[0]].getD n [],order:=fun n=>[].getD n [] }

def kp.f81:Keep:={ keep:=fun n=>[[0,1],[0,3],[0,3,4],[0,3,4,5],[0,3,4,5,11],[0,3],[0,3,4,5,11],[0,3,4],[0,3,4,5,11],[0,3,4],[0,3,4,5,11],[0,3,4],[0,3,4,5,11],[0,3,4],[0,3,5],[0,3],[0,3]].getD n [],order:=fun n=>[[],[],[],[],[],[(0,0),(1,1),(2,3),(3,7),(4,0),(5,16),(6,48),(7,127),(8,255),(9,511),(10,1023)],[],[],[],[],[],[],[],[],[],[(0,0),(1,1),(2,3),(3,7),(4,0),(5,16),(6,48),(7,127),(8,255),(9,511),(10,1023)],[(0,0),(1,1),(2,3),(3,7),(4,0),(5,16),(6,48),(7,127),(8,255),(9,511),(10,1023)]].getD n [] }
def pl.f81 (Q:VK) (c:CallT):Plan:=[
  (31,fun S T H=>F.f81_j1 (sy c) Q (T 0) (T 3) (T 5) H)]

def kp.f69:Keep:={ keep:=fun n=>[[0,1,2,3],[0,1,2,3,8],[0,1,2,3,8],[0,1,2,3,8],[0,1,2,3,8,9],[0,1,2,3,8,9],[0,1,2,3,8,9]].getD n [],order:=fun n=>[[],[],[],[],[(0,0),(1,0),(2,3),(3,7),(4,15),(5,15),(6,15),(7,111),(8,239),(9,15),(10,15),(11,1039),(12,3599),(13,7695),(14,16383),(15,32767),(16,65535)],[],[(0,0),(1,0),(2,0),(3,0),(4,8),(5,0),(6,0),(7,64),(8,224),(9,480),(10,0),(11,0),(12,3072),(13,7168),(14,16355),(15,32739),(16,65535),(17,131071)]].getD n [] }
def pl.f69 (Q:VK) (c:CallT):Plan:=[
  (402,fun S T H=>F.f69_l2 (sy c) Q (S 1) (T 0) (T 1) (T 2) (T 3) (T 8) (T 9) H (S 0)),
  (6,fun S T H=>F.f69_l1 (sy c) Q (T 0) (T 1) (T 2) (T 3) (T 8) H (S 0))]

def kp.f53:Keep:={ keep:=fun n=>[[0],[0],[3],[3,6],[3,6],[3,6],[3],[]].getD n [],order:=fun n=>[].getD n [] }
def pl.f53 (Q:VK) (c:CallT):Plan:=[
  (109,fun S T H=>F.f53_j1 (sy c) Q (T 3) (T 7) H)]

def kp.f62:Keep:={ keep:=fun n=>[[0,1],[0,1],[0,1,7,8],[0,1,7,8],[0,1,5,7,8],[5],[0,1,7,8],[]].getD n [],order:=fun n=>[].getD n [] }
def pl.f62 (Q:VK) (c:CallT):Plan:=[
  (26,fun S T H=>F.f62_l1 (sy c) Q (T 0) (T 1) (T 7) (T 8) H (S 0))]

def kp.f8:Keep:={ keep:=fun n=>[[0],[0]].getD n [],order:=fun n=>[].getD n [] }

def kp.f20:Keep:={ keep:=fun n=>[[0],[1],[],[1],[1,12],[1],[1,12],[1],[]].getD n [],order:=fun n=>[].getD n [] }

def kp.f60:Keep:={ keep:=fun n=>[[0,1],[0,3]].getD n [],order:=fun n=>[].getD n [] }

def kp.f47:Keep:={ keep:=fun n=>[[0],[0,2],[0],[0],[0,2],[0,2],[0,2],[0,2],[0,2],[0,2],[0,2]].getD n [],order:=fun n=>[].getD n [] }
def pl.f47 (Q:VK) (c:CallT):Plan:=[
  (31,fun S T H=>F.f47_j3 (sy c) Q (T 0) (T 2) H),
  (15,fun S T H=>F.f47_j2 (sy c) Q (T 0) (T 2) H),
  (7,fun S T H=>F.f47_j1 (sy c) Q (T 0) (T 2) H)]

def kp.f68:Keep:={ keep:=fun n=>[[0,1,2,3],[0,1,2,3,8],[0,1,2,3,8],[0,1,2,3,8],[0,1,2,3,8,9],[0,1,2,3,8,9],[0,1,2,3,8,9]].getD n [],order:=fun n=>[[],[],[],[],[(0,0),(1,0),(2,3),(3,7),(4,15),(5,15),(6,15),(7,111),(8,239),(9,15),(10,15),(11,1039),(12,3599),(13,7695),(14,16383),(15,32767),(16,65535)],[],[(0,0),(1,0),(2,0),(3,0),(4,8),(5,0),(6,0),(7,64),(8,224),(9,480),(10,0),(11,0),(12,3072),(13,7168),(14,16355),(15,32739),(16,65535),(17,131071)]].getD n [] }
def pl.f68 (Q:VK) (c:CallT):Plan:=[
  (402,fun S T H=>F.f68_l2 (sy c) Q (S 1) (T 0) (T 1) (T 2) (T 3) (T 8) (T 9) H (S 0)),
  (6,fun S T H=>F.f68_l1 (sy c) Q (T 0) (T 1) (T 2) (T 3) (T 8) H (S 0))]

def kp.f9:Keep:={ keep:=fun n=>[[0],[0]].getD n [],order:=fun n=>[].getD n [] }

def kp.f55:Keep:={ keep:=fun n=>[[0,1],[0,1],[1,5],[5],[5]].getD n [],order:=fun n=>[].getD n [] }

def kp.f44:Keep:={ keep:=fun n=>[[0,1,2],[0,2,4],[0,4]].getD n [],order:=fun n=>[[],[],[(0,0),(1,1),(2,3),(3,0),(4,8),(5,24),(6,56),(7,127)]].getD n [] }

def kp.f43:Keep:={ keep:=fun n=>[[0,1,2,3,4],[0,2,3,4,6],[0,2,3,4,6,10,11],[0,2,3,4,6,10,11,12,13],[0,2,3,4,6,10,11,12,13],[0,2,3,4,6,10,11,13],[0,2,3,4,6,11,13],[0,2,3,4,11]].getD n [],order:=fun n=>[[],[(0,0),(1,1),(2,3),(3,7),(4,0),(5,16),(6,48),(7,15),(8,255)],[(0,0),(1,1),(2,3),(4,0),(5,16),(6,48),(3,7),(7,127),(8,255),(9,511)]].getD n [] }

def kp.f14:Keep:={ keep:=fun n=>[[0],[0,2]].getD n [],order:=fun n=>[].getD n [] }

def kp.f16:Keep:={ keep:=fun n=>[[0],[0,2]].getD n [],order:=fun n=>[].getD n [] }

def kp.f12:Keep:={ keep:=fun n=>[[0],[0],[0,4],[0,4],[0,4],[0,4],[0,4],[0,4],[0,4],[0,4],[0,4],[0,4],[0,4],[0,4],[0,4],[0,4],[0,4],[],[0],[0,3],[0,3,26],[0,3,26],[0,3,26],[0,3,26],[0,3,26],[0,3,26],[0,3,26],[0,3,26],[0,3,26],[0,3],[],[0,3],[0,43],[0,43],[0,43],[0,43],[0],[]].getD n [],order:=fun n=>[].getD n [] }
def pl.f12 (Q:VK) (c:CallT):Plan:=[
  (501,fun S T H=>F.f12_j3 (sy c) Q (T 0) (T 44) H),
  (31,fun S T H=>F.f12_j2 (sy c) Q (T 0) (T 3) H),
  (245,fun S T H=>F.f12_j4 (sy c) Q (T 0) (T 3) (T 27) H),
  (53,fun S T H=>F.f12_j1 (sy c) Q (T 0) (T 5) H)]

def kp.f4:Keep:={ keep:=fun n=>[[0],[0],[3],[3],[3],[3],[],[]].getD n [],order:=fun n=>[].getD n [] }
def pl.f4 (Q:VK) (c:CallT):Plan:=[
  (53,fun S T H=>F.f4_j1 (sy c) Q (T 4) H)]

def kp.f5:Keep:={ keep:=fun n=>[[0,1],[1,2],[],[1,2],[1,2],[1,2],[1,2],[1]].getD n [],order:=fun n=>[].getD n [] }

def kp.f57:Keep:={ keep:=fun n=>[[0,1],[1,2],[],[1,2],[1,6]].getD n [],order:=fun n=>[].getD n [] }

def kp.f83:Keep:={ keep:=fun n=>[[0,1],[0,3],[0],[3]].getD n [],order:=fun n=>[].getD n [] }

def kp.f61:Keep:={ keep:=fun n=>[[0,1],[0,3],[0,3,7,8],[0,3,7,8],[0,3,5,7,8],[5],[0,3,7,8],[]].getD n [],order:=fun n=>[[],[],[],[],[(0,0),(1,0),(2,0),(3,6),(4,14),(5,31)]].getD n [] }
def pl.f61 (Q:VK) (c:CallT):Plan:=[
  (26,fun S T H=>F.f61_l1 (sy c) Q (T 0) (T 3) (T 7) (T 8) H (S 0))]

def kp.f56:Keep:={ keep:=fun n=>[[0],[1,2],[1,2,3],[1,2,3],[1,2,3],[1,2,3],[2,3,21,22],[2,3,21,22],[2,3,4,5,21,22],[2,3,21,22],[2,3]].getD n [],order:=fun n=>[[],[],[(0,0),(1,0),(2,2),(3,6),(4,15)],[(0,0),(1,0),(2,2),(3,6),(4,15)],[(0,0),(1,0),(2,2),(3,7)]].getD n [] }
def pl.f56 (Q:VK) (c:CallT):Plan:=[
  (506,fun S T H=>F.f56_l1 (sy c) Q (T 2) (T 3) (T 21) (T 22) H (S 0))]

def kp.f59:Keep:={ keep:=fun n=>[[0,1],[0,1],[0,1,5],[5,10,11,12],[5,10,11,12],[5,6,7,10,11,12],[5,10,11,12],[5]].getD n [],order:=fun n=>[].getD n [] }
def pl.f59 (Q:VK) (c:CallT):Plan:=[
  (58,fun S T H=>F.f59_l1 (sy c) Q (T 5) (T 10) (T 11) (T 12) H (S 0))]

def kp.f58:Keep:={ keep:=fun n=>[[0,1,2],[0,1,7,8],[0,1,7,8],[0,1,6,7,8],[0,1,7,8]].getD n [],order:=fun n=>[].getD n [] }
def pl.f58 (Q:VK) (c:CallT):Plan:=[
  (6,fun S T H=>F.f58_l1 (sy c) Q (T 0) (T 1) (T 7) (T 8) H (S 0))]

def kpL:List (Nat×Keep):=[(3,kp.f52),(5,kp.f51),(6,kp.f49),(7,kp.f54),(10,kp.f17),(9,kp.f37),(8,kp.f32),(11,kp.f80),(12,kp.f48),(13,kp.f79),(18,kp.f50),(30,kp.f64),(31,kp.f18),(34,kp.f21),(35,kp.f63),(36,kp.f19),(20,kp.f38),(21,kp.f28),(23,kp.f13),(22,kp.f30),(24,kp.f27),(25,kp.f26),(26,kp.f40),(27,kp.f39),(28,kp.f42),(29,kp.f29),(19,kp.f36),(38,kp.f0),(39,kp.f85),(40,kp.f78),(58,kp.f75),(33,kp.f23),(32,kp.f6),(62,kp.f24),(63,kp.f22),(65,kp.f45),(64,kp.f73),(37,kp.f7),(53,kp.f31),(54,kp.f11),(55,kp.f25),(56,kp.f41),(57,kp.f15),(49,kp.f10),(50,kp.f33),(51,kp.f35),(52,kp.f34),(67,kp.f3),(68,kp.f1),(69,kp.f2),(70,kp.f82),(71,kp.f84),(72,kp.f81),(80,kp.f69),(61,kp.f53),(60,kp.f62),(59,kp.f8),(82,kp.f20),(83,kp.f60),(93,kp.f47),(84,kp.f68),(66,kp.f9),(76,kp.f55),(77,kp.f44),(78,kp.f43),(79,kp.f14),(75,kp.f16),(94,kp.f12),(95,kp.f4),(96,kp.f5),(97,kp.f57),(98,kp.f83),(100,kp.f61),(106,kp.f56),(107,kp.f59),(110,kp.f58)]
def kps (f:FuncId):Keep:=((kpL.find? (fun p=>p.1 == f)).map (fun p=>p.2)).getD { keep:=fun _=>[],order:=fun _=>[] }
def ext:CallT:=fun f args H K=>(f=73/\∃ x0 x1,args=[x0,x1]/\atomicAdd x0 x1 H K)\/False
theorem extOk:CallOk Tryz.prog ext:=by
  rintro f args H K (⟨rfl,h⟩ | h)
  · exact atomicAdd_told Tryz.func73 (by kernel_rfl) (by kernel_rfl) (by kernel_rfl) (by kernel_rfl) h
  · exact h.elim
abbrev W:CallT:=CallW Tryz.prog kps ext
theorem mkF {i:Nat} {fn:Func} {kp:Keep} {code:Code} {args:List Value} {H:AH} {Q:VK} (pl:CallT->Plan) {G:CallT->Prop} (hfn:Tryz.prog.funcs[i]? = some fn)
    (h1 : (fn.body.isNone, (fn.name == "runtime.NumGoroutine"), codeOk Tryz.prog fn.ntmps (bodyOf fn), fn.body, kps i) = (false, false, true, some code, kp))
    (h2:∀ c,(obls Tryz.prog c kp (pl c) code 1 (fun _=>bodyK Tryz.prog fn.results.toList Q)).map (·.1)=(obls Tryz.prog c kp (pl c) code 1 (fun _=>bodyK Tryz.prog fn.results.toList Q)).map (·.2))
    (h3:∀ c,G c=evD Tryz.prog c kp (pl c) code nostk 1 (argEnv args) H (bodyK Tryz.prog fn.results.toList Q)) (h:G W):W i args H Q:=by
  simp only [Prod.mk.injEq] at h1
  obtain ⟨a,b,c,d,e⟩:=h1
  refine CallW.fold ⟨hfn,a,b,c⟩ ?_
  rw [e]
  exact evBody_of (pl:=pl W) fn args H Q code d (h2 W) (h3 W) h
theorem fold_f52 (x0 x1 x2 x3:Value) (H:AH) (Q:VK):F.f52 (sy W) x0 x1 x2 x3 H Q->W 3 [x0,x1,x2,x3] H Q :=
  mkF (kp:=kp.f52) (code:=bodyOf Tryz.f3) (pl.f52 Q) (G:=fun c=>F.f52 (sy c) x0 x1 x2 x3 H Q) Tryz.func3 (by kernel_rfl) (fun c=>by kernel_rfl) (fun c=>by kernel_rfl)
theorem fold_f51 (H:AH) (Q:VK):F.f51 (sy W) H Q->W 5 [] H Q :=
  mkF (kp:=kp.f51) (code:=bodyOf Tryz.f5) (fun _=>[]) (G:=fun c=>F.f51 (sy c) H Q) Tryz.func5 (by kernel_rfl) (fun c=>by kernel_rfl) (fun c=>by kernel_rfl)
theorem fold_f49 (x0:Value) (H:AH) (Q:VK):F.f49 (sy W) x0 H Q->W 6 [x0] H Q :=
  mkF (kp:=kp.f49) (code:=bodyOf Tryz.f6) (fun _=>[]) (G:=fun c=>F.f49 (sy c) x0 H Q) Tryz.func6 (by kernel_rfl) (fun c=>by kernel_rfl) (fun c=>by kernel_rfl)
theorem fold_f54 (x0:Value) (H:AH) (Q:VK):F.f54 (sy W) x0 H Q->W 7 [x0] H Q :=
  mkF (kp:=kp.f54) (code:=bodyOf Tryz.f7) (fun _=>[]) (G:=fun c=>F.f54 (sy c) x0 H Q) Tryz.func7 (by kernel_rfl) (fun c=>by kernel_rfl) (fun c=>by kernel_rfl)
theorem fold_f17 (x0:Value) (H:AH) (Q:VK):F.f17 (sy W) x0 H Q->W 10 [x0] H Q :=
  mkF (kp:=kp.f17) (code:=bodyOf Tryz.f10) (pl.f17 Q) (G:=fun c=>F.f17 (sy c) x0 H Q) Tryz.func10 (by kernel_rfl) (fun c=>by kernel_rfl) (fun c=>by kernel_rfl)
theorem fold_f37 (x0:Value) (H:AH) (Q:VK):F.f37 (sy W) x0 H Q->W 9 [x0] H Q :=
  mkF (kp:=kp.f37) (code:=bodyOf Tryz.f9) (pl.f37 Q) (G:=fun c=>F.f37 (sy c) x0 H Q) Tryz.func9 (by kernel_rfl) (fun c=>by kernel_rfl) (fun c=>by kernel_rfl)
theorem fold_f32 (x0:Value) (H:AH) (Q:VK):F.f32 (sy W) x0 H Q->W 8 [x0] H Q :=
  mkF (kp:=kp.f32) (code:=bodyOf Tryz.f8) (pl.f32 Q) (G:=fun c=>F.f32 (sy c) x0 H Q) Tryz.func8 (by kernel_rfl) (fun c=>by kernel_rfl) (fun c=>by kernel_rfl)
theorem fold_f80 (x0:Value) (H:AH) (Q:VK):F.f80 (sy W) x0 H Q->W 11 [x0] H Q :=
  mkF (kp:=kp.f80) (code:=bodyOf Tryz.f11) (fun _=>[]) (G:=fun c=>F.f80 (sy c) x0 H Q) Tryz.func11 (by kernel_rfl) (fun c=>by kernel_rfl) (fun c=>by kernel_rfl)
theorem fold_f48 (x0 x1:Value) (H:AH) (Q:VK):F.f48 (sy W) x0 x1 H Q->W 12 [x0,x1] H Q :=
  mkF (kp:=kp.f48) (code:=bodyOf Tryz.f12) (fun _=>[]) (G:=fun c=>F.f48 (sy c) x0 x1 H Q) Tryz.func12 (by kernel_rfl) (fun c=>by kernel_rfl) (fun c=>by kernel_rfl)
theorem fold_f79 (x0 x1:Value) (H:AH) (Q:VK):F.f79 (sy W) x0 x1 H Q->W 13 [x0,x1] H Q :=
  mkF (kp:=kp.f79) (code:=bodyOf Tryz.f13) (pl.f79 Q) (G:=fun c=>F.f79 (sy c) x0 x1 H Q) Tryz.func13 (by kernel_rfl) (fun c=>by kernel_rfl) (fun c=>by kernel_rfl)
theorem fold_f50 (H:AH) (Q:VK):F.f50 (sy W) H Q->W 18 [] H Q :=
  mkF (kp:=kp.f50) (code:=bodyOf Tryz.f18) (fun _=>[]) (G:=fun c=>F.f50 (sy c) H Q) Tryz.func18 (by kernel_rfl) (fun c=>by kernel_rfl) (fun c=>by kernel_rfl)
theorem fold_f64 (x0 x1:Value) (H:AH) (Q:VK):F.f64 (sy W) x0 x1 H Q->W 30 [x0,x1] H Q :=
  mkF (kp:=kp.f64) (code:=bodyOf Tryz.f30) (fun _=>[]) (G:=fun c=>F.f64 (sy c) x0 x1 H Q) Tryz.func30 (by kernel_rfl) (fun c=>by kernel_rfl) (fun c=>by kernel_rfl)
theorem fold_f18 (x0 x1:Value) (H:AH) (Q:VK):F.f18 (sy W) x0 x1 H Q->W 31 [x0,x1] H Q :=
  mkF (kp:=kp.f18) (code:=bodyOf Tryz.f31) (fun _=>[]) (G:=fun c=>F.f18 (sy c) x0 x1 H Q) Tryz.func31 (by kernel_rfl) (fun c=>by kernel_rfl) (fun c=>by kernel_rfl)
theorem fold_f21 (x0:Value) (H:AH) (Q:VK):F.f21 (sy W) x0 H Q->W 34 [x0] H Q :=
  mkF (kp:=kp.f21) (code:=bodyOf Tryz.f34) (pl.f21 Q) (G:=fun c=>F.f21 (sy c) x0 H Q) Tryz.func34 (by kernel_rfl) (fun c=>by kernel_rfl) (fun c=>by kernel_rfl)
theorem fold_f63 (x0 x1:Value) (H:AH) (Q:VK):F.f63 (sy W) x0 x1 H Q->W 35 [x0,x1] H Q :=
  mkF (kp:=kp.f63) (code:=bodyOf Tryz.f35) (fun _=>[]) (G:=fun c=>F.f63 (sy c) x0 x1 H Q) Tryz.func35 (by kernel_rfl) (fun c=>by kernel_rfl) (fun c=>by kernel_rfl)
theorem fold_f19 (x0 x1:Value) (H:AH) (Q:VK):F.f19 (sy W) x0 x1 H Q->W 36 [x0,x1] H Q :=
  mkF (kp:=kp.f19) (code:=bodyOf Tryz.f36) (fun _=>[]) (G:=fun c=>F.f19 (sy c) x0 x1 H Q) Tryz.func36 (by kernel_rfl) (fun c=>by kernel_rfl) (fun c=>by kernel_rfl)
theorem fold_f38 (x0 x1:Value) (H:AH) (Q:VK):F.f38 (sy W) x0 x1 H Q->W 20 [x0,x1] H Q :=
  mkF (kp:=kp.f38) (code:=bodyOf Tryz.f20) (fun _=>[]) (G:=fun c=>F.f38 (sy c) x0 x1 H Q) Tryz.func20 (by kernel_rfl) (fun c=>by kernel_rfl) (fun c=>by kernel_rfl)
theorem fold_f28 (x0:Value) (H:AH) (Q:VK):F.f28 (sy W) x0 H Q->W 21 [x0] H Q :=
  mkF (kp:=kp.f28) (code:=bodyOf Tryz.f21) (fun _=>[]) (G:=fun c=>F.f28 (sy c) x0 H Q) Tryz.func21 (by kernel_rfl) (fun c=>by kernel_rfl) (fun c=>by kernel_rfl)
theorem fold_f13 (x0:Value) (H:AH) (Q:VK):F.f13 (sy W) x0 H Q->W 23 [x0] H Q :=
  mkF (kp:=kp.f13) (code:=bodyOf Tryz.f23) (fun _=>[]) (G:=fun c=>F.f13 (sy c) x0 H Q) Tryz.func23 (by kernel_rfl) (fun c=>by kernel_rfl) (fun c=>by kernel_rfl)
theorem fold_f30 (x0 x1:Value) (H:AH) (Q:VK):F.f30 (sy W) x0 x1 H Q->W 22 [x0,x1] H Q :=
  mkF (kp:=kp.f30) (code:=bodyOf Tryz.f22) (fun _=>[]) (G:=fun c=>F.f30 (sy c) x0 x1 H Q) Tryz.func22 (by kernel_rfl) (fun c=>by kernel_rfl) (fun c=>by kernel_rfl)
theorem fold_f27 (x0 x1 x2 x3 x4:Value) (H:AH) (Q:VK):F.f27 (sy W) x0 x1 x2 x3 x4 H Q->W 24 [x0,x1,x2,x3,x4] H Q :=
  mkF (kp:=kp.f27) (code:=bodyOf Tryz.f24) (fun _=>[]) (G:=fun c=>F.f27 (sy c) x0 x1 x2 x3 x4 H Q) Tryz.func24 (by kernel_rfl) (fun c=>by kernel_rfl) (fun c=>by kernel_rfl)
theorem fold_f26 (x0 x1:Value) (H:AH) (Q:VK):F.f26 (sy W) x0 x1 H Q->W 25 [x0,x1] H Q :=
  mkF (kp:=kp.f26) (code:=bodyOf Tryz.f25) (fun _=>[]) (G:=fun c=>F.f26 (sy c) x0 x1 H Q) Tryz.func25 (by kernel_rfl) (fun c=>by kernel_rfl) (fun c=>by kernel_rfl)
theorem fold_f40 (x0 x1 x2:Value) (H:AH) (Q:VK):F.f40 (sy W) x0 x1 x2 H Q->W 26 [x0,x1,x2] H Q :=
  mkF (kp:=kp.f40) (code:=bodyOf Tryz.f26) (fun _=>[]) (G:=fun c=>F.f40 (sy c) x0 x1 x2 H Q) Tryz.func26 (by kernel_rfl) (fun c=>by kernel_rfl) (fun c=>by kernel_rfl)
theorem fold_f39 (x0 x1:Value) (H:AH) (Q:VK):F.f39 (sy W) x0 x1 H Q->W 27 [x0,x1] H Q :=
  mkF (kp:=kp.f39) (code:=bodyOf Tryz.f27) (pl.f39 Q) (G:=fun c=>F.f39 (sy c) x0 x1 H Q) Tryz.func27 (by kernel_rfl) (fun c=>by kernel_rfl) (fun c=>by kernel_rfl)
theorem fold_f42 (x0:Value) (H:AH) (Q:VK):F.f42 (sy W) x0 H Q->W 28 [x0] H Q :=
  mkF (kp:=kp.f42) (code:=bodyOf Tryz.f28) (pl.f42 Q) (G:=fun c=>F.f42 (sy c) x0 H Q) Tryz.func28 (by kernel_rfl) (fun c=>by kernel_rfl) (fun c=>by kernel_rfl)
theorem fold_f29 (x0:Value) (H:AH) (Q:VK):F.f29 (sy W) x0 H Q->W 29 [x0] H Q :=
  mkF (kp:=kp.f29) (code:=bodyOf Tryz.f29) (fun _=>[]) (G:=fun c=>F.f29 (sy c) x0 H Q) Tryz.func29 (by kernel_rfl) (fun c=>by kernel_rfl) (fun c=>by kernel_rfl)
theorem fold_f36 (x0 x1:Value) (H:AH) (Q:VK):F.f36 (sy W) x0 x1 H Q->W 19 [x0,x1] H Q :=
  mkF (kp:=kp.f36) (code:=bodyOf Tryz.f19) (fun _=>[]) (G:=fun c=>F.f36 (sy c) x0 x1 H Q) Tryz.func19 (by kernel_rfl) (fun c=>by kernel_rfl) (fun c=>by kernel_rfl)
theorem fold_f0 (x0:Value) (H:AH) (Q:VK):F.f0 (sy W) x0 H Q->W 38 [x0] H Q :=
  mkF (kp:=kp.f0) (code:=bodyOf Tryz.f38) (pl.f0 Q) (G:=fun c=>F.f0 (sy c) x0 H Q) Tryz.func38 (by kernel_rfl) (fun c=>by kernel_rfl) (fun c=>by kernel_rfl)
theorem fold_f85 (x0 x1:Value) (H:AH) (Q:VK):F.f85 (sy W) x0 x1 H Q->W 39 [x0,x1] H Q :=
  mkF (kp:=kp.f85) (code:=bodyOf Tryz.f39) (fun _=>[]) (G:=fun c=>F.f85 (sy c) x0 x1 H Q) Tryz.func39 (by kernel_rfl) (fun c=>by kernel_rfl) (fun c=>by kernel_rfl)
theorem fold_f78 (x0 x1:Value) (H:AH) (Q:VK):F.f78 (sy W) x0 x1 H Q->W 40 [x0,x1] H Q :=
  mkF (kp:=kp.f78) (code:=bodyOf Tryz.f40) (fun _=>[]) (G:=fun c=>F.f78 (sy c) x0 x1 H Q) Tryz.func40 (by kernel_rfl) (fun c=>by kernel_rfl) (fun c=>by kernel_rfl)
theorem fold_f75 (x0 x1 x2:Value) (H:AH) (Q:VK):F.f75 (sy W) x0 x1 x2 H Q->W 58 [x0,x1,x2] H Q :=
  mkF (kp:=kp.f75) (code:=bodyOf Tryz.f58) (pl.f75 Q) (G:=fun c=>F.f75 (sy c) x0 x1 x2 H Q) Tryz.func58 (by kernel_rfl) (fun c=>by kernel_rfl) (fun c=>by kernel_rfl)
theorem fold_f23 (x0:Value) (H:AH) (Q:VK):F.f23 (sy W) x0 H Q->W 33 [x0] H Q :=
  mkF (kp:=kp.f23) (code:=bodyOf Tryz.f33) (fun _=>[]) (G:=fun c=>F.f23 (sy c) x0 H Q) Tryz.func33 (by kernel_rfl) (fun c=>by kernel_rfl) (fun c=>by kernel_rfl)
theorem fold_f6 (x0 x1:Value) (H:AH) (Q:VK):F.f6 (sy W) x0 x1 H Q->W 32 [x0,x1] H Q :=
  mkF (kp:=kp.f6) (code:=bodyOf Tryz.f32) (fun _=>[]) (G:=fun c=>F.f6 (sy c) x0 x1 H Q) Tryz.func32 (by kernel_rfl) (fun c=>by kernel_rfl) (fun c=>by kernel_rfl)
theorem fold_f24 (x0:Value) (H:AH) (Q:VK):F.f24 (sy W) x0 H Q->W 62 [x0] H Q :=
  mkF (kp:=kp.f24) (code:=bodyOf Tryz.f62) (pl.f24 Q) (G:=fun c=>F.f24 (sy c) x0 H Q) Tryz.func62 (by kernel_rfl) (fun c=>by kernel_rfl) (fun c=>by kernel_rfl)
theorem fold_f22 (x0:Value) (H:AH) (Q:VK):F.f22 (sy W) x0 H Q->W 63 [x0] H Q :=
  mkF (kp:=kp.f22) (code:=bodyOf Tryz.f63) (pl.f22 Q) (G:=fun c=>F.f22 (sy c) x0 H Q) Tryz.func63 (by kernel_rfl) (fun c=>by kernel_rfl) (fun c=>by kernel_rfl)
theorem fold_f45 (x0:Value) (H:AH) (Q:VK):F.f45 (sy W) x0 H Q->W 65 [x0] H Q :=
  mkF (kp:=kp.f45) (code:=bodyOf Tryz.f65) (fun _=>[]) (G:=fun c=>F.f45 (sy c) x0 H Q) Tryz.func65 (by kernel_rfl) (fun c=>by kernel_rfl) (fun c=>by kernel_rfl)
theorem fold_f73 (x0 x1 x2 x3 x4:Value) (H:AH) (Q:VK):F.f73 (sy W) x0 x1 x2 x3 x4 H Q->W 64 [x0,x1,x2,x3,x4] H Q :=
  mkF (kp:=kp.f73) (code:=bodyOf Tryz.f64) (pl.f73 Q) (G:=fun c=>F.f73 (sy c) x0 x1 x2 x3 x4 H Q) Tryz.func64 (by kernel_rfl) (fun c=>by kernel_rfl) (fun c=>by kernel_rfl)
theorem fold_f7 (x0 x1:Value) (H:AH) (Q:VK):F.f7 (sy W) x0 x1 H Q->W 37 [x0,x1] H Q :=
  mkF (kp:=kp.f7) (code:=bodyOf Tryz.f37) (fun _=>[]) (G:=fun c=>F.f7 (sy c) x0 x1 H Q) Tryz.func37 (by kernel_rfl) (fun c=>by kernel_rfl) (fun c=>by kernel_rfl)
theorem fold_f31 (x0 x1:Value) (H:AH) (Q:VK):F.f31 (sy W) x0 x1 H Q->W 53 [x0,x1] H Q :=
  mkF (kp:=kp.f31) (code:=bodyOf Tryz.f53) (fun _=>[]) (G:=fun c=>F.f31 (sy c) x0 x1 H Q) Tryz.func53 (by kernel_rfl) (fun c=>by kernel_rfl) (fun c=>by kernel_rfl)
theorem fold_f11 (x0 x1 x2 x3:Value) (H:AH) (Q:VK):F.f11 (sy W) x0 x1 x2 x3 H Q->W 54 [x0,x1,x2,x3] H Q :=
  mkF (kp:=kp.f11) (code:=bodyOf Tryz.f54) (fun _=>[]) (G:=fun c=>F.f11 (sy c) x0 x1 x2 x3 H Q) Tryz.func54 (by kernel_rfl) (fun c=>by kernel_rfl) (fun c=>by kernel_rfl)
theorem fold_f25 (x0 x1:Value) (H:AH) (Q:VK):F.f25 (sy W) x0 x1 H Q->W 55 [x0,x1] H Q :=
  mkF (kp:=kp.f25) (code:=bodyOf Tryz.f55) (fun _=>[]) (G:=fun c=>F.f25 (sy c) x0 x1 H Q) Tryz.func55 (by kernel_rfl) (fun c=>by kernel_rfl) (fun c=>by kernel_rfl)
theorem fold_f41 (x0 x1 x2 x3:Value) (H:AH) (Q:VK):F.f41 (sy W) x0 x1 x2 x3 H Q->W 56 [x0,x1,x2,x3] H Q :=
  mkF (kp:=kp.f41) (code:=bodyOf Tryz.f56) (fun _=>[]) (G:=fun c=>F.f41 (sy c) x0 x1 x2 x3 H Q) Tryz.func56 (by kernel_rfl) (fun c=>by kernel_rfl) (fun c=>by kernel_rfl)
theorem fold_f15 (x0:Value) (H:AH) (Q:VK):F.f15 (sy W) x0 H Q->W 57 [x0] H Q :=
  mkF (kp:=kp.f15) (code:=bodyOf Tryz.f57) (fun _=>[]) (G:=fun c=>F.f15 (sy c) x0 H Q) Tryz.func57 (by kernel_rfl) (fun c=>by kernel_rfl) (fun c=>by kernel_rfl)
theorem fold_f10 (x0:Value) (H:AH) (Q:VK):F.f10 (sy W) x0 H Q->W 49 [x0] H Q :=
  mkF (kp:=kp.f10) (code:=bodyOf Tryz.f49) (fun _=>[]) (G:=fun c=>F.f10 (sy c) x0 H Q) Tryz.func49 (by kernel_rfl) (fun c=>by kernel_rfl) (fun c=>by kernel_rfl)
theorem fold_f33 (x0 x1:Value) (H:AH) (Q:VK):F.f33 (sy W) x0 x1 H Q->W 50 [x0,x1] H Q :=
  mkF (kp:=kp.f33) (code:=bodyOf Tryz.f50) (fun _=>[]) (G:=fun c=>F.f33 (sy c) x0 x1 H Q) Tryz.func50 (by kernel_rfl) (fun c=>by kernel_rfl) (fun c=>by kernel_rfl)
theorem fold_f35 (x0 x1:Value) (H:AH) (Q:VK):F.f35 (sy W) x0 x1 H Q->W 51 [x0,x1] H Q :=
  mkF (kp:=kp.f35) (code:=bodyOf Tryz.f51) (fun _=>[]) (G:=fun c=>F.f35 (sy c) x0 x1 H Q) Tryz.func51 (by kernel_rfl) (fun c=>by kernel_rfl) (fun c=>by kernel_rfl)
theorem fold_f34 (x0 x1:Value) (H:AH) (Q:VK):F.f34 (sy W) x0 x1 H Q->W 52 [x0,x1] H Q :=
  mkF (kp:=kp.f34) (code:=bodyOf Tryz.f52) (pl.f34 Q) (G:=fun c=>F.f34 (sy c) x0 x1 H Q) Tryz.func52 (by kernel_rfl) (fun c=>by kernel_rfl) (fun c=>by kernel_rfl)
theorem fold_f3 (x0 x1 x2:Value) (H:AH) (Q:VK):F.f3 (sy W) x0 x1 x2 H Q->W 67 [x0,x1,x2] H Q :=
  mkF (kp:=kp.f3) (code:=bodyOf Tryz.f67) (fun _=>[]) (G:=fun c=>F.f3 (sy c) x0 x1 x2 H Q) Tryz.func67 (by kernel_rfl) (fun c=>by kernel_rfl) (fun c=>by kernel_rfl)
theorem fold_f1 (x0:Value) (H:AH) (Q:VK):F.f1 (sy W) x0 H Q->W 68 [x0] H Q :=
  mkF (kp:=kp.f1) (code:=bodyOf Tryz.f68) (fun _=>[]) (G:=fun c=>F.f1 (sy c) x0 H Q) Tryz.func68 (by kernel_rfl) (fun c=>by kernel_rfl) (fun c=>by kernel_rfl)
theorem fold_f2 (x0:Value) (H:AH) (Q:VK):F.f2 (sy W) x0 H Q->W 69 [x0] H Q :=
  mkF (kp:=kp.f2) (code:=bodyOf Tryz.f69) (pl.f2 Q) (G:=fun c=>F.f2 (sy c) x0 H Q) Tryz.func69 (by kernel_rfl) (fun c=>by kernel_rfl) (fun c=>by kernel_rfl)
theorem fold_f82 (x0 x1:Value) (H:AH) (Q:VK):F.f82 (sy W) x0 x1 H Q->W 70 [x0,x1] H Q :=
  mkF (kp:=kp.f82) (code:=bodyOf Tryz.f70) (fun _=>[]) (G:=fun c=>F.f82 (sy c) x0 x1 H Q) Tryz.func70 (by kernel_rfl) (fun c=>by kernel_rfl) (fun c=>by kernel_rfl)
theorem fold_f84 (x0 x1:Value) (H:AH) (Q:VK):F.f84 (sy W) x0 x1 H Q->W 71 [x0,x1] H Q :=
  mkF (kp:=kp.f84) (code:=bodyOf Tryz.f71) (fun _=>[]) (G:=fun c=>F.f84 (sy c) x0 x1 H Q) Tryz.func71 (by kernel_rfl) (fun c=>by kernel_rfl) (fun c=>by kernel_rfl)
theorem fold_f81 (x0 x1:Value) (H:AH) (Q:VK):F.f81 (sy W) x0 x1 H Q->W 72 [x0,x1] H Q :=
  mkF (kp:=kp.f81) (code:=bodyOf Tryz.f72) (pl.f81 Q) (G:=fun c=>F.f81 (sy c) x0 x1 H Q) Tryz.func72 (by kernel_rfl) (fun c=>by kernel_rfl) (fun c=>by kernel_rfl)
theorem fold_f69 (x0 x1 x2 x3:Value) (H:AH) (Q:VK):F.f69 (sy W) x0 x1 x2 x3 H Q->W 80 [x0,x1,x2,x3] H Q :=
  mkF (kp:=kp.f69) (code:=bodyOf Tryz.f80) (pl.f69 Q) (G:=fun c=>F.f69 (sy c) x0 x1 x2 x3 H Q) Tryz.func80 (by kernel_rfl) (fun c=>by kernel_rfl) (fun c=>by kernel_rfl)
theorem fold_f53 (x0:Value) (H:AH) (Q:VK):F.f53 (sy W) x0 H Q->W 61 [x0] H Q :=
  mkF (kp:=kp.f53) (code:=bodyOf Tryz.f61) (pl.f53 Q) (G:=fun c=>F.f53 (sy c) x0 H Q) Tryz.func61 (by kernel_rfl) (fun c=>by kernel_rfl) (fun c=>by kernel_rfl)
theorem fold_f62 (x0 x1:Value) (H:AH) (Q:VK):F.f62 (sy W) x0 x1 H Q->W 60 [x0,x1] H Q :=
  mkF (kp:=kp.f62) (code:=bodyOf Tryz.f60) (pl.f62 Q) (G:=fun c=>F.f62 (sy c) x0 x1 H Q) Tryz.func60 (by kernel_rfl) (fun c=>by kernel_rfl) (fun c=>by kernel_rfl)
theorem fold_f8 (x0:Value) (H:AH) (Q:VK):F.f8 (sy W) x0 H Q->W 59 [x0] H Q :=
  mkF (kp:=kp.f8) (code:=bodyOf Tryz.f59) (fun _=>[]) (G:=fun c=>F.f8 (sy c) x0 H Q) Tryz.func59 (by kernel_rfl) (fun c=>by kernel_rfl) (fun c=>by kernel_rfl)
theorem fold_f20 (x0:Value) (H:AH) (Q:VK):F.f20 (sy W) x0 H Q->W 82 [x0] H Q :=
  mkF (kp:=kp.f20) (code:=bodyOf Tryz.f82) (fun _=>[]) (G:=fun c=>F.f20 (sy c) x0 H Q) Tryz.func82 (by kernel_rfl) (fun c=>by kernel_rfl) (fun c=>by kernel_rfl)
theorem fold_f60 (x0 x1:Value) (H:AH) (Q:VK):F.f60 (sy W) x0 x1 H Q->W 83 [x0,x1] H Q :=
  mkF (kp:=kp.f60) (code:=bodyOf Tryz.f83) (fun _=>[]) (G:=fun c=>F.f60 (sy c) x0 x1 H Q) Tryz.func83 (by kernel_rfl) (fun c=>by kernel_rfl) (fun c=>by kernel_rfl)
theorem fold_f47 (x0:Value) (H:AH) (Q:VK):F.f47 (sy W) x0 H Q->W 93 [x0] H Q :=
  mkF (kp:=kp.f47) (code:=bodyOf Tryz.f93) (pl.f47 Q) (G:=fun c=>F.f47 (sy c) x0 H Q) Tryz.func93 (by kernel_rfl) (fun c=>by kernel_rfl) (fun c=>by kernel_rfl)
theorem fold_f68 (x0 x1 x2 x3:Value) (H:AH) (Q:VK):F.f68 (sy W) x0 x1 x2 x3 H Q->W 84 [x0,x1,x2,x3] H Q :=
  mkF (kp:=kp.f68) (code:=bodyOf Tryz.f84) (pl.f68 Q) (G:=fun c=>F.f68 (sy c) x0 x1 x2 x3 H Q) Tryz.func84 (by kernel_rfl) (fun c=>by kernel_rfl) (fun c=>by kernel_rfl)
theorem fold_f9 (x0:Value) (H:AH) (Q:VK):F.f9 (sy W) x0 H Q->W 66 [x0] H Q :=
  mkF (kp:=kp.f9) (code:=bodyOf Tryz.f66) (fun _=>[]) (G:=fun c=>F.f9 (sy c) x0 H Q) Tryz.func66 (by kernel_rfl) (fun c=>by kernel_rfl) (fun c=>by kernel_rfl)
theorem fold_f55 (x0 x1:Value) (H:AH) (Q:VK):F.f55 (sy W) x0 x1 H Q->W 76 [x0,x1] H Q :=
  mkF (kp:=kp.f55) (code:=bodyOf Tryz.f76) (fun _=>[]) (G:=fun c=>F.f55 (sy c) x0 x1 H Q) Tryz.func76 (by kernel_rfl) (fun c=>by kernel_rfl) (fun c=>by kernel_rfl)
theorem fold_f44 (x0 x1 x2:Value) (H:AH) (Q:VK):F.f44 (sy W) x0 x1 x2 H Q->W 77 [x0,x1,x2] H Q :=
  mkF (kp:=kp.f44) (code:=bodyOf Tryz.f77) (fun _=>[]) (G:=fun c=>F.f44 (sy c) x0 x1 x2 H Q) Tryz.func77 (by kernel_rfl) (fun c=>by kernel_rfl) (fun c=>by kernel_rfl)
theorem fold_f43 (x0 x1 x2 x3 x4:Value) (H:AH) (Q:VK):F.f43 (sy W) x0 x1 x2 x3 x4 H Q->W 78 [x0,x1,x2,x3,x4] H Q :=
  mkF (kp:=kp.f43) (code:=bodyOf Tryz.f78) (fun _=>[]) (G:=fun c=>F.f43 (sy c) x0 x1 x2 x3 x4 H Q) Tryz.func78 (by kernel_rfl) (fun c=>by kernel_rfl) (fun c=>by kernel_rfl)
theorem fold_f14 (x0:Value) (H:AH) (Q:VK):F.f14 (sy W) x0 H Q->W 79 [x0] H Q :=
  mkF (kp:=kp.f14) (code:=bodyOf Tryz.f79) (fun _=>[]) (G:=fun c=>F.f14 (sy c) x0 H Q) Tryz.func79 (by kernel_rfl) (fun c=>by kernel_rfl) (fun c=>by kernel_rfl)
theorem fold_f16 (x0:Value) (H:AH) (Q:VK):F.f16 (sy W) x0 H Q->W 75 [x0] H Q :=
  mkF (kp:=kp.f16) (code:=bodyOf Tryz.f75) (fun _=>[]) (G:=fun c=>F.f16 (sy c) x0 H Q) Tryz.func75 (by kernel_rfl) (fun c=>by kernel_rfl) (fun c=>by kernel_rfl)
theorem fold_f12 (x0:Value) (H:AH) (Q:VK):F.f12 (sy W) x0 H Q->W 94 [x0] H Q :=
  mkF (kp:=kp.f12) (code:=bodyOf Tryz.f94) (pl.f12 Q) (G:=fun c=>F.f12 (sy c) x0 H Q) Tryz.func94 (by kernel_rfl) (fun c=>by kernel_rfl) (fun c=>by kernel_rfl)
theorem fold_f4 (x0:Value) (H:AH) (Q:VK):F.f4 (sy W) x0 H Q->W 95 [x0] H Q :=
  mkF (kp:=kp.f4) (code:=bodyOf Tryz.f95) (pl.f4 Q) (G:=fun c=>F.f4 (sy c) x0 H Q) Tryz.func95 (by kernel_rfl) (fun c=>by kernel_rfl) (fun c=>by kernel_rfl)
theorem fold_f5 (x0 x1:Value) (H:AH) (Q:VK):F.f5 (sy W) x0 x1 H Q->W 96 [x0,x1] H Q :=
  mkF (kp:=kp.f5) (code:=bodyOf Tryz.f96) (fun _=>[]) (G:=fun c=>F.f5 (sy c) x0 x1 H Q) Tryz.func96 (by kernel_rfl) (fun c=>by kernel_rfl) (fun c=>by kernel_rfl)
theorem fold_f57 (x0 x1:Value) (H:AH) (Q:VK):F.f57 (sy W) x0 x1 H Q->W 97 [x0,x1] H Q :=
  mkF (kp:=kp.f57) (code:=bodyOf Tryz.f97) (fun _=>[]) (G:=fun c=>F.f57 (sy c) x0 x1 H Q) Tryz.func97 (by kernel_rfl) (fun c=>by kernel_rfl) (fun c=>by kernel_rfl)
theorem fold_f83 (x0 x1:Value) (H:AH) (Q:VK):F.f83 (sy W) x0 x1 H Q->W 98 [x0,x1] H Q :=
  mkF (kp:=kp.f83) (code:=bodyOf Tryz.f98) (fun _=>[]) (G:=fun c=>F.f83 (sy c) x0 x1 H Q) Tryz.func98 (by kernel_rfl) (fun c=>by kernel_rfl) (fun c=>by kernel_rfl)
theorem fold_f61 (x0 x1:Value) (H:AH) (Q:VK):F.f61 (sy W) x0 x1 H Q->W 100 [x0,x1] H Q :=
  mkF (kp:=kp.f61) (code:=bodyOf Tryz.f100) (pl.f61 Q) (G:=fun c=>F.f61 (sy c) x0 x1 H Q) Tryz.func100 (by kernel_rfl) (fun c=>by kernel_rfl) (fun c=>by kernel_rfl)
theorem fold_f56 (x0:Value) (H:AH) (Q:VK):F.f56 (sy W) x0 H Q->W 106 [x0] H Q :=
  mkF (kp:=kp.f56) (code:=bodyOf Tryz.f106) (pl.f56 Q) (G:=fun c=>F.f56 (sy c) x0 H Q) Tryz.func106 (by kernel_rfl) (fun c=>by kernel_rfl) (fun c=>by kernel_rfl)
theorem fold_f59 (x0 x1:Value) (H:AH) (Q:VK):F.f59 (sy W) x0 x1 H Q->W 107 [x0,x1] H Q :=
  mkF (kp:=kp.f59) (code:=bodyOf Tryz.f107) (pl.f59 Q) (G:=fun c=>F.f59 (sy c) x0 x1 H Q) Tryz.func107 (by kernel_rfl) (fun c=>by kernel_rfl) (fun c=>by kernel_rfl)
theorem fold_f58 (x0 x1 x2:Value) (H:AH) (Q:VK):F.f58 (sy W) x0 x1 x2 H Q->W 110 [x0,x1,x2] H Q :=
  mkF (kp:=kp.f58) (code:=bodyOf Tryz.f110) (pl.f58 Q) (G:=fun c=>F.f58 (sy c) x0 x1 x2 H Q) Tryz.func110 (by kernel_rfl) (fun c=>by kernel_rfl) (fun c=>by kernel_rfl)
theorem fold:Go.AM.Fold (sy W) where
  mono:=CallW.mono
  f52:=fold_f52
  f51:=fold_f51
  f49:=fold_f49
  f54:=fold_f54
  f17:=fold_f17
  f37:=fold_f37
  f32:=fold_f32
  f80:=fold_f80
  f48:=fold_f48
  f79:=fold_f79
  f50:=fold_f50
  f64:=fold_f64
  f18:=fold_f18
  f21:=fold_f21
  f63:=fold_f63
  f19:=fold_f19
  f38:=fold_f38
  f28:=fold_f28
  f13:=fold_f13
  f30:=fold_f30
  f27:=fold_f27
  f26:=fold_f26
  f40:=fold_f40
  f39:=fold_f39
  f42:=fold_f42
  f29:=fold_f29
  f36:=fold_f36
  f0:=fold_f0
  f85:=fold_f85
  f78:=fold_f78
  f75:=fold_f75
  f23:=fold_f23
  f6:=fold_f6
  f24:=fold_f24
  f22:=fold_f22
  f45:=fold_f45
  f73:=fold_f73
  f7:=fold_f7
  f31:=fold_f31
  f11:=fold_f11
  f25:=fold_f25
  f41:=fold_f41
  f15:=fold_f15
  f10:=fold_f10
  f33:=fold_f33
  f35:=fold_f35
  f34:=fold_f34
  f3:=fold_f3
  f1:=fold_f1
  f2:=fold_f2
  f82:=fold_f82
  f84:=fold_f84
  f81:=fold_f81
  f69:=fold_f69
  f53:=fold_f53
  f62:=fold_f62
  f8:=fold_f8
  f20:=fold_f20
  f60:=fold_f60
  f47:=fold_f47
  f68:=fold_f68
  f9:=fold_f9
  f55:=fold_f55
  f44:=fold_f44
  f43:=fold_f43
  f14:=fold_f14
  f16:=fold_f16
  f12:=fold_f12
  f4:=fold_f4
  f5:=fold_f5
  f57:=fold_f57
  f83:=fold_f83
  f61:=fold_f61
  f56:=fold_f56
  f59:=fold_f59
  f58:=fold_f58
  f77:=fun x0 x1 H Q h=>CallW.ext (.inl<|⟨rfl,x0,x1,rfl,h⟩)
end Go.Proofs.YtdionecknmcdhaaGreat
