/- THE FUNCTIONS, HELD AGAINST THE PROGRAM: written by program (gen2.py). -/
import Derived.Test.YtdionecknmcdhaaL68c8F
import Derived.Test.YtdionecknmcdhaaProg
import Derived.KernelRfl
set_option linter.all false
set_option maxRecDepth 100000
set_option maxHeartbeats 4000000
namespace Go.Proofs.Ytdionecknmcdhaa
open Go.AM
attribute [local irreducible] evD obls
def fidL:List Nat:=[0,0,90,0,58,0,0,0,57,79,29,143,9,84,0,19,0,0,0,66,85,89,63,0,0,0,0,0,0,0,0,109,0,0,93,118,0,110,0,86,0,0,16,17,0,23,56,0,0,42,0,24,0,0,45,0,0,0,0,0,43,44,46,47,0,75,0,0,0,0,0,0,0,0,0,0,0,0,0,0,0,0,0,0,0,0,0,0,0,0,0,0,0,0,0,0,0,0,0,0,0,0,0,0,0,0,0,0,0,0,0,0,0,0,0,0,0,0,0,0,0,0,0,0,0,0,0,0,0,0,0,0,38,0,0,0,0,0,0,0,0,0,0,0,0,0,0,0,144,0,0,0,0,0,73,0,0,83,0,0,0,0,0,0,107,108,0,0,0,0,0,0,0,0,0,0,0,0,0,0,0,0,0,0,0,114,115,0,0,0,0,0,0,0,0,0,0,0,0,0,0,0,0,0,0,0,0,0,0,0,0,0,0,0,0,0,0,0,0,0,0,0,0,0,0,0,0,0,0,0,0,0,0,0,0,0,0,0,0,0,0,0,0,0,0,0,0,0,0,0,0,0,0,0,0,0,0,0,0,0,0,0,0,0,0,0,0,0,0,0,0,0,0,0,0,0,0,0,0,0,0,0,0,0,0,0,0,0,0,0,0,0,0,0,0,0,0,0,0,0,0,0,0,0,0,0,0,0,0,0,0,0,0,0,0,0,0,0,0,0,0,0,0,0,0,0,0,0,0,0,0,0,0,0,0,0,0,0,0,0,0,0,0,0,13,0,18,11,0,10,12,0,0,0,0,0,0,0,137,36,37,49,48,52,54,53,26,27,28,30,31,32,33,34,35,25,14,0,0,0,0,140,0,0,67,68,69,70,71,72,76,51,50,80,81,82,41,62,64,65,59,60,61,40,39,0,0,0,0,0,91,92,94,95,96,78,77,97,98,99,100,102,105,106,104,103,101,74,87,88,0,0,0,0,0,111,112,113,117,116,146,0,119,120,0,0,0,0,0,0,0,0,0,0,0,0,0,0,0,0,0,0,0,0,0,0,0,0,0,0,3,8,4,15,20,21,22,5,6,7,55]
def tidL:List Nat:=[9]
def gidL:List Nat:=[]
def sy (c:CallT):Sy:={ call:=c,fid:=fun n=>fidL.getD n 0,tid:=fun n=>tidL.getD n 0,gid:=fun n=>gidL.getD n 0 }
def kp.f39:Keep:={ keep:=fun n=>[[0,1],[0,1],[],[0,1],[],[0,1],[0,1,5],[0,1,5,27,28,29],[0,1,5,27,28,29],[0,1,5,7,27,28,29],[0,1,5,7,8,27,28,29],[0,1,5,7,8,27,28,29],[0,1,5,7,8,27,28,29],[0,1,5,7,8,27,28,29],[0,1,5,8,9,27,28,29],[0,1,5,27,28,29],[0,1,5],[0,1,5,10,11],[0,1,5,11,12,13],[],[0,1,5,12],[5,12,113,114,115],[5,12,113,114,115],[5,12,15,113,114,115],[5,12,113,114,115,124,125,126],[5,12,113,114,115,124,125,126],[5,12,17,113,114,115,124,125,126],[5,12,18,113,114,115,124,125,126],[5,12,18,19,113,114,115,124,125,126],[],[5,12,113,114,115,124,125,126],[5,12,113,114,115],[]].getD n [],order:=fun n=>[[],[],[],[],[],[],[],[],[],[],[],[],[],[],[(0,0),(1,0),(2,2),(3,0),(4,14),(6,0),(7,64),(9,0),(10,512),(11,0),(12,3584),(5,31),(8,255),(13,8191),(14,16383),(15,32767)]].getD n [] }
def pl.f39 (Q:VK) (c:CallT):Plan:=[
  (128204,fun S T H=>F.f39_l2 (sy c) Q (S 1) (T 0) (T 1) (T 5) (T 7) (T 8) (T 27) (T 28) (T 29) H (S 0)),
  (1047142,fun S T H=>F.f39_l4 (sy c) Q (S 1) (T 5) (T 12) (T 113) (T 114) (T 115) (T 124) (T 125) (T 126) H (S 0)),
  (4090,fun S T H=>F.f39_l3 (sy c) Q (T 5) (T 12) (T 113) (T 114) (T 115) H (S 0)),
  (250,fun S T H=>F.f39_l1 (sy c) Q (T 0) (T 1) (T 5) (T 27) (T 28) (T 29) H (S 0))]

def kp.f38:Keep:={ keep:=fun n=>[[],[],[1,2],[2,3,4],[2,3,4,5],[2,4,5,7]].getD n [],order:=fun n=>[].getD n [] }

def kp.f40:Keep:={ keep:=fun n=>[[0],[0]].getD n [],order:=fun n=>[].getD n [] }

def kp.f29:Keep:={ keep:=fun n=>[[0],[1],[1,3],[1,3],[1,3,4,5],[1,3,4,5],[1,3,5],[1,3],[1,3,6],[1,3,6,45,46,47],[1,3,6,45,46,47],[1,3,6,8,45,46,47],[1,3,6,45,46,47],[1,3,6],[1,3,6],[1,3,6],[3,6,70,71,72],[3,6,70,71,72],[3,6,10,70,71,72],[3,6,10,70,71,72],[3,6,70,71,72],[3],[3]].getD n [],order:=fun n=>[[],[],[],[(0,0),(2,0),(3,4),(4,12),(1,1),(5,31),(6,63),(7,127)],[(0,0),(1,1),(2,3),(3,0),(4,15)],[],[],[],[],[],[],[(0,0),(1,0),(2,2),(3,0),(4,8),(5,24),(6,56),(7,127)],[],[(0,0),(1,1),(2,3),(3,0),(4,15)],[],[],[],[],[(0,0),(1,1),(2,3),(3,0),(4,0),(5,16),(6,56),(7,127)]].getD n [] }
def pl.f29 (Q:VK) (c:CallT):Plan:=[
  (32762,fun S T H=>F.f29_l2 (sy c) Q (T 3) (T 6) (T 70) (T 71) (T 72) H (S 0)),
  (4090,fun S T H=>F.f29_l1 (sy c) Q (T 1) (T 3) (T 6) (T 45) (T 46) (T 47) H (S 0))]

def kp.f24:Keep:={ keep:=fun n=>[[0],[0],[0,4],[0,4,5],[0,4,5],[0,4,5],[0,4,5,6],[6],[0,4,5],[],[4],[4,7],[4,7,8],[4,7,8],[4,7,8],[7]].getD n [],order:=fun n=>[].getD n [] }
def pl.f24 (Q:VK) (c:CallT):Plan:=[
  (250,fun S T H=>F.f24_l2 (sy c) Q (T 4) (T 7) (T 8) H (S 0)),
  (58,fun S T H=>F.f24_l1 (sy c) Q (T 0) (T 4) (T 5) H (S 0))]

def kp.f50:Keep:={ keep:=fun n=>[[0],[0,3],[0,3,4],[3,4],[0,3]].getD n [],order:=fun n=>[[],[],[],[(0,0),(1,0),(2,3)]].getD n [] }

def kp.f49:Keep:={ keep:=fun n=>[[0,1],[0,3],[],[0,3],[0,6],[0,6,7],[0,6,7],[0,6,7],[0,6,7],[0,6,7],[6,7],[7],[6,7]].getD n [],order:=fun n=>[[],[],[],[],[],[(0,0),(1,1),(2,3),(3,7),(4,15),(5,31),(6,15),(7,79),(8,207),(9,463),(10,975),(11,2047),(12,4095)],[(0,0),(1,1),(2,3),(3,7),(4,0),(5,16),(6,63),(7,127),(8,255)]].getD n [] }
def pl.f49 (Q:VK) (c:CallT):Plan:=[
  (124,fun S T H=>F.f49_l1 (sy c) Q (T 0) (T 6) (T 7) H (S 0))]

def kp.f15:Keep:={ keep:=fun n=>[[0,1],[2,3],[],[2,3],[2,3,5,6],[2],[2,3,5],[2,3,31,32,33],[2,3,31,32,33],[2,3,8,31,32,33],[2,3,8,31,32,33,38,39,40],[2,3,8,31,32,33,38,39,40],[2,3,8,10,31,32,33,38,39,40],[2,3,8,31,32,33,38,39,40],[8],[2,3,31,32,33],[2]].getD n [],order:=fun n=>[].getD n [] }
def pl.f15 (Q:VK) (c:CallT):Plan:=[
  (455882,fun S T H=>F.f15_l2 (sy c) Q (S 1) (T 2) (T 3) (T 8) (T 31) (T 32) (T 33) (T 38) (T 39) (T 40) H (S 0)),
  (890,fun S T H=>F.f15_l1 (sy c) Q (T 2) (T 3) (T 31) (T 32) (T 33) H (S 0))]

def kp.f30:Keep:={ keep:=fun n=>[[0,1],[0,1],[0,1,5,6],[5],[0,1],[0,1,7],[0,1,7],[7]].getD n [],order:=fun n=>[].getD n [] }

def kp.f20:Keep:={ keep:=fun n=>[[0],[0],[],[0],[0]].getD n [],order:=fun n=>[].getD n [] }

def kp.f11:Keep:={ keep:=fun n=>[[0],[0,2]].getD n [],order:=fun n=>[].getD n [] }

def kp.f22:Keep:={ keep:=fun n=>[[0,1],[0,3]].getD n [],order:=fun n=>[].getD n [] }

def kp.f19:Keep:={ keep:=fun n=>[[0,1,2,3,4]].getD n [],order:=fun n=>[].getD n [] }

def kp.f18:Keep:={ keep:=fun n=>[[0,1]].getD n [],order:=fun n=>[].getD n [] }

def kp.f32:Keep:={ keep:=fun n=>[[0,1,2],[0,1,2,10],[0],[0,1,2,10],[0,1,2],[0,1,2],[0,1,2,6],[0,1,2,6,7,8],[0,1,2,6,7,8],[0,1,2,6,8],[0,1,2,6,8],[0,1,2,6]].getD n [],order:=fun n=>[[],[],[(0,0),(1,1),(2,3),(3,0),(4,8),(5,24),(6,56),(7,127)],[],[(0,0),(1,1),(2,3),(3,0),(4,8),(5,24),(6,56),(7,0),(8,0),(9,256),(10,768),(11,1792),(12,3968),(13,0),(14,8192),(15,24576),(16,57344),(17,131071)],[],[(0,0),(1,1),(2,3),(4,0),(5,16),(6,48),(3,7),(7,127),(8,255),(9,511)],[(0,0),(1,1),(2,3),(3,0),(4,0),(5,24),(6,56),(7,120),(8,0),(9,0),(10,1023)]].getD n [] }

def kp.f31:Keep:={ keep:=fun n=>[[0,1],[0,10,11,12],[0,10,11,12],[0,5,10,11,12],[0,5,6,10,11,12],[0,5,6,10,11,12,21,22,23],[0,5,6,10,11,12,21,22,23],[0,5,6,8,10,11,12,21,22,23],[0,5,6,8,9,10,11,12,21,22,23],[0,5,6,9,10,11,12,21,22,23],[0,5,6,10,11,12,21,22,23],[0,5,6,10,11,12],[0,6,10,11,12],[0,10,11,12],[0]].getD n [],order:=fun n=>[[],[],[],[],[],[],[],[],[],[],[],[(0,0),(1,1),(2,3),(3,0),(4,0),(5,16),(6,56),(7,127)],[],[],[(0,0),(1,1),(2,3),(3,0),(4,8),(5,24),(6,56),(7,127)]].getD n [] }
def pl.f31 (Q:VK) (c:CallT):Plan:=[
  (10650,fun S T H=>F.f31_l2 (sy c) Q (S 1) (T 0) (T 5) (T 6) (T 10) (T 11) (T 12) (T 21) (T 22) (T 23) H (S 0)),
  (10,fun S T H=>F.f31_l1 (sy c) Q (T 0) (T 10) (T 11) (T 12) H (S 0))]

def kp.f34:Keep:={ keep:=fun n=>[[0],[0,7,8,9],[0,7,8,9],[0,3,7,8,9],[0,3,7,8,9],[0,7,8,9]].getD n [],order:=fun n=>[[],[],[],[(0,0),(1,1),(2,3),(3,0),(4,8),(5,24),(6,56),(7,0),(8,248),(9,511)],[(0,0),(1,1),(2,3),(3,0),(4,8),(5,31)]].getD n [] }
def pl.f34 (Q:VK) (c:CallT):Plan:=[
  (6,fun S T H=>F.f34_l1 (sy c) Q (T 0) (T 7) (T 8) (T 9) H (S 0))]

def kp.f21:Keep:={ keep:=fun n=>[[0],[0],[],[0]].getD n [],order:=fun n=>[].getD n [] }

def kp.f28:Keep:={ keep:=fun n=>[[0,1],[0,3],[],[0,3,10],[0,3],[0,3,6],[],[0,3],[0,3,10],[0,3],[],[0,3],[0,3,10],[0,3],[0,7,8],[],[0,7],[0,3,10],[0,3],[]].getD n [],order:=fun n=>[[],[],[],[],[(0,0),(1,1),(2,3),(3,7),(4,0),(5,16),(6,63),(7,127),(8,255),(9,255),(10,511),(11,2047)],[],[],[(0,0),(1,1),(2,3),(3,7),(4,0),(5,16),(6,0),(7,64),(8,192),(9,448),(10,960),(11,2047)],[],[],[],[(0,0),(1,0),(2,2),(3,6),(4,14),(5,0),(6,32),(7,96),(8,254),(9,511),(10,1023),(11,2047)]].getD n [] }

def kp.f0:Keep:={ keep:=fun n=>[[0],[0,2],[2],[0,2],[2],[0,2],[0,2,17,18,19],[0,2,17,18,19],[0,2,3,4,17,18,19],[0,2,3,5,17,18,19],[2,3,5],[0,2,17,18,19],[0,2],[0,2,6],[2,6],[0,2]].getD n [],order:=fun n=>[].getD n [] }
def pl.f0 (Q:VK) (c:CallT):Plan:=[
  (58,fun S T H=>F.f0_l1 (sy c) Q (T 0) (T 2) (T 17) (T 18) (T 19) H (S 0))]

def kp.f55:Keep:={ keep:=fun n=>[[0,1],[0,3],[0,3],[0,3,13],[0,3],[0,3,13],[0,3],[0,3,13],[0,3],[0,3,13],[0,3],[0,3,13],[0,3],[0,3,13],[0,3],[0,3,13],[0,3],[0,3],[0],[0,3,13],[0,3],[0],[0]].getD n [],order:=fun n=>[[],[],[],[],[],[],[],[],[(0,0),(1,0),(2,2),(3,6),(4,0),(5,16),(6,48),(7,112),(8,1),(9,257),(10,1023),(11,2047)],[],[(0,0),(1,0),(2,2),(3,6),(4,0),(5,16),(6,48),(7,112),(8,1),(9,257),(10,1023),(11,2047)],[],[],[],[],[],[(0,0),(1,0),(2,0),(3,4),(4,1),(5,17),(6,49),(7,127),(8,255),(9,511)]].getD n [] }

def kp.f48:Keep:={ keep:=fun n=>[[0,1],[0,1]].getD n [],order:=fun n=>[].getD n [] }

def kp.f46:Keep:={ keep:=fun n=>[[0,1,2],[0,1,2],[0,1,2,8],[0,1,2,8,9,10],[0,1,2,8,9,10],[0,1,2,8,9,10,11],[0,1,2,8,10,11],[0,1,2,8,9,11],[0,1,2,8,9]].getD n [],order:=fun n=>[].getD n [] }
def pl.f46 (Q:VK) (c:CallT):Plan:=[
  (60,fun S T H=>F.f46_l1 (sy c) Q (T 0) (T 1) (T 2) (T 8) (T 9) (T 10) H (S 0))]

def kp.f16:Keep:={ keep:=fun n=>[[0,1],[1,2]].getD n [],order:=fun n=>[].getD n [] }

def kp.f37:Keep:={ keep:=fun n=>[[0,1],[2,3],[],[2,3],[2,5],[2,5,20],[2,5],[2,5,20],[2,5],[2,5,20],[2,5],[2,5,20],[2,5],[2,5,20],[2,5],[2,5,20],[2,5],[2,5,20],[2,5],[]].getD n [],order:=fun n=>[].getD n [] }

def kp.f23:Keep:={ keep:=fun n=>[[0,1],[0,3],[0,3]].getD n [],order:=fun n=>[[],[],[(0,0),(1,0),(2,2),(3,6),(4,14),(5,0),(6,32),(7,126),(8,255),(9,511),(10,1023)]].getD n [] }

def kp.f9:Keep:={ keep:=fun n=>[[0,1,2,3],[0,1,2,3,8]].getD n [],order:=fun n=>[].getD n [] }

def kp.f17:Keep:={ keep:=fun n=>[[0,1]].getD n [],order:=fun n=>[].getD n [] }

def kp.f33:Keep:={ keep:=fun n=>[[0,1,2,3],[0,2,3,5],[0,2,3,5,8,9],[0,2,3,5,8,9,10],[0,2,3,5,8,9,10],[0,3],[0,2,3,5,8,9,10,31],[0,2,3,5,8,9,10],[0,2,3,5,9,10],[0,2,3,9],[0,2,3,5,8,9,10,31],[0,2,3,5,8,9,10],[0,2,3,5,9,10],[0,2,3,9],[0,2,3,5,8,9,10,31],[0,2,3,5],[0,2,3,5,8,9,10,31],[0,2,3,5],[0,2,3,5,8,9,10,31],[0,2,3,5],[0,2,3,5,8,9,10,31],[0,2,3,5],[0,2,3,5,8,9,10,31],[0,2,3,5,8,9,10],[0,2,3,5,8,9,10],[0,2,3,5,9,10],[0,2,3,5,9],[0,2,3,9]].getD n [],order:=fun n=>[[],[(0,0),(1,1),(2,3),(3,7),(4,0),(5,16),(6,48),(7,15),(8,255)],[],[(0,0),(1,1),(2,3),(3,0),(4,8),(5,24),(6,56),(7,127)],[],[],[],[],[],[],[],[],[],[],[],[],[],[],[],[],[],[],[],[(0,0),(1,1),(2,3),(3,0),(4,8),(5,24),(6,56),(7,120),(8,255)],[],[],[(0,0),(1,1),(2,3),(3,0),(4,8),(5,24),(6,56),(7,127)]].getD n [] }

def kp.f13:Keep:={ keep:=fun n=>[[0],[0,2]].getD n [],order:=fun n=>[].getD n [] }

def kp.f8:Keep:={ keep:=fun n=>[[0],[0]].getD n [],order:=fun n=>[].getD n [] }

def kp.f25:Keep:={ keep:=fun n=>[[0,1],[0,1],[0,6,7]].getD n [],order:=fun n=>[].getD n [] }

def kp.f27:Keep:={ keep:=fun n=>[[0,1]].getD n [],order:=fun n=>[[(0,0),(1,0),(2,2),(3,6),(4,14),(5,0),(6,32),(7,96),(8,224),(9,510),(10,1023),(11,2047),(12,4095)]].getD n [] }

def kp.f26:Keep:={ keep:=fun n=>[[0,1],[0,3],[0,3,5,6],[0,3,5,6,7,8],[],[0,3,5,6,7,8],[],[0,3,5,7],[0,3,5,7],[0,3,5],[0,3,5,7],[0,3,5,7],[0,3,7],[0,3,5,7],[0,5,7,9],[0,9],[]].getD n [],order:=fun n=>[[],[],[],[],[],[],[],[],[],[],[],[],[],[],[],[(0,0),(1,0),(2,2),(3,6),(4,14),(5,0),(6,32),(7,126),(8,255),(9,511),(10,1023)]].getD n [] }
def pl.f26 (Q:VK) (c:CallT):Plan:=[
  (127,fun S T H=>F.f26_j2 (sy c) Q (T 0) (T 3) (T 5) (T 7) H),
  (63,fun S T H=>F.f26_j1 (sy c) Q (T 0) (T 3) (T 5) (T 7) H)]

def kp.f3:Keep:={ keep:=fun n=>[[0,1,2],[1,2,3],[3,7],[],[3,7],[],[3,7],[],[3],[],[3],[],[3],[],[3],[],[]].getD n [],order:=fun n=>[].getD n [] }

def kp.f1:Keep:={ keep:=fun n=>[[0],[1]].getD n [],order:=fun n=>[].getD n [] }

def kp.f2:Keep:={ keep:=fun n=>[[0],[0,2],[0,2,3],[0,2,3,14,15],[0,2,3,14,15],[0,2,3,4,14,15],[0,2,3,14,15],[0,2,3],[0,2,3],[2,3,24,25,26],[2,3,24,25,26],[2,3,5,6,24,25,26],[2,3,5,6,7,24,25,26],[2,3,5,6,7,24,25,26,36],[2,3,5,6,7,24,25,26,36],[2,3,5,6,7,24,25,26],[2,5],[2,3,5,6,7,24,25,26,36],[2,3,5,6,7,24,25,26,36],[2,3,5,6,7,24,25,26],[2,3,5,6,7,24,25,26],[2,3,7,24,25,26,58,59,60],[2,3,7,24,25,26,58,59,60],[2,3,7,9,24,25,26,58,59,60],[2,3,7,24,25,26,58,59,60],[2,3,24,25,26],[2]].getD n [],order:=fun n=>[].getD n [] }
def pl.f2 (Q:VK) (c:CallT):Plan:=[
  (256414,fun S T H=>F.f2_l3 (sy c) Q (S 1) (T 2) (T 3) (T 7) (T 24) (T 25) (T 26) (T 58) (T 59) (T 60) H (S 0)),
  (64103,fun S T H=>F.f2_j1 (sy c) Q (S 0) (T 2) (T 3) (T 5) (T 6) (T 7) (T 24) (T 25) (T 26) H),
  (2051287,fun S T H=>F.f2_j3 (sy c) Q (S 0) (T 2) (T 3) (T 5) (T 6) (T 7) (T 24) (T 25) (T 26) (T 48) H),
  (512821,fun S T H=>F.f2_j2 (sy c) Q (S 0) (T 2) (T 3) (T 5) (T 6) (T 7) (T 24) (T 25) (T 26) (T 36) (T 37) H),
  (250,fun S T H=>F.f2_l2 (sy c) Q (T 2) (T 3) (T 24) (T 25) (T 26) H (S 0)),
  (58,fun S T H=>F.f2_l1 (sy c) Q (T 0) (T 2) (T 3) (T 14) (T 15) H (S 0))]

def kp.f52:Keep:={ keep:=fun n=>[[0,1],[0,3],[0,3,9],[0,3],[5],[0,3,9],[0,3],[3,9],[],[3]].getD n [],order:=fun n=>[[],[],[],[(0,0),(1,1),(2,3),(3,7),(4,0),(5,16),(6,63),(7,127),(8,255),(9,255),(10,511),(11,2047)],[],[],[(0,0),(1,0),(2,2),(3,6),(4,1),(5,17),(6,63),(7,127),(8,255)]].getD n [] }

def kp.f54:Keep:={ keep:=fun n=>[[0,1],[0,3],[0,3,4],[0,4,10],[0,4],[0,4,10],[0,4],[0,4,10],[0,4],[0,4,10],[0,4],[0],[0,4],[0,4,10],[0,4],[0,4,10],[0,4],[0,4,10],[0,4],[0,4,10],[0,4],[0,4,10],[0,4],[0,10],[0]].getD n [],order:=fun n=>[].getD n [] }

def kp.f51:Keep:={ keep:=fun n=>[[0,1],[0,3],[0,3,4],[0,3,4,5],[0,3,4,5,11],[0,3],[0,3,4,5,11],[0,3,4],[0,3,4,5,11],[0,3,4],[0,3,4,5,11],[0,3,4],[0,3,4,5,11],[0,3,4],[0,3,5],[0,3],[0,3]].getD n [],order:=fun n=>[[],[],[],[],[],[(0,0),(1,1),(2,3),(3,7),(4,0),(5,16),(6,48),(7,127),(8,255),(9,511),(10,1023)],[],[],[],[],[],[],[],[],[],[(0,0),(1,1),(2,3),(3,7),(4,0),(5,16),(6,48),(7,127),(8,255),(9,511),(10,1023)],[(0,0),(1,1),(2,3),(3,7),(4,0),(5,16),(6,48),(7,127),(8,255),(9,511),(10,1023)]].getD n [] }
def pl.f51 (Q:VK) (c:CallT):Plan:=[
  (31,fun S T H=>F.f51_j1 (sy c) Q (T 0) (T 3) (T 5) H)]

def kp.f6:Keep:={ keep:=fun n=>[[0,1],[0,1],[0,1,5],[0,1,5,6],[6],[],[],[0,1,6],[],[0,1],[],[0,1],[],[]].getD n [],order:=fun n=>[].getD n [] }

def kp.f41:Keep:={ keep:=fun n=>[[0,1],[0,1],[1,5],[5],[5]].getD n [],order:=fun n=>[].getD n [] }

def kp.f36:Keep:={ keep:=fun n=>[[0,1,2],[0,2,4],[0,4]].getD n [],order:=fun n=>[[],[],[(0,0),(1,1),(2,3),(3,0),(4,8),(5,24),(6,56),(7,127)]].getD n [] }

def kp.f35:Keep:={ keep:=fun n=>[[0,1,2,3,4],[0,2,3,4,6],[0,2,3,4,6,10,11],[0,2,3,4,6,10,11,12,13],[0,2,3,4,6,10,11,12,13],[0,2,3,4,6,10,11,13],[0,2,3,4,6,11,13],[0,2,3,4,11]].getD n [],order:=fun n=>[[],[(0,0),(1,1),(2,3),(3,7),(4,0),(5,16),(6,48),(7,15),(8,255)],[(0,0),(1,1),(2,3),(4,0),(5,16),(6,48),(3,7),(7,127),(8,255),(9,511)]].getD n [] }

def kp.f12:Keep:={ keep:=fun n=>[[0],[0,2]].getD n [],order:=fun n=>[].getD n [] }

def kp.f14:Keep:={ keep:=fun n=>[[0],[0,2]].getD n [],order:=fun n=>[].getD n [] }

def kp.f10:Keep:={ keep:=fun n=>[[0],[0],[0,4],[0,4],[0,4],[0,4],[0,4],[0,4],[0,4],[0,4],[0,4],[0,4],[0,4],[0,4],[0,4],[0,4],[0,4],[],[0],[0,3],[0,3,26],[0,3,26],[0,3,26],[0,3,26],[0,3,26],[0,3,26],[0,3,26],[0,3,26],[0,3,26],[0,3],[],[0,3],[0,43],[0,43],[0,43],[0,43],[0],[]].getD n [],order:=fun n=>[].getD n [] }
def pl.f10 (Q:VK) (c:CallT):Plan:=[
  (501,fun S T H=>F.f10_j3 (sy c) Q (T 0) (T 44) H),
  (31,fun S T H=>F.f10_j2 (sy c) Q (T 0) (T 3) H),
  (245,fun S T H=>F.f10_j4 (sy c) Q (T 0) (T 3) (T 27) H),
  (53,fun S T H=>F.f10_j1 (sy c) Q (T 0) (T 5) H)]

def kp.f4:Keep:={ keep:=fun n=>[[0],[0],[3],[3],[3],[3],[],[]].getD n [],order:=fun n=>[].getD n [] }
def pl.f4 (Q:VK) (c:CallT):Plan:=[
  (53,fun S T H=>F.f4_j1 (sy c) Q (T 4) H)]

def kp.f5:Keep:={ keep:=fun n=>[[0,1],[1,2],[],[1,2],[1,2],[1,2],[1,2],[1]].getD n [],order:=fun n=>[].getD n [] }

def kp.f43:Keep:={ keep:=fun n=>[[0,1],[1,2],[],[1,2],[1,6]].getD n [],order:=fun n=>[].getD n [] }

def kp.f53:Keep:={ keep:=fun n=>[[0,1],[0,3],[0],[3]].getD n [],order:=fun n=>[].getD n [] }

def kp.f7:Keep:={ keep:=fun n=>[[0],[0]].getD n [],order:=fun n=>[].getD n [] }

def kp.f42:Keep:={ keep:=fun n=>[[0],[1,2],[1,2,3],[1,2,3],[1,2,3],[1,2,3],[2,3,21,22],[2,3,21,22],[2,3,4,5,21,22],[2,3,21,22],[2,3]].getD n [],order:=fun n=>[[],[],[(0,0),(1,0),(2,2),(3,6),(4,15)],[(0,0),(1,0),(2,2),(3,6),(4,15)],[(0,0),(1,0),(2,2),(3,7)]].getD n [] }
def pl.f42 (Q:VK) (c:CallT):Plan:=[
  (506,fun S T H=>F.f42_l1 (sy c) Q (T 2) (T 3) (T 21) (T 22) H (S 0))]

def kp.f45:Keep:={ keep:=fun n=>[[0,1],[0,1],[0,1,5],[5,10,11,12],[5,10,11,12],[5,6,7,10,11,12],[5,10,11,12],[5]].getD n [],order:=fun n=>[].getD n [] }
def pl.f45 (Q:VK) (c:CallT):Plan:=[
  (58,fun S T H=>F.f45_l1 (sy c) Q (T 5) (T 10) (T 11) (T 12) H (S 0))]

def kp.f44:Keep:={ keep:=fun n=>[[0,1,2],[0,1,7,8],[0,1,7,8],[0,1,6,7,8],[0,1,7,8]].getD n [],order:=fun n=>[].getD n [] }
def pl.f44 (Q:VK) (c:CallT):Plan:=[
  (6,fun S T H=>F.f44_l1 (sy c) Q (T 0) (T 1) (T 7) (T 8) H (S 0))]

def kpL:List (Nat×Keep):=[(3,kp.f39),(8,kp.f38),(9,kp.f40),(11,kp.f29),(10,kp.f24),(12,kp.f50),(13,kp.f49),(14,kp.f15),(26,kp.f30),(27,kp.f20),(29,kp.f11),(28,kp.f22),(30,kp.f19),(31,kp.f18),(32,kp.f32),(33,kp.f31),(34,kp.f34),(35,kp.f21),(25,kp.f28),(36,kp.f0),(37,kp.f55),(38,kp.f48),(39,kp.f46),(40,kp.f16),(42,kp.f37),(62,kp.f23),(63,kp.f9),(64,kp.f17),(65,kp.f33),(66,kp.f13),(58,kp.f8),(59,kp.f25),(60,kp.f27),(61,kp.f26),(67,kp.f3),(68,kp.f1),(69,kp.f2),(70,kp.f52),(71,kp.f54),(72,kp.f51),(41,kp.f6),(86,kp.f41),(87,kp.f36),(88,kp.f35),(89,kp.f12),(85,kp.f14),(90,kp.f10),(91,kp.f4),(92,kp.f5),(93,kp.f43),(94,kp.f53),(74,kp.f7),(109,kp.f42),(110,kp.f45),(118,kp.f44)]
def kps (f:FuncId):Keep:=((kpL.find? (fun p=>p.1 == f)).map (fun p=>p.2)).getD { keep:=fun _=>[],order:=fun _=>[] }
def ext:CallT:=fun f args H K=>(f=73/\∃ x0 x1,args=[x0,x1]/\atomicAdd x0 x1 H K)\/False
theorem extOk:CallOk Try.prog ext:=by
  rintro f args H K (⟨rfl,h⟩ | h)
  · exact atomicAdd_told Try.func73 (by kernel_rfl) (by kernel_rfl) (by kernel_rfl) (by kernel_rfl) h
  · exact h.elim
abbrev W:CallT:=CallW Try.prog kps ext
theorem mkF {i:Nat} {fn:Func} {kp:Keep} {code:Code} {args:List Value} {H:AH} {Q:VK} (pl:CallT->Plan) {G:CallT->Prop} (hfn:Try.prog.funcs[i]? = some fn)
    (h1 : (fn.body.isNone, (fn.name == "runtime.NumGoroutine"), codeOk Try.prog fn.ntmps (bodyOf fn), fn.body, kps i) = (false, false, true, some code, kp))
    (h2:∀ c,(obls Try.prog c kp (pl c) code 1 (fun _=>bodyK Try.prog fn.results.toList Q)).map (·.1)=(obls Try.prog c kp (pl c) code 1 (fun _=>bodyK Try.prog fn.results.toList Q)).map (·.2))
    (h3:∀ c,G c=evD Try.prog c kp (pl c) code nostk 1 (argEnv args) H (bodyK Try.prog fn.results.toList Q)) (h:G W):W i args H Q:=by
  simp only [Prod.mk.injEq] at h1
  obtain ⟨a,b,c,d,e⟩:=h1
  refine CallW.fold ⟨hfn,a,b,c⟩ ?_
  rw [e]
  exact evBody_of (pl:=pl W) fn args H Q code d (h2 W) (h3 W) h
theorem fold_f39 (x0 x1:Value) (H:AH) (Q:VK):F.f39 (sy W) x0 x1 H Q->W 3 [x0,x1] H Q :=
  mkF (kp:=kp.f39) (code:=bodyOf Try.f3) (pl.f39 Q) (G:=fun c=>F.f39 (sy c) x0 x1 H Q) Try.func3 (by kernel_rfl) (fun c=>by kernel_rfl) (fun c=>by kernel_rfl)
theorem fold_f38 (H:AH) (Q:VK):F.f38 (sy W) H Q->W 8 [] H Q :=
  mkF (kp:=kp.f38) (code:=bodyOf Try.f8) (fun _=>[]) (G:=fun c=>F.f38 (sy c) H Q) Try.func8 (by kernel_rfl) (fun c=>by kernel_rfl) (fun c=>by kernel_rfl)
theorem fold_f40 (x0:Value) (H:AH) (Q:VK):F.f40 (sy W) x0 H Q->W 9 [x0] H Q :=
  mkF (kp:=kp.f40) (code:=bodyOf Try.f9) (fun _=>[]) (G:=fun c=>F.f40 (sy c) x0 H Q) Try.func9 (by kernel_rfl) (fun c=>by kernel_rfl) (fun c=>by kernel_rfl)
theorem fold_f29 (x0:Value) (H:AH) (Q:VK):F.f29 (sy W) x0 H Q->W 11 [x0] H Q :=
  mkF (kp:=kp.f29) (code:=bodyOf Try.f11) (pl.f29 Q) (G:=fun c=>F.f29 (sy c) x0 H Q) Try.func11 (by kernel_rfl) (fun c=>by kernel_rfl) (fun c=>by kernel_rfl)
theorem fold_f24 (x0:Value) (H:AH) (Q:VK):F.f24 (sy W) x0 H Q->W 10 [x0] H Q :=
  mkF (kp:=kp.f24) (code:=bodyOf Try.f10) (pl.f24 Q) (G:=fun c=>F.f24 (sy c) x0 H Q) Try.func10 (by kernel_rfl) (fun c=>by kernel_rfl) (fun c=>by kernel_rfl)
theorem fold_f50 (x0:Value) (H:AH) (Q:VK):F.f50 (sy W) x0 H Q->W 12 [x0] H Q :=
  mkF (kp:=kp.f50) (code:=bodyOf Try.f12) (fun _=>[]) (G:=fun c=>F.f50 (sy c) x0 H Q) Try.func12 (by kernel_rfl) (fun c=>by kernel_rfl) (fun c=>by kernel_rfl)
theorem fold_f49 (x0 x1:Value) (H:AH) (Q:VK):F.f49 (sy W) x0 x1 H Q->W 13 [x0,x1] H Q :=
  mkF (kp:=kp.f49) (code:=bodyOf Try.f13) (pl.f49 Q) (G:=fun c=>F.f49 (sy c) x0 x1 H Q) Try.func13 (by kernel_rfl) (fun c=>by kernel_rfl) (fun c=>by kernel_rfl)
theorem fold_f15 (x0 x1:Value) (H:AH) (Q:VK):F.f15 (sy W) x0 x1 H Q->W 14 [x0,x1] H Q :=
  mkF (kp:=kp.f15) (code:=bodyOf Try.f14) (pl.f15 Q) (G:=fun c=>F.f15 (sy c) x0 x1 H Q) Try.func14 (by kernel_rfl) (fun c=>by kernel_rfl) (fun c=>by kernel_rfl)
theorem fold_f30 (x0 x1:Value) (H:AH) (Q:VK):F.f30 (sy W) x0 x1 H Q->W 26 [x0,x1] H Q :=
  mkF (kp:=kp.f30) (code:=bodyOf Try.f26) (fun _=>[]) (G:=fun c=>F.f30 (sy c) x0 x1 H Q) Try.func26 (by kernel_rfl) (fun c=>by kernel_rfl) (fun c=>by kernel_rfl)
theorem fold_f20 (x0:Value) (H:AH) (Q:VK):F.f20 (sy W) x0 H Q->W 27 [x0] H Q :=
  mkF (kp:=kp.f20) (code:=bodyOf Try.f27) (fun _=>[]) (G:=fun c=>F.f20 (sy c) x0 H Q) Try.func27 (by kernel_rfl) (fun c=>by kernel_rfl) (fun c=>by kernel_rfl)
theorem fold_f11 (x0:Value) (H:AH) (Q:VK):F.f11 (sy W) x0 H Q->W 29 [x0] H Q :=
  mkF (kp:=kp.f11) (code:=bodyOf Try.f29) (fun _=>[]) (G:=fun c=>F.f11 (sy c) x0 H Q) Try.func29 (by kernel_rfl) (fun c=>by kernel_rfl) (fun c=>by kernel_rfl)
theorem fold_f22 (x0 x1:Value) (H:AH) (Q:VK):F.f22 (sy W) x0 x1 H Q->W 28 [x0,x1] H Q :=
  mkF (kp:=kp.f22) (code:=bodyOf Try.f28) (fun _=>[]) (G:=fun c=>F.f22 (sy c) x0 x1 H Q) Try.func28 (by kernel_rfl) (fun c=>by kernel_rfl) (fun c=>by kernel_rfl)
theorem fold_f19 (x0 x1 x2 x3 x4:Value) (H:AH) (Q:VK):F.f19 (sy W) x0 x1 x2 x3 x4 H Q->W 30 [x0,x1,x2,x3,x4] H Q :=
  mkF (kp:=kp.f19) (code:=bodyOf Try.f30) (fun _=>[]) (G:=fun c=>F.f19 (sy c) x0 x1 x2 x3 x4 H Q) Try.func30 (by kernel_rfl) (fun c=>by kernel_rfl) (fun c=>by kernel_rfl)
theorem fold_f18 (x0 x1:Value) (H:AH) (Q:VK):F.f18 (sy W) x0 x1 H Q->W 31 [x0,x1] H Q :=
  mkF (kp:=kp.f18) (code:=bodyOf Try.f31) (fun _=>[]) (G:=fun c=>F.f18 (sy c) x0 x1 H Q) Try.func31 (by kernel_rfl) (fun c=>by kernel_rfl) (fun c=>by kernel_rfl)
theorem fold_f32 (x0 x1 x2:Value) (H:AH) (Q:VK):F.f32 (sy W) x0 x1 x2 H Q->W 32 [x0,x1,x2] H Q :=
  mkF (kp:=kp.f32) (code:=bodyOf Try.f32) (fun _=>[]) (G:=fun c=>F.f32 (sy c) x0 x1 x2 H Q) Try.func32 (by kernel_rfl) (fun c=>by kernel_rfl) (fun c=>by kernel_rfl)
theorem fold_f31 (x0 x1:Value) (H:AH) (Q:VK):F.f31 (sy W) x0 x1 H Q->W 33 [x0,x1] H Q :=
  mkF (kp:=kp.f31) (code:=bodyOf Try.f33) (pl.f31 Q) (G:=fun c=>F.f31 (sy c) x0 x1 H Q) Try.func33 (by kernel_rfl) (fun c=>by kernel_rfl) (fun c=>by kernel_rfl)
theorem fold_f34 (x0:Value) (H:AH) (Q:VK):F.f34 (sy W) x0 H Q->W 34 [x0] H Q :=
  mkF (kp:=kp.f34) (code:=bodyOf Try.f34) (pl.f34 Q) (G:=fun c=>F.f34 (sy c) x0 H Q) Try.func34 (by kernel_rfl) (fun c=>by kernel_rfl) (fun c=>by kernel_rfl)
theorem fold_f21 (x0:Value) (H:AH) (Q:VK):F.f21 (sy W) x0 H Q->W 35 [x0] H Q :=
  mkF (kp:=kp.f21) (code:=bodyOf Try.f35) (fun _=>[]) (G:=fun c=>F.f21 (sy c) x0 H Q) Try.func35 (by kernel_rfl) (fun c=>by kernel_rfl) (fun c=>by kernel_rfl)
theorem fold_f28 (x0 x1:Value) (H:AH) (Q:VK):F.f28 (sy W) x0 x1 H Q->W 25 [x0,x1] H Q :=
  mkF (kp:=kp.f28) (code:=bodyOf Try.f25) (fun _=>[]) (G:=fun c=>F.f28 (sy c) x0 x1 H Q) Try.func25 (by kernel_rfl) (fun c=>by kernel_rfl) (fun c=>by kernel_rfl)
theorem fold_f0 (x0:Value) (H:AH) (Q:VK):F.f0 (sy W) x0 H Q->W 36 [x0] H Q :=
  mkF (kp:=kp.f0) (code:=bodyOf Try.f36) (pl.f0 Q) (G:=fun c=>F.f0 (sy c) x0 H Q) Try.func36 (by kernel_rfl) (fun c=>by kernel_rfl) (fun c=>by kernel_rfl)
theorem fold_f55 (x0 x1:Value) (H:AH) (Q:VK):F.f55 (sy W) x0 x1 H Q->W 37 [x0,x1] H Q :=
  mkF (kp:=kp.f55) (code:=bodyOf Try.f37) (fun _=>[]) (G:=fun c=>F.f55 (sy c) x0 x1 H Q) Try.func37 (by kernel_rfl) (fun c=>by kernel_rfl) (fun c=>by kernel_rfl)
theorem fold_f48 (x0 x1:Value) (H:AH) (Q:VK):F.f48 (sy W) x0 x1 H Q->W 38 [x0,x1] H Q :=
  mkF (kp:=kp.f48) (code:=bodyOf Try.f38) (fun _=>[]) (G:=fun c=>F.f48 (sy c) x0 x1 H Q) Try.func38 (by kernel_rfl) (fun c=>by kernel_rfl) (fun c=>by kernel_rfl)
theorem fold_f46 (x0 x1 x2:Value) (H:AH) (Q:VK):F.f46 (sy W) x0 x1 x2 H Q->W 39 [x0,x1,x2] H Q :=
  mkF (kp:=kp.f46) (code:=bodyOf Try.f39) (pl.f46 Q) (G:=fun c=>F.f46 (sy c) x0 x1 x2 H Q) Try.func39 (by kernel_rfl) (fun c=>by kernel_rfl) (fun c=>by kernel_rfl)
theorem fold_f16 (x0 x1:Value) (H:AH) (Q:VK):F.f16 (sy W) x0 x1 H Q->W 40 [x0,x1] H Q :=
  mkF (kp:=kp.f16) (code:=bodyOf Try.f40) (fun _=>[]) (G:=fun c=>F.f16 (sy c) x0 x1 H Q) Try.func40 (by kernel_rfl) (fun c=>by kernel_rfl) (fun c=>by kernel_rfl)
theorem fold_f37 (x0 x1:Value) (H:AH) (Q:VK):F.f37 (sy W) x0 x1 H Q->W 42 [x0,x1] H Q :=
  mkF (kp:=kp.f37) (code:=bodyOf Try.f42) (fun _=>[]) (G:=fun c=>F.f37 (sy c) x0 x1 H Q) Try.func42 (by kernel_rfl) (fun c=>by kernel_rfl) (fun c=>by kernel_rfl)
theorem fold_f23 (x0 x1:Value) (H:AH) (Q:VK):F.f23 (sy W) x0 x1 H Q->W 62 [x0,x1] H Q :=
  mkF (kp:=kp.f23) (code:=bodyOf Try.f62) (fun _=>[]) (G:=fun c=>F.f23 (sy c) x0 x1 H Q) Try.func62 (by kernel_rfl) (fun c=>by kernel_rfl) (fun c=>by kernel_rfl)
theorem fold_f9 (x0 x1 x2 x3:Value) (H:AH) (Q:VK):F.f9 (sy W) x0 x1 x2 x3 H Q->W 63 [x0,x1,x2,x3] H Q :=
  mkF (kp:=kp.f9) (code:=bodyOf Try.f63) (fun _=>[]) (G:=fun c=>F.f9 (sy c) x0 x1 x2 x3 H Q) Try.func63 (by kernel_rfl) (fun c=>by kernel_rfl) (fun c=>by kernel_rfl)
theorem fold_f17 (x0 x1:Value) (H:AH) (Q:VK):F.f17 (sy W) x0 x1 H Q->W 64 [x0,x1] H Q :=
  mkF (kp:=kp.f17) (code:=bodyOf Try.f64) (fun _=>[]) (G:=fun c=>F.f17 (sy c) x0 x1 H Q) Try.func64 (by kernel_rfl) (fun c=>by kernel_rfl) (fun c=>by kernel_rfl)
theorem fold_f33 (x0 x1 x2 x3:Value) (H:AH) (Q:VK):F.f33 (sy W) x0 x1 x2 x3 H Q->W 65 [x0,x1,x2,x3] H Q :=
  mkF (kp:=kp.f33) (code:=bodyOf Try.f65) (fun _=>[]) (G:=fun c=>F.f33 (sy c) x0 x1 x2 x3 H Q) Try.func65 (by kernel_rfl) (fun c=>by kernel_rfl) (fun c=>by kernel_rfl)
theorem fold_f13 (x0:Value) (H:AH) (Q:VK):F.f13 (sy W) x0 H Q->W 66 [x0] H Q :=
  mkF (kp:=kp.f13) (code:=bodyOf Try.f66) (fun _=>[]) (G:=fun c=>F.f13 (sy c) x0 H Q) Try.func66 (by kernel_rfl) (fun c=>by kernel_rfl) (fun c=>by kernel_rfl)
theorem fold_f8 (x0:Value) (H:AH) (Q:VK):F.f8 (sy W) x0 H Q->W 58 [x0] H Q :=
  mkF (kp:=kp.f8) (code:=bodyOf Try.f58) (fun _=>[]) (G:=fun c=>F.f8 (sy c) x0 H Q) Try.func58 (by kernel_rfl) (fun c=>by kernel_rfl) (fun c=>by kernel_rfl)
theorem fold_f25 (x0 x1:Value) (H:AH) (Q:VK):F.f25 (sy W) x0 x1 H Q->W 59 [x0,x1] H Q :=
  mkF (kp:=kp.f25) (code:=bodyOf Try.f59) (fun _=>[]) (G:=fun c=>F.f25 (sy c) x0 x1 H Q) Try.func59 (by kernel_rfl) (fun c=>by kernel_rfl) (fun c=>by kernel_rfl)
theorem fold_f27 (x0 x1:Value) (H:AH) (Q:VK):F.f27 (sy W) x0 x1 H Q->W 60 [x0,x1] H Q :=
  mkF (kp:=kp.f27) (code:=bodyOf Try.f60) (fun _=>[]) (G:=fun c=>F.f27 (sy c) x0 x1 H Q) Try.func60 (by kernel_rfl) (fun c=>by kernel_rfl) (fun c=>by kernel_rfl)
theorem fold_f26 (x0 x1:Value) (H:AH) (Q:VK):F.f26 (sy W) x0 x1 H Q->W 61 [x0,x1] H Q :=
  mkF (kp:=kp.f26) (code:=bodyOf Try.f61) (pl.f26 Q) (G:=fun c=>F.f26 (sy c) x0 x1 H Q) Try.func61 (by kernel_rfl) (fun c=>by kernel_rfl) (fun c=>by kernel_rfl)
theorem fold_f3 (x0 x1 x2:Value) (H:AH) (Q:VK):F.f3 (sy W) x0 x1 x2 H Q->W 67 [x0,x1,x2] H Q :=
  mkF (kp:=kp.f3) (code:=bodyOf Try.f67) (fun _=>[]) (G:=fun c=>F.f3 (sy c) x0 x1 x2 H Q) Try.func67 (by kernel_rfl) (fun c=>by kernel_rfl) (fun c=>by kernel_rfl)
theorem fold_f1 (x0:Value) (H:AH) (Q:VK):F.f1 (sy W) x0 H Q->W 68 [x0] H Q :=
  mkF (kp:=kp.f1) (code:=bodyOf Try.f68) (fun _=>[]) (G:=fun c=>F.f1 (sy c) x0 H Q) Try.func68 (by kernel_rfl) (fun c=>by kernel_rfl) (fun c=>by kernel_rfl)
theorem fold_f2 (x0:Value) (H:AH) (Q:VK):F.f2 (sy W) x0 H Q->W 69 [x0] H Q :=
  mkF (kp:=kp.f2) (code:=bodyOf Try.f69) (pl.f2 Q) (G:=fun c=>F.f2 (sy c) x0 H Q) Try.func69 (by kernel_rfl) (fun c=>by kernel_rfl) (fun c=>by kernel_rfl)
theorem fold_f52 (x0 x1:Value) (H:AH) (Q:VK):F.f52 (sy W) x0 x1 H Q->W 70 [x0,x1] H Q :=
  mkF (kp:=kp.f52) (code:=bodyOf Try.f70) (fun _=>[]) (G:=fun c=>F.f52 (sy c) x0 x1 H Q) Try.func70 (by kernel_rfl) (fun c=>by kernel_rfl) (fun c=>by kernel_rfl)
theorem fold_f54 (x0 x1:Value) (H:AH) (Q:VK):F.f54 (sy W) x0 x1 H Q->W 71 [x0,x1] H Q :=
  mkF (kp:=kp.f54) (code:=bodyOf Try.f71) (fun _=>[]) (G:=fun c=>F.f54 (sy c) x0 x1 H Q) Try.func71 (by kernel_rfl) (fun c=>by kernel_rfl) (fun c=>by kernel_rfl)
theorem fold_f51 (x0 x1:Value) (H:AH) (Q:VK):F.f51 (sy W) x0 x1 H Q->W 72 [x0,x1] H Q :=
  mkF (kp:=kp.f51) (code:=bodyOf Try.f72) (pl.f51 Q) (G:=fun c=>F.f51 (sy c) x0 x1 H Q) Try.func72 (by kernel_rfl) (fun c=>by kernel_rfl) (fun c=>by kernel_rfl)
theorem fold_f6 (x0 x1:Value) (H:AH) (Q:VK):F.f6 (sy W) x0 x1 H Q->W 41 [x0,x1] H Q :=
  mkF (kp:=kp.f6) (code:=bodyOf Try.f41) (fun _=>[]) (G:=fun c=>F.f6 (sy c) x0 x1 H Q) Try.func41 (by kernel_rfl) (fun c=>by kernel_rfl) (fun c=>by kernel_rfl)
theorem fold_f41 (x0 x1:Value) (H:AH) (Q:VK):F.f41 (sy W) x0 x1 H Q->W 86 [x0,x1] H Q :=
  mkF (kp:=kp.f41) (code:=bodyOf Try.f86) (fun _=>[]) (G:=fun c=>F.f41 (sy c) x0 x1 H Q) Try.func86 (by kernel_rfl) (fun c=>by kernel_rfl) (fun c=>by kernel_rfl)
theorem fold_f36 (x0 x1 x2:Value) (H:AH) (Q:VK):F.f36 (sy W) x0 x1 x2 H Q->W 87 [x0,x1,x2] H Q :=
  mkF (kp:=kp.f36) (code:=bodyOf Try.f87) (fun _=>[]) (G:=fun c=>F.f36 (sy c) x0 x1 x2 H Q) Try.func87 (by kernel_rfl) (fun c=>by kernel_rfl) (fun c=>by kernel_rfl)
theorem fold_f35 (x0 x1 x2 x3 x4:Value) (H:AH) (Q:VK):F.f35 (sy W) x0 x1 x2 x3 x4 H Q->W 88 [x0,x1,x2,x3,x4] H Q :=
  mkF (kp:=kp.f35) (code:=bodyOf Try.f88) (fun _=>[]) (G:=fun c=>F.f35 (sy c) x0 x1 x2 x3 x4 H Q) Try.func88 (by kernel_rfl) (fun c=>by kernel_rfl) (fun c=>by kernel_rfl)
theorem fold_f12 (x0:Value) (H:AH) (Q:VK):F.f12 (sy W) x0 H Q->W 89 [x0] H Q :=
  mkF (kp:=kp.f12) (code:=bodyOf Try.f89) (fun _=>[]) (G:=fun c=>F.f12 (sy c) x0 H Q) Try.func89 (by kernel_rfl) (fun c=>by kernel_rfl) (fun c=>by kernel_rfl)
theorem fold_f14 (x0:Value) (H:AH) (Q:VK):F.f14 (sy W) x0 H Q->W 85 [x0] H Q :=
  mkF (kp:=kp.f14) (code:=bodyOf Try.f85) (fun _=>[]) (G:=fun c=>F.f14 (sy c) x0 H Q) Try.func85 (by kernel_rfl) (fun c=>by kernel_rfl) (fun c=>by kernel_rfl)
theorem fold_f10 (x0:Value) (H:AH) (Q:VK):F.f10 (sy W) x0 H Q->W 90 [x0] H Q :=
  mkF (kp:=kp.f10) (code:=bodyOf Try.f90) (pl.f10 Q) (G:=fun c=>F.f10 (sy c) x0 H Q) Try.func90 (by kernel_rfl) (fun c=>by kernel_rfl) (fun c=>by kernel_rfl)
theorem fold_f4 (x0:Value) (H:AH) (Q:VK):F.f4 (sy W) x0 H Q->W 91 [x0] H Q :=
  mkF (kp:=kp.f4) (code:=bodyOf Try.f91) (pl.f4 Q) (G:=fun c=>F.f4 (sy c) x0 H Q) Try.func91 (by kernel_rfl) (fun c=>by kernel_rfl) (fun c=>by kernel_rfl)
theorem fold_f5 (x0 x1:Value) (H:AH) (Q:VK):F.f5 (sy W) x0 x1 H Q->W 92 [x0,x1] H Q :=
  mkF (kp:=kp.f5) (code:=bodyOf Try.f92) (fun _=>[]) (G:=fun c=>F.f5 (sy c) x0 x1 H Q) Try.func92 (by kernel_rfl) (fun c=>by kernel_rfl) (fun c=>by kernel_rfl)
theorem fold_f43 (x0 x1:Value) (H:AH) (Q:VK):F.f43 (sy W) x0 x1 H Q->W 93 [x0,x1] H Q :=
  mkF (kp:=kp.f43) (code:=bodyOf Try.f93) (fun _=>[]) (G:=fun c=>F.f43 (sy c) x0 x1 H Q) Try.func93 (by kernel_rfl) (fun c=>by kernel_rfl) (fun c=>by kernel_rfl)
theorem fold_f53 (x0 x1:Value) (H:AH) (Q:VK):F.f53 (sy W) x0 x1 H Q->W 94 [x0,x1] H Q :=
  mkF (kp:=kp.f53) (code:=bodyOf Try.f94) (fun _=>[]) (G:=fun c=>F.f53 (sy c) x0 x1 H Q) Try.func94 (by kernel_rfl) (fun c=>by kernel_rfl) (fun c=>by kernel_rfl)
theorem fold_f7 (x0:Value) (H:AH) (Q:VK):F.f7 (sy W) x0 H Q->W 74 [x0] H Q :=
  mkF (kp:=kp.f7) (code:=bodyOf Try.f74) (fun _=>[]) (G:=fun c=>F.f7 (sy c) x0 H Q) Try.func74 (by kernel_rfl) (fun c=>by kernel_rfl) (fun c=>by kernel_rfl)
theorem fold_f42 (x0:Value) (H:AH) (Q:VK):F.f42 (sy W) x0 H Q->W 109 [x0] H Q :=
  mkF (kp:=kp.f42) (code:=bodyOf Try.f109) (pl.f42 Q) (G:=fun c=>F.f42 (sy c) x0 H Q) Try.func109 (by kernel_rfl) (fun c=>by kernel_rfl) (fun c=>by kernel_rfl)
theorem fold_f45 (x0 x1:Value) (H:AH) (Q:VK):F.f45 (sy W) x0 x1 H Q->W 110 [x0,x1] H Q :=
  mkF (kp:=kp.f45) (code:=bodyOf Try.f110) (pl.f45 Q) (G:=fun c=>F.f45 (sy c) x0 x1 H Q) Try.func110 (by kernel_rfl) (fun c=>by kernel_rfl) (fun c=>by kernel_rfl)
theorem fold_f44 (x0 x1 x2:Value) (H:AH) (Q:VK):F.f44 (sy W) x0 x1 x2 H Q->W 118 [x0,x1,x2] H Q :=
  mkF (kp:=kp.f44) (code:=bodyOf Try.f118) (pl.f44 Q) (G:=fun c=>F.f44 (sy c) x0 x1 x2 H Q) Try.func118 (by kernel_rfl) (fun c=>by kernel_rfl) (fun c=>by kernel_rfl)
theorem fold:Go.AM.Fold (sy W) where
  mono:=CallW.mono
  f39:=fold_f39
  f38:=fold_f38
  f40:=fold_f40
  f29:=fold_f29
  f24:=fold_f24
  f50:=fold_f50
  f49:=fold_f49
  f15:=fold_f15
  f30:=fold_f30
  f20:=fold_f20
  f11:=fold_f11
  f22:=fold_f22
  f19:=fold_f19
  f18:=fold_f18
  f32:=fold_f32
  f31:=fold_f31
  f34:=fold_f34
  f21:=fold_f21
  f28:=fold_f28
  f0:=fold_f0
  f55:=fold_f55
  f48:=fold_f48
  f46:=fold_f46
  f16:=fold_f16
  f37:=fold_f37
  f23:=fold_f23
  f9:=fold_f9
  f17:=fold_f17
  f33:=fold_f33
  f13:=fold_f13
  f8:=fold_f8
  f25:=fold_f25
  f27:=fold_f27
  f26:=fold_f26
  f3:=fold_f3
  f1:=fold_f1
  f2:=fold_f2
  f52:=fold_f52
  f54:=fold_f54
  f51:=fold_f51
  f6:=fold_f6
  f41:=fold_f41
  f36:=fold_f36
  f35:=fold_f35
  f12:=fold_f12
  f14:=fold_f14
  f10:=fold_f10
  f4:=fold_f4
  f5:=fold_f5
  f43:=fold_f43
  f53:=fold_f53
  f7:=fold_f7
  f42:=fold_f42
  f45:=fold_f45
  f44:=fold_f44
  f47:=fun x0 x1 H Q h=>CallW.ext (.inl<|⟨rfl,x0,x1,rfl,h⟩)
end Go.Proofs.Ytdionecknmcdhaa
