/- THE FUNCTIONS, HELD AGAINST THE PROGRAM: written by program (gen2.py). -/
import Derived.Test.YtdionecknmcdhaaI2bd2F
import Derived.Test.YtdionecknmcdhaaProg
import Derived.KernelRfl
set_option linter.all false
set_option maxRecDepth 100000
set_option maxHeartbeats 4000000
namespace Go.Proofs.Ytdionecknmcdhaa
open Go.AM
attribute [local irreducible] evD obls
def fidL:List Nat:=[0,0,90,0,58,0,0,0,57,79,29,143,9,84,0,19,0,0,0,66,85,89,63,0,0,0,0,0,0,0,0,109,0,0,93,118,0,110,0,86,0,0,16,17,0,23,56,0,0,42,0,24,0,0,45,0,0,0,0,0,43,44,46,47,0,75,0,0,0,0,0,0,0,0,0,0,0,0,0,0,0,0,0,0,0,0,0,0,0,0,0,0,0,0,0,0,0,0,0,0,0,0,0,0,0,0,0,0,0,0,0,0,0,0,0,0,0,0,0,0,0,0,0,0,0,0,0,0,0,0,0,0,38,0,0,0,0,0,0,0,0,0,0,0,0,0,0,0,144,0,0,0,0,0,73,0,0,83,0,0,0,0,0,0,107,108,0,0,0,0,0,0,0,0,0,0,0,0,0,0,0,0,0,0,0,114,115,0,0,0,0,0,0,0,0,0,0,0,0,0,0,0,0,0,0,0,0,0,0,0,0,0,0,0,0,0,0,0,0,0,0,0,0,0,0,0,0,0,0,0,0,0,0,0,0,0,0,0,0,0,0,0,0,0,0,0,0,0,0,0,0,0,0,0,0,0,0,0,0,0,0,0,0,0,0,0,0,0,0,0,0,0,0,0,0,0,0,0,0,0,0,0,0,0,0,0,0,0,0,0,0,0,0,0,0,0,0,0,0,0,0,0,0,0,0,0,0,0,0,0,0,0,0,0,0,0,0,0,0,0,0,0,0,0,0,0,0,0,0,0,0,0,0,0,0,0,0,0,0,0,0,0,0,0,13,0,18,11,0,10,12,0,0,0,0,0,0,0,137,36,37,49,48,52,54,53,26,27,28,30,31,32,33,34,35,25,14,0,0,0,0,140,0,0,67,68,69,70,71,72,76,51,50,80,81,82,41,62,64,65,59,60,61,40,39,0,0,0,0,0,91,92,94,95,96,78,77,97,98,99,100,102,105,106,104,103,101,74,87,88,0,0,0,0,0,111,112,113,117,116,146,0,119,120,0,0,0,0,0,0,0,0,0,0,0,0,0,0,0,0,0,0,0,0,0,0,0,0,0,0,3,8,4,15,20,21,22,5,6,7,55]
def tidL:List Nat:=[9]
def gidL:List Nat:=[]
def sy (c:CallT):Sy:={ call:=c,fid:=fun n=>fidL.getD n 0,tid:=fun n=>tidL.getD n 0,gid:=fun n=>gidL.getD n 0 }
def kp.f27:Keep:={ keep:=fun n=>[[0,1],[2,3],[],[2,3],[2,3,5],[2,3,5,6],[2,3,5],[2,3,5,6],[2,3,5,6,20,21,22],[2,3,5,6,20,21,22],[2,3,5,6,8,20,21,22],[2,3,5],[2,3,5,6,20,21,22],[3,5,6]].getD n [],order:=fun n=>[[],[],[],[],[],[],[],[],[],[],[],[(0,0),(1,0),(3,0),(5,0),(2,3),(4,15),(6,63),(7,127),(8,255)]].getD n [] }
def pl.f27 (Q:VK) (c:CallT):Plan:=[
  (506,fun S T H=>F.f27_l1 (sy c) Q (T 2) (T 3) (T 5) (T 6) (T 20) (T 21) (T 22) H (S 0)),
  (63,fun S T H=>F.f27_j1 (sy c) Q (T 2) (T 3) (T 5) (T 6) H)]

def kp.f26:Keep:={ keep:=fun n=>[[],[],[1],[2]].getD n [],order:=fun n=>[].getD n [] }

def kp.f23:Keep:={ keep:=fun n=>[[0],[1,2],[1,2,3],[1,2,3,4],[1,2,3,4,38,39,40],[1,2,3,4,38,39,40],[1,2,3,4,5,6,38,39,40],[1,2,3,4,6,38,39,40],[1,2,3,4,6,7,38,39,40],[1,2,3,4,7,38,39,40,65,66,67],[1,2,3,4,7,38,39,40,65,66,67],[1,2,3,4,7,8,9,38,39,40,65,66,67],[1,2,3,4,7,9,38,39,40,65,66,67],[1,2,3,4,7,38,39,40,65,66,67],[1,2,3,4,7,38,39,40],[1,2,3,4,38,39,40],[1,2,4],[1,2,4,10],[1,2,4,10,11],[1,2,4,10,11,92,93,94],[1,2,4,10,11,92,93,94],[1,2,4,10,11,12,13,92,93,94],[1,2,4,10,11,12,14,92,93,94],[1,2,4,10,11,14,15,92,93,94],[1,2,4,10,11,14,15,92,93,94],[1,2,4,10,11,14,15,92,93,94],[1,2,4,10,11,92,93,94],[1,2,4,11],[1,2,4,11,16],[2,4,11,16,131,132,133],[2,4,11,16,131,132,133],[2,4,11,16,17,18,131,132,133],[2,4,11,16,17,19,131,132,133],[2,4,11,16,19,20,131,132,133],[2,4,11,16,19,20,131,132,133],[2,4,11,16,19,20,131,132,133],[2,4,11,16,131,132,133],[2,4]].getD n [],order:=fun n=>[[],[],[(0,0),(1,0),(2,2),(3,6),(4,15),(5,31),(6,0),(7,64),(8,0),(9,256),(11,0),(12,2048),(13,6144),(15,0),(10,960),(14,16383),(16,65535)],[],[],[],[],[(0,0),(1,0),(2,2),(3,6),(4,0),(5,16),(6,62),(7,127),(8,255),(9,511),(10,1023),(11,0),(12,2048),(13,0),(14,8192),(17,0),(15,30720),(16,65535),(18,262143)],[],[],[],[],[(0,0),(1,1),(2,0),(3,4),(4,12),(5,31),(6,63),(7,127)]].getD n [] }
def pl.f23 (Q:VK) (c:CallT):Plan:=[
  (4090,fun S T H=>F.f23_l2 (sy c) Q (T 2) (T 4) (T 11) (T 16) (T 131) (T 132) (T 133) H (S 0)),
  (1018,fun S T H=>F.f23_l1 (sy c) Q (T 1) (T 2) (T 4) (T 10) (T 11) (T 92) (T 93) (T 94) H (S 0)),
  (31,fun S T H=>F.f23_j1 (sy c) Q (T 1) (T 2) (T 4) H),
  (250682,fun S T H=>F.f23_l4 (sy c) Q (S 1) (T 1) (T 2) (T 3) (T 4) (T 7) (T 38) (T 39) (T 40) (T 65) (T 66) (T 67) H (S 0)),
  (122,fun S T H=>F.f23_l3 (sy c) Q (T 1) (T 2) (T 3) (T 4) (T 38) (T 39) (T 40) H (S 0))]

def kp.f4:Keep:={ keep:=fun n=>[[0],[1,2],[1,2,3],[1,2,3,4],[2,3,4,14,15,16],[2,3,4,14,15,16],[2,3,4,6,14,15,16],[2,3,4,14,15,16],[2,3,4],[2,3,32],[2,3,32],[2,3,7,8,32],[2,3,7,8,32],[2,3],[2,3]].getD n [],order:=fun n=>[[],[],[],[],[],[],[(0,0),(1,0),(2,2),(3,0),(4,0),(5,16),(6,56),(7,0),(8,128),(9,504),(10,1023)],[],[],[],[],[],[(0,0),(1,1),(2,0),(3,0),(4,8),(5,28),(6,60),(7,127),(8,255),(9,511)]].getD n [] }
def pl.f4 (Q:VK) (c:CallT):Plan:=[
  (250,fun S T H=>F.f4_l2 (sy c) Q (T 2) (T 3) (T 32) H (S 0)),
  (122,fun S T H=>F.f4_l1 (sy c) Q (T 2) (T 3) (T 4) (T 14) (T 15) (T 16) H (S 0))]

def kp.f7:Keep:={ keep:=fun n=>[[0,1],[2,3],[],[2,3],[2,3,5,6],[2],[2,3,5],[2,3,31,32,33],[2,3,31,32,33],[2,3,8,31,32,33],[2,3,8,31,32,33,38,39,40],[2,3,8,31,32,33,38,39,40],[2,3,8,10,31,32,33,38,39,40],[2,3,8,31,32,33,38,39,40],[8],[2,3,31,32,33],[2]].getD n [],order:=fun n=>[].getD n [] }
def pl.f7 (Q:VK) (c:CallT):Plan:=[
  (455882,fun S T H=>F.f7_l2 (sy c) Q (S 1) (T 2) (T 3) (T 8) (T 31) (T 32) (T 33) (T 38) (T 39) (T 40) H (S 0)),
  (890,fun S T H=>F.f7_l1 (sy c) Q (T 2) (T 3) (T 31) (T 32) (T 33) H (S 0))]

def kp.f19:Keep:={ keep:=fun n=>[[0,1],[2,3],[],[2,3],[2,3,5,6],[3,5,6,15,16,17],[3,5,6,15,16,17],[3,8,15,16,17],[3,5,6,8,15,16,17],[3,5,6,8,15,16,17],[3,5,6,8,15,16,17],[3,5,6,15,16,17],[5]].getD n [],order:=fun n=>[].getD n [] }
def pl.f19 (Q:VK) (c:CallT):Plan:=[
  (122,fun S T H=>F.f19_l1 (sy c) Q (T 3) (T 5) (T 6) (T 15) (T 16) (T 17) H (S 0))]

def kp.f28:Keep:={ keep:=fun n=>[[],[]].getD n [],order:=fun n=>[].getD n [] }

def kp.f20:Keep:={ keep:=fun n=>[[0,1],[0,1],[1,6],[],[1,6],[1],[6],[],[]].getD n [],order:=fun n=>[].getD n [] }

def kp.f21:Keep:={ keep:=fun n=>[[0],[1,2],[1,2,3],[1,2,3,4],[1,2,3,4],[2,4],[2,4]].getD n [],order:=fun n=>[[],[],[(0,0),(1,1),(2,3),(3,7),(4,0),(5,16),(6,48),(7,112),(8,0),(9,0),(10,512),(11,1536),(12,0),(13,4096),(14,15872),(15,32512),(16,65280),(17,131071),(18,0),(19,524287)]].getD n [] }

def kp.f24:Keep:={ keep:=fun n=>[[0,1,2,3],[0,1,2,3],[1,3],[0,1,2,3]].getD n [],order:=fun n=>[[],[],[],[(0,0),(1,1),(2,0),(3,7),(4,15),(5,0),(6,32),(7,127),(8,0),(9,511),(10,1023)]].getD n [] }

def kp.f22:Keep:={ keep:=fun n=>[[],[]].getD n [],order:=fun n=>[].getD n [] }

def kp.f38:Keep:={ keep:=fun n=>[[0,1]].getD n [],order:=fun n=>[].getD n [] }

def kp.f5:Keep:={ keep:=fun n=>[[0,1],[2,3]].getD n [],order:=fun n=>[[],[(0,0),(1,1),(3,0),(4,8),(2,3),(5,31),(6,63),(7,127)]].getD n [] }

def kp.f10:Keep:={ keep:=fun n=>[[0],[0],[0,3],[3,7,8,9],[3,7,8,9],[3,5,7,8,9],[3,6,7,8,9],[3,6,7,8,9],[3,6,7,8,9],[3,7,8,9],[3]].getD n [],order:=fun n=>[[],[],[],[],[],[(0,0),(1,1),(3,0),(4,8),(6,0),(2,3),(5,31),(7,127)]].getD n [] }
def pl.f10 (Q:VK) (c:CallT):Plan:=[
  (58,fun S T H=>F.f10_l1 (sy c) Q (T 3) (T 7) (T 8) (T 9) H (S 0))]

def kp.f37:Keep:={ keep:=fun n=>[[0,1],[0,1,4]].getD n [],order:=fun n=>[].getD n [] }

def kp.f6:Keep:={ keep:=fun n=>[[0,1],[2,3]].getD n [],order:=fun n=>[].getD n [] }

def kp.f33:Keep:={ keep:=fun n=>[[0,1,2],[0,1,2],[0,1,2,8],[0,1,2,8,9,10],[0,1,2,8,9,10],[0,1,2,8,9,10,11],[0,1,2,8,10,11],[0,1,2,8,9,11],[0,1,2,8,9]].getD n [],order:=fun n=>[].getD n [] }
def pl.f33 (Q:VK) (c:CallT):Plan:=[
  (60,fun S T H=>F.f33_l1 (sy c) Q (T 0) (T 1) (T 2) (T 8) (T 9) (T 10) H (S 0))]

def kp.f8:Keep:={ keep:=fun n=>[[0,1],[1,2]].getD n [],order:=fun n=>[].getD n [] }

def kp.f17:Keep:={ keep:=fun n=>[[0,1],[2,3],[],[2,3],[2,5],[2,5,20],[2,5],[2,5,20],[2,5],[2,5,20],[2,5],[2,5,20],[2,5],[2,5,20],[2,5],[2,5,20],[2,5],[2,5,20],[2,5],[]].getD n [],order:=fun n=>[].getD n [] }

def kp.f18:Keep:={ keep:=fun n=>[[0,1],[2,3],[],[2,3],[3,13,14,15],[3,13,14,15],[3,6,13,14,15],[],[3,13,14,15],[]].getD n [],order:=fun n=>[].getD n [] }
def pl.f18 (Q:VK) (c:CallT):Plan:=[
  (58,fun S T H=>F.f18_l1 (sy c) Q (T 3) (T 13) (T 14) (T 15) H (S 0))]

def kp.f32:Keep:={ keep:=fun n=>[[0,1],[0,1],[1],[0]].getD n [],order:=fun n=>[].getD n [] }

def kp.f31:Keep:={ keep:=fun n=>[[0],[0]].getD n [],order:=fun n=>[].getD n [] }

def kp.f25:Keep:={ keep:=fun n=>[[],[]].getD n [],order:=fun n=>[].getD n [] }

def kp.f49:Keep:={ keep:=fun n=>[[0,1,2],[0,1,2,6],[0,1,2,6,7,8],[0,1,2,6,7,8],[0,1,2,6,8],[0,1,2,6,7,8],[0,1,2,6,7],[0,1,2,6],[0,1,2,6],[0,1,2,6,7,8],[0,1,2,6,7,8],[0,1,2,6,8],[0,1,2,6,7,8],[0,1,2,6,7],[0,1,2,6,7,9],[0,1,2,6,7,9],[0,1,2,6]].getD n [],order:=fun n=>[].getD n [] }
def pl.f49 (Q:VK) (c:CallT):Plan:=[
  (3988,fun S T H=>F.f49_l3 (sy c) Q (S 1) (T 0) (T 1) (T 2) (T 6) (T 7) (T 8) H (S 0)),
  (62,fun S T H=>F.f49_l2 (sy c) Q (T 0) (T 1) (T 2) (T 6) H (S 0)),
  (28,fun S T H=>F.f49_l1 (sy c) Q (T 0) (T 1) (T 2) (T 6) (T 7) (T 8) H (S 0))]

def kp.f12:Keep:={ keep:=fun n=>[[0],[0],[0,3]].getD n [],order:=fun n=>[[],[],[(0,0),(1,0),(2,2),(3,7),(4,15)]].getD n [] }

def kp.f0:Keep:={ keep:=fun n=>[[0,1],[0,1],[0,1,5],[0,1,5,6],[6],[],[],[0,1,6],[],[0,1],[],[0,1],[],[]].getD n [],order:=fun n=>[].getD n [] }

def kp.f13:Keep:={ keep:=fun n=>[[0],[0],[0,3],[3,6,7,8],[3,6,7,8],[3,5,6,7,8],[3,5,6,7,8],[3,6,7,8],[3]].getD n [],order:=fun n=>[].getD n [] }
def pl.f13 (Q:VK) (c:CallT):Plan:=[
  (58,fun S T H=>F.f13_l1 (sy c) Q (T 3) (T 6) (T 7) (T 8) H (S 0))]

def kp.f11:Keep:={ keep:=fun n=>[[0],[0],[0,7,8,9],[0,7,8,9],[0,3,4,7,8,9],[0,3,4,7,8,9],[],[0,3,4,7,8,9],[0,4,7,8,9,33,34,35],[0,4,7,8,9,33,34,35],[0,4,6,7,8,9,33,34,35],[],[0,4,7,8,9,33,34,35],[0,7,8,9],[]].getD n [],order:=fun n=>[].getD n [] }
def pl.f11 (Q:VK) (c:CallT):Plan:=[
  (13518,fun S T H=>F.f11_l2 (sy c) Q (S 1) (T 0) (T 4) (T 7) (T 8) (T 9) (T 33) (T 34) (T 35) H (S 0)),
  (13513,fun S T H=>F.f11_j1 (sy c) Q (S 0) (T 0) (T 3) (T 4) (T 7) (T 8) (T 9) (T 14) H),
  (26,fun S T H=>F.f11_l1 (sy c) Q (T 0) (T 7) (T 8) (T 9) H (S 0))]

def kp.f14:Keep:={ keep:=fun n=>[[0],[0],[0]].getD n [],order:=fun n=>[].getD n [] }

def kp.f47:Keep:={ keep:=fun n=>[[0,1,2,3,4],[0,1,2,3,4,10],[0,1,2,3,4,10,11],[0,1,2,3,4,10,11,12],[0,1,2,4],[0,1,2,3,4,10,11,12],[0,1,2,4],[0,1,2,3,4,10,11,12],[0,1,2,3,4,10,11,12],[0,1,2,3,4,10,11,12],[0,1,2,3,4,10,11,12],[0,1,2,3,4,10,11,12,13,14],[0,1,2,3,4,10,11,12,13],[0,1,2,3,4,10,11,12,13],[0,1,2,3,4,10,11,12,13],[0,1,2,3,4,10,11,12,13,14],[0,1,2,3,4,10,11,12,13],[0,1,2,3,4,10,11,12,13],[0,1,2,3,4,10,11,13],[0,2,3,4,10,11,15],[0,1,2,3,4,12,13],[0,1,2,3,4,12,16,17],[0,1,2,3,4,11,12,16],[0,1,2,3,4,11,12,16,18,19],[0,1,2,3,4,11,16,18,19,20],[0,1,2,3,4,11,16,18,20],[0,1,2,3,4,10,11,16],[0,2,3,4,10,11,16],[0,1,2,3,4,11,16,19,20],[0,1,2,3,4,10,11,16],[0,1,3,4,10,11,16]].getD n [],order:=fun n=>[[],[],[],[],[],[],[],[],[],[],[],[],[],[],[],[],[],[(0,0),(1,1),(2,3),(3,7),(4,7),(5,7),(6,39),(7,119),(8,247),(9,7),(10,7),(11,1543),(12,3591),(13,8191),(14,16383),(15,32767),(16,65535)]].getD n [] }
def pl.f47 (Q:VK) (c:CallT):Plan:=[
  (7295,fun S T H=>F.f47_j3 (sy c) Q (S 0) (T 0) (T 1) (T 2) (T 3) (T 4) (T 10) (T 11) (T 12) (T 13) H),
  (3647,fun S T H=>F.f47_j2 (sy c) Q (S 0) (T 0) (T 1) (T 2) (T 3) (T 4) (T 10) (T 11) (T 12) (T 13) (T 14) H),
  (911,fun S T H=>F.f47_j1 (sy c) Q (S 0) (T 0) (T 1) (T 2) (T 3) (T 4) (T 10) (T 11) (T 12) H),
  (14,fun S T H=>F.f47_l1 (sy c) Q (T 0) (T 1) (T 2) (T 3) (T 4) (T 10) (T 11) H (S 0))]

def kp.f1:Keep:={ keep:=fun n=>[[0,1],[0,1],[0,1,5],[0,1,5,6],[6],[],[],[0,1,6],[],[0,1],[],[0,1],[],[]].getD n [],order:=fun n=>[].getD n [] }

def kp.f30:Keep:={ keep:=fun n=>[[0],[0],[4],[],[4],[],[4],[],[]].getD n [],order:=fun n=>[].getD n [] }

def kp.f43:Keep:={ keep:=fun n=>[[0,1,2,3],[0,1,2,3,8],[0,1,2,3,8],[0,1,2,3,8],[0,1,2,3,8,9],[0,1,2,3,8,9],[0,1,2,3,8,9]].getD n [],order:=fun n=>[[],[],[],[],[(0,0),(1,0),(2,3),(3,7),(4,15),(5,15),(6,15),(7,111),(8,239),(9,15),(10,15),(11,1039),(12,3599),(13,7695),(14,16383),(15,32767),(16,65535)],[],[(0,0),(1,0),(2,0),(3,0),(4,8),(5,0),(6,0),(7,64),(8,224),(9,480),(10,0),(11,0),(12,3072),(13,7168),(14,16355),(15,32739),(16,65535),(17,131071)]].getD n [] }
def pl.f43 (Q:VK) (c:CallT):Plan:=[
  (402,fun S T H=>F.f43_l2 (sy c) Q (S 1) (T 0) (T 1) (T 2) (T 3) (T 8) (T 9) H (S 0)),
  (6,fun S T H=>F.f43_l1 (sy c) Q (T 0) (T 1) (T 2) (T 3) (T 8) H (S 0))]

def kp.f29:Keep:={ keep:=fun n=>[[0],[0],[3],[3,6],[3,6],[3,6],[3],[]].getD n [],order:=fun n=>[].getD n [] }
def pl.f29 (Q:VK) (c:CallT):Plan:=[
  (109,fun S T H=>F.f29_j1 (sy c) Q (T 3) (T 7) H)]

def kp.f36:Keep:={ keep:=fun n=>[[0,1],[0,1],[0,1,7,8],[0,1,7,8],[0,1,5,7,8],[5],[0,1,7,8],[]].getD n [],order:=fun n=>[].getD n [] }
def pl.f36 (Q:VK) (c:CallT):Plan:=[
  (26,fun S T H=>F.f36_l1 (sy c) Q (T 0) (T 1) (T 7) (T 8) H (S 0))]

def kp.f2:Keep:={ keep:=fun n=>[[0],[0]].getD n [],order:=fun n=>[].getD n [] }

def kp.f9:Keep:={ keep:=fun n=>[[0],[1],[],[1],[1,12],[1],[1,12],[1],[]].getD n [],order:=fun n=>[].getD n [] }

def kp.f34:Keep:={ keep:=fun n=>[[0,1],[0,3]].getD n [],order:=fun n=>[].getD n [] }

def kp.f16:Keep:={ keep:=fun n=>[[0],[0,2],[0],[0],[0,2],[0,2],[0,2],[0,2],[0,2],[0,2],[0,2]].getD n [],order:=fun n=>[].getD n [] }
def pl.f16 (Q:VK) (c:CallT):Plan:=[
  (31,fun S T H=>F.f16_j3 (sy c) Q (T 0) (T 2) H),
  (15,fun S T H=>F.f16_j2 (sy c) Q (T 0) (T 2) H),
  (7,fun S T H=>F.f16_j1 (sy c) Q (T 0) (T 2) H)]

def kp.f42:Keep:={ keep:=fun n=>[[0,1,2,3],[0,1,2,3,8],[0,1,2,3,8],[0,1,2,3,8],[0,1,2,3,8,9],[0,1,2,3,8,9],[0,1,2,3,8,9]].getD n [],order:=fun n=>[[],[],[],[],[(0,0),(1,0),(2,3),(3,7),(4,15),(5,15),(6,15),(7,111),(8,239),(9,15),(10,15),(11,1039),(12,3599),(13,7695),(14,16383),(15,32767),(16,65535)],[],[(0,0),(1,0),(2,0),(3,0),(4,8),(5,0),(6,0),(7,64),(8,224),(9,480),(10,0),(11,0),(12,3072),(13,7168),(14,16355),(15,32739),(16,65535),(17,131071)]].getD n [] }
def pl.f42 (Q:VK) (c:CallT):Plan:=[
  (402,fun S T H=>F.f42_l2 (sy c) Q (S 1) (T 0) (T 1) (T 2) (T 3) (T 8) (T 9) H (S 0)),
  (6,fun S T H=>F.f42_l1 (sy c) Q (T 0) (T 1) (T 2) (T 3) (T 8) H (S 0))]

def kp.f3:Keep:={ keep:=fun n=>[[0],[0]].getD n [],order:=fun n=>[].getD n [] }

def kp.f35:Keep:={ keep:=fun n=>[[0,1],[0,3],[0,3,7,8],[0,3,7,8],[0,3,5,7,8],[5],[0,3,7,8],[]].getD n [],order:=fun n=>[[],[],[],[],[(0,0),(1,0),(2,0),(3,6),(4,14),(5,31)]].getD n [] }
def pl.f35 (Q:VK) (c:CallT):Plan:=[
  (26,fun S T H=>F.f35_l1 (sy c) Q (T 0) (T 3) (T 7) (T 8) H (S 0))]

def kpL:List (Nat×Keep):=[(7,kp.f27),(15,kp.f26),(17,kp.f23),(18,kp.f4),(14,kp.f7),(24,kp.f19),(43,kp.f28),(44,kp.f20),(45,kp.f21),(46,kp.f24),(47,kp.f22),(48,kp.f38),(49,kp.f5),(52,kp.f10),(53,kp.f37),(54,kp.f6),(39,kp.f33),(40,kp.f8),(42,kp.f17),(56,kp.f18),(57,kp.f32),(9,kp.f31),(75,kp.f25),(76,kp.f49),(51,kp.f12),(50,kp.f0),(80,kp.f13),(81,kp.f11),(83,kp.f14),(82,kp.f47),(41,kp.f1),(84,kp.f30),(95,kp.f43),(79,kp.f29),(78,kp.f36),(77,kp.f2),(97,kp.f9),(98,kp.f34),(108,kp.f16),(99,kp.f42),(74,kp.f3),(112,kp.f35)]
def kps (f:FuncId):Keep:=((kpL.find? (fun p=>p.1 == f)).map (fun p=>p.2)).getD { keep:=fun _=>[],order:=fun _=>[] }
def ext:CallT:=fun f args H K=>False
theorem extOk:CallOk Try.prog ext:=by
  rintro f args H K (h)
  · exact h.elim
abbrev W:CallT:=CallW Try.prog kps ext
theorem mkF {i:Nat} {fn:Func} {kp:Keep} {code:Code} {args:List Value} {H:AH} {Q:VK} (pl:CallT->Plan) {G:CallT->Prop} (hfn:Try.prog.funcs[i]? = some fn)
    (h1 : (fn.body.isNone, (fn.name == "runtime.NumGoroutine"), codeOk Try.prog fn.ntmps (bodyOf fn), fn.body, kps i) = (false, false, true, some code, kp))
    (h2:∀ c,(obls Try.prog c kp (pl c) code 1 (fun _=>bodyK Try.prog fn.results.toList Q)).map (·.1)=(obls Try.prog c kp (pl c) code 1 (fun _=>bodyK Try.prog fn.results.toList Q)).map (·.2))
    (h3:∀ c,G c=evD Try.prog c kp (pl c) code nostk 1 (argEnv args) H (bodyK Try.prog fn.results.toList Q)) (h:G W):W i args H Q:=by
  simp only [Prod.mk.injEq] at h1
  obtain ⟨a,b,c,d,e⟩:=h1
  refine CallW.fold ⟨hfn,a,b,c⟩ ?_
  rw [e]
  exact evBody_of (pl:=pl W) fn args H Q code d (h2 W) (h3 W) h
theorem fold_f27 (x0 x1:Value) (H:AH) (Q:VK):F.f27 (sy W) x0 x1 H Q->W 7 [x0,x1] H Q :=
  mkF (kp:=kp.f27) (code:=bodyOf Try.f7) (pl.f27 Q) (G:=fun c=>F.f27 (sy c) x0 x1 H Q) Try.func7 (by kernel_rfl) (fun c=>by kernel_rfl) (fun c=>by kernel_rfl)
theorem fold_f26 (H:AH) (Q:VK):F.f26 (sy W) H Q->W 15 [] H Q :=
  mkF (kp:=kp.f26) (code:=bodyOf Try.f15) (fun _=>[]) (G:=fun c=>F.f26 (sy c) H Q) Try.func15 (by kernel_rfl) (fun c=>by kernel_rfl) (fun c=>by kernel_rfl)
theorem fold_f23 (x0:Value) (H:AH) (Q:VK):F.f23 (sy W) x0 H Q->W 17 [x0] H Q :=
  mkF (kp:=kp.f23) (code:=bodyOf Try.f17) (pl.f23 Q) (G:=fun c=>F.f23 (sy c) x0 H Q) Try.func17 (by kernel_rfl) (fun c=>by kernel_rfl) (fun c=>by kernel_rfl)
theorem fold_f4 (x0:Value) (H:AH) (Q:VK):F.f4 (sy W) x0 H Q->W 18 [x0] H Q :=
  mkF (kp:=kp.f4) (code:=bodyOf Try.f18) (pl.f4 Q) (G:=fun c=>F.f4 (sy c) x0 H Q) Try.func18 (by kernel_rfl) (fun c=>by kernel_rfl) (fun c=>by kernel_rfl)
theorem fold_f7 (x0 x1:Value) (H:AH) (Q:VK):F.f7 (sy W) x0 x1 H Q->W 14 [x0,x1] H Q :=
  mkF (kp:=kp.f7) (code:=bodyOf Try.f14) (pl.f7 Q) (G:=fun c=>F.f7 (sy c) x0 x1 H Q) Try.func14 (by kernel_rfl) (fun c=>by kernel_rfl) (fun c=>by kernel_rfl)
theorem fold_f19 (x0 x1:Value) (H:AH) (Q:VK):F.f19 (sy W) x0 x1 H Q->W 24 [x0,x1] H Q :=
  mkF (kp:=kp.f19) (code:=bodyOf Try.f24) (pl.f19 Q) (G:=fun c=>F.f19 (sy c) x0 x1 H Q) Try.func24 (by kernel_rfl) (fun c=>by kernel_rfl) (fun c=>by kernel_rfl)
theorem fold_f28 (H:AH) (Q:VK):F.f28 (sy W) H Q->W 43 [] H Q :=
  mkF (kp:=kp.f28) (code:=bodyOf Try.f43) (fun _=>[]) (G:=fun c=>F.f28 (sy c) H Q) Try.func43 (by kernel_rfl) (fun c=>by kernel_rfl) (fun c=>by kernel_rfl)
theorem fold_f20 (x0 x1:Value) (H:AH) (Q:VK):F.f20 (sy W) x0 x1 H Q->W 44 [x0,x1] H Q :=
  mkF (kp:=kp.f20) (code:=bodyOf Try.f44) (fun _=>[]) (G:=fun c=>F.f20 (sy c) x0 x1 H Q) Try.func44 (by kernel_rfl) (fun c=>by kernel_rfl) (fun c=>by kernel_rfl)
theorem fold_f21 (x0:Value) (H:AH) (Q:VK):F.f21 (sy W) x0 H Q->W 45 [x0] H Q :=
  mkF (kp:=kp.f21) (code:=bodyOf Try.f45) (fun _=>[]) (G:=fun c=>F.f21 (sy c) x0 H Q) Try.func45 (by kernel_rfl) (fun c=>by kernel_rfl) (fun c=>by kernel_rfl)
theorem fold_f24 (x0 x1 x2 x3:Value) (H:AH) (Q:VK):F.f24 (sy W) x0 x1 x2 x3 H Q->W 46 [x0,x1,x2,x3] H Q :=
  mkF (kp:=kp.f24) (code:=bodyOf Try.f46) (fun _=>[]) (G:=fun c=>F.f24 (sy c) x0 x1 x2 x3 H Q) Try.func46 (by kernel_rfl) (fun c=>by kernel_rfl) (fun c=>by kernel_rfl)
theorem fold_f22 (H:AH) (Q:VK):F.f22 (sy W) H Q->W 47 [] H Q :=
  mkF (kp:=kp.f22) (code:=bodyOf Try.f47) (fun _=>[]) (G:=fun c=>F.f22 (sy c) H Q) Try.func47 (by kernel_rfl) (fun c=>by kernel_rfl) (fun c=>by kernel_rfl)
theorem fold_f38 (x0 x1:Value) (H:AH) (Q:VK):F.f38 (sy W) x0 x1 H Q->W 48 [x0,x1] H Q :=
  mkF (kp:=kp.f38) (code:=bodyOf Try.f48) (fun _=>[]) (G:=fun c=>F.f38 (sy c) x0 x1 H Q) Try.func48 (by kernel_rfl) (fun c=>by kernel_rfl) (fun c=>by kernel_rfl)
theorem fold_f5 (x0 x1:Value) (H:AH) (Q:VK):F.f5 (sy W) x0 x1 H Q->W 49 [x0,x1] H Q :=
  mkF (kp:=kp.f5) (code:=bodyOf Try.f49) (fun _=>[]) (G:=fun c=>F.f5 (sy c) x0 x1 H Q) Try.func49 (by kernel_rfl) (fun c=>by kernel_rfl) (fun c=>by kernel_rfl)
theorem fold_f10 (x0:Value) (H:AH) (Q:VK):F.f10 (sy W) x0 H Q->W 52 [x0] H Q :=
  mkF (kp:=kp.f10) (code:=bodyOf Try.f52) (pl.f10 Q) (G:=fun c=>F.f10 (sy c) x0 H Q) Try.func52 (by kernel_rfl) (fun c=>by kernel_rfl) (fun c=>by kernel_rfl)
theorem fold_f37 (x0 x1:Value) (H:AH) (Q:VK):F.f37 (sy W) x0 x1 H Q->W 53 [x0,x1] H Q :=
  mkF (kp:=kp.f37) (code:=bodyOf Try.f53) (fun _=>[]) (G:=fun c=>F.f37 (sy c) x0 x1 H Q) Try.func53 (by kernel_rfl) (fun c=>by kernel_rfl) (fun c=>by kernel_rfl)
theorem fold_f6 (x0 x1:Value) (H:AH) (Q:VK):F.f6 (sy W) x0 x1 H Q->W 54 [x0,x1] H Q :=
  mkF (kp:=kp.f6) (code:=bodyOf Try.f54) (fun _=>[]) (G:=fun c=>F.f6 (sy c) x0 x1 H Q) Try.func54 (by kernel_rfl) (fun c=>by kernel_rfl) (fun c=>by kernel_rfl)
theorem fold_f33 (x0 x1 x2:Value) (H:AH) (Q:VK):F.f33 (sy W) x0 x1 x2 H Q->W 39 [x0,x1,x2] H Q :=
  mkF (kp:=kp.f33) (code:=bodyOf Try.f39) (pl.f33 Q) (G:=fun c=>F.f33 (sy c) x0 x1 x2 H Q) Try.func39 (by kernel_rfl) (fun c=>by kernel_rfl) (fun c=>by kernel_rfl)
theorem fold_f8 (x0 x1:Value) (H:AH) (Q:VK):F.f8 (sy W) x0 x1 H Q->W 40 [x0,x1] H Q :=
  mkF (kp:=kp.f8) (code:=bodyOf Try.f40) (fun _=>[]) (G:=fun c=>F.f8 (sy c) x0 x1 H Q) Try.func40 (by kernel_rfl) (fun c=>by kernel_rfl) (fun c=>by kernel_rfl)
theorem fold_f17 (x0 x1:Value) (H:AH) (Q:VK):F.f17 (sy W) x0 x1 H Q->W 42 [x0,x1] H Q :=
  mkF (kp:=kp.f17) (code:=bodyOf Try.f42) (fun _=>[]) (G:=fun c=>F.f17 (sy c) x0 x1 H Q) Try.func42 (by kernel_rfl) (fun c=>by kernel_rfl) (fun c=>by kernel_rfl)
theorem fold_f18 (x0 x1:Value) (H:AH) (Q:VK):F.f18 (sy W) x0 x1 H Q->W 56 [x0,x1] H Q :=
  mkF (kp:=kp.f18) (code:=bodyOf Try.f56) (pl.f18 Q) (G:=fun c=>F.f18 (sy c) x0 x1 H Q) Try.func56 (by kernel_rfl) (fun c=>by kernel_rfl) (fun c=>by kernel_rfl)
theorem fold_f32 (x0 x1:Value) (H:AH) (Q:VK):F.f32 (sy W) x0 x1 H Q->W 57 [x0,x1] H Q :=
  mkF (kp:=kp.f32) (code:=bodyOf Try.f57) (fun _=>[]) (G:=fun c=>F.f32 (sy c) x0 x1 H Q) Try.func57 (by kernel_rfl) (fun c=>by kernel_rfl) (fun c=>by kernel_rfl)
theorem fold_f31 (x0:Value) (H:AH) (Q:VK):F.f31 (sy W) x0 H Q->W 9 [x0] H Q :=
  mkF (kp:=kp.f31) (code:=bodyOf Try.f9) (fun _=>[]) (G:=fun c=>F.f31 (sy c) x0 H Q) Try.func9 (by kernel_rfl) (fun c=>by kernel_rfl) (fun c=>by kernel_rfl)
theorem fold_f25 (H:AH) (Q:VK):F.f25 (sy W) H Q->W 75 [] H Q :=
  mkF (kp:=kp.f25) (code:=bodyOf Try.f75) (fun _=>[]) (G:=fun c=>F.f25 (sy c) H Q) Try.func75 (by kernel_rfl) (fun c=>by kernel_rfl) (fun c=>by kernel_rfl)
theorem fold_f49 (x0 x1 x2:Value) (H:AH) (Q:VK):F.f49 (sy W) x0 x1 x2 H Q->W 76 [x0,x1,x2] H Q :=
  mkF (kp:=kp.f49) (code:=bodyOf Try.f76) (pl.f49 Q) (G:=fun c=>F.f49 (sy c) x0 x1 x2 H Q) Try.func76 (by kernel_rfl) (fun c=>by kernel_rfl) (fun c=>by kernel_rfl)
theorem fold_f12 (x0:Value) (H:AH) (Q:VK):F.f12 (sy W) x0 H Q->W 51 [x0] H Q :=
  mkF (kp:=kp.f12) (code:=bodyOf Try.f51) (fun _=>[]) (G:=fun c=>F.f12 (sy c) x0 H Q) Try.func51 (by kernel_rfl) (fun c=>by kernel_rfl) (fun c=>by kernel_rfl)
theorem fold_f0 (x0 x1:Value) (H:AH) (Q:VK):F.f0 (sy W) x0 x1 H Q->W 50 [x0,x1] H Q :=
  mkF (kp:=kp.f0) (code:=bodyOf Try.f50) (fun _=>[]) (G:=fun c=>F.f0 (sy c) x0 x1 H Q) Try.func50 (by kernel_rfl) (fun c=>by kernel_rfl) (fun c=>by kernel_rfl)
theorem fold_f13 (x0:Value) (H:AH) (Q:VK):F.f13 (sy W) x0 H Q->W 80 [x0] H Q :=
  mkF (kp:=kp.f13) (code:=bodyOf Try.f80) (pl.f13 Q) (G:=fun c=>F.f13 (sy c) x0 H Q) Try.func80 (by kernel_rfl) (fun c=>by kernel_rfl) (fun c=>by kernel_rfl)
theorem fold_f11 (x0:Value) (H:AH) (Q:VK):F.f11 (sy W) x0 H Q->W 81 [x0] H Q :=
  mkF (kp:=kp.f11) (code:=bodyOf Try.f81) (pl.f11 Q) (G:=fun c=>F.f11 (sy c) x0 H Q) Try.func81 (by kernel_rfl) (fun c=>by kernel_rfl) (fun c=>by kernel_rfl)
theorem fold_f14 (x0:Value) (H:AH) (Q:VK):F.f14 (sy W) x0 H Q->W 83 [x0] H Q :=
  mkF (kp:=kp.f14) (code:=bodyOf Try.f83) (fun _=>[]) (G:=fun c=>F.f14 (sy c) x0 H Q) Try.func83 (by kernel_rfl) (fun c=>by kernel_rfl) (fun c=>by kernel_rfl)
theorem fold_f47 (x0 x1 x2 x3 x4:Value) (H:AH) (Q:VK):F.f47 (sy W) x0 x1 x2 x3 x4 H Q->W 82 [x0,x1,x2,x3,x4] H Q :=
  mkF (kp:=kp.f47) (code:=bodyOf Try.f82) (pl.f47 Q) (G:=fun c=>F.f47 (sy c) x0 x1 x2 x3 x4 H Q) Try.func82 (by kernel_rfl) (fun c=>by kernel_rfl) (fun c=>by kernel_rfl)
theorem fold_f1 (x0 x1:Value) (H:AH) (Q:VK):F.f1 (sy W) x0 x1 H Q->W 41 [x0,x1] H Q :=
  mkF (kp:=kp.f1) (code:=bodyOf Try.f41) (fun _=>[]) (G:=fun c=>F.f1 (sy c) x0 x1 H Q) Try.func41 (by kernel_rfl) (fun c=>by kernel_rfl) (fun c=>by kernel_rfl)
theorem fold_f30 (x0:Value) (H:AH) (Q:VK):F.f30 (sy W) x0 H Q->W 84 [x0] H Q :=
  mkF (kp:=kp.f30) (code:=bodyOf Try.f84) (fun _=>[]) (G:=fun c=>F.f30 (sy c) x0 H Q) Try.func84 (by kernel_rfl) (fun c=>by kernel_rfl) (fun c=>by kernel_rfl)
theorem fold_f43 (x0 x1 x2 x3:Value) (H:AH) (Q:VK):F.f43 (sy W) x0 x1 x2 x3 H Q->W 95 [x0,x1,x2,x3] H Q :=
  mkF (kp:=kp.f43) (code:=bodyOf Try.f95) (pl.f43 Q) (G:=fun c=>F.f43 (sy c) x0 x1 x2 x3 H Q) Try.func95 (by kernel_rfl) (fun c=>by kernel_rfl) (fun c=>by kernel_rfl)
theorem fold_f29 (x0:Value) (H:AH) (Q:VK):F.f29 (sy W) x0 H Q->W 79 [x0] H Q :=
  mkF (kp:=kp.f29) (code:=bodyOf Try.f79) (pl.f29 Q) (G:=fun c=>F.f29 (sy c) x0 H Q) Try.func79 (by kernel_rfl) (fun c=>by kernel_rfl) (fun c=>by kernel_rfl)
theorem fold_f36 (x0 x1:Value) (H:AH) (Q:VK):F.f36 (sy W) x0 x1 H Q->W 78 [x0,x1] H Q :=
  mkF (kp:=kp.f36) (code:=bodyOf Try.f78) (pl.f36 Q) (G:=fun c=>F.f36 (sy c) x0 x1 H Q) Try.func78 (by kernel_rfl) (fun c=>by kernel_rfl) (fun c=>by kernel_rfl)
theorem fold_f2 (x0:Value) (H:AH) (Q:VK):F.f2 (sy W) x0 H Q->W 77 [x0] H Q :=
  mkF (kp:=kp.f2) (code:=bodyOf Try.f77) (fun _=>[]) (G:=fun c=>F.f2 (sy c) x0 H Q) Try.func77 (by kernel_rfl) (fun c=>by kernel_rfl) (fun c=>by kernel_rfl)
theorem fold_f9 (x0:Value) (H:AH) (Q:VK):F.f9 (sy W) x0 H Q->W 97 [x0] H Q :=
  mkF (kp:=kp.f9) (code:=bodyOf Try.f97) (fun _=>[]) (G:=fun c=>F.f9 (sy c) x0 H Q) Try.func97 (by kernel_rfl) (fun c=>by kernel_rfl) (fun c=>by kernel_rfl)
theorem fold_f34 (x0 x1:Value) (H:AH) (Q:VK):F.f34 (sy W) x0 x1 H Q->W 98 [x0,x1] H Q :=
  mkF (kp:=kp.f34) (code:=bodyOf Try.f98) (fun _=>[]) (G:=fun c=>F.f34 (sy c) x0 x1 H Q) Try.func98 (by kernel_rfl) (fun c=>by kernel_rfl) (fun c=>by kernel_rfl)
theorem fold_f16 (x0:Value) (H:AH) (Q:VK):F.f16 (sy W) x0 H Q->W 108 [x0] H Q :=
  mkF (kp:=kp.f16) (code:=bodyOf Try.f108) (pl.f16 Q) (G:=fun c=>F.f16 (sy c) x0 H Q) Try.func108 (by kernel_rfl) (fun c=>by kernel_rfl) (fun c=>by kernel_rfl)
theorem fold_f42 (x0 x1 x2 x3:Value) (H:AH) (Q:VK):F.f42 (sy W) x0 x1 x2 x3 H Q->W 99 [x0,x1,x2,x3] H Q :=
  mkF (kp:=kp.f42) (code:=bodyOf Try.f99) (pl.f42 Q) (G:=fun c=>F.f42 (sy c) x0 x1 x2 x3 H Q) Try.func99 (by kernel_rfl) (fun c=>by kernel_rfl) (fun c=>by kernel_rfl)
theorem fold_f3 (x0:Value) (H:AH) (Q:VK):F.f3 (sy W) x0 H Q->W 74 [x0] H Q :=
  mkF (kp:=kp.f3) (code:=bodyOf Try.f74) (fun _=>[]) (G:=fun c=>F.f3 (sy c) x0 H Q) Try.func74 (by kernel_rfl) (fun c=>by kernel_rfl) (fun c=>by kernel_rfl)
theorem fold_f35 (x0 x1:Value) (H:AH) (Q:VK):F.f35 (sy W) x0 x1 H Q->W 112 [x0,x1] H Q :=
  mkF (kp:=kp.f35) (code:=bodyOf Try.f112) (pl.f35 Q) (G:=fun c=>F.f35 (sy c) x0 x1 H Q) Try.func112 (by kernel_rfl) (fun c=>by kernel_rfl) (fun c=>by kernel_rfl)
theorem fold:Go.AM.Fold (sy W) where
  mono:=CallW.mono
  f27:=fold_f27
  f26:=fold_f26
  f23:=fold_f23
  f4:=fold_f4
  f7:=fold_f7
  f19:=fold_f19
  f28:=fold_f28
  f20:=fold_f20
  f21:=fold_f21
  f24:=fold_f24
  f22:=fold_f22
  f38:=fold_f38
  f5:=fold_f5
  f10:=fold_f10
  f37:=fold_f37
  f6:=fold_f6
  f33:=fold_f33
  f8:=fold_f8
  f17:=fold_f17
  f18:=fold_f18
  f32:=fold_f32
  f31:=fold_f31
  f25:=fold_f25
  f49:=fold_f49
  f12:=fold_f12
  f0:=fold_f0
  f13:=fold_f13
  f11:=fold_f11
  f14:=fold_f14
  f47:=fold_f47
  f1:=fold_f1
  f30:=fold_f30
  f43:=fold_f43
  f29:=fold_f29
  f36:=fold_f36
  f2:=fold_f2
  f9:=fold_f9
  f34:=fold_f34
  f16:=fold_f16
  f42:=fold_f42
  f3:=fold_f3
  f35:=fold_f35
end Go.Proofs.Ytdionecknmcdhaa
