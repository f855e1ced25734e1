/- THE FUNCTIONS, HELD AGAINST THE PROGRAM: written by program (gen2.py). -/
import Derived.Test.YtcodjlonfgiegaaI8c53F
import Derived.Test.YtcodjlonfgiegaaProg
import Derived.KernelRfl
set_option linter.all false
set_option maxRecDepth 100000
set_option maxHeartbeats 4000000
namespace Go.Proofs.Ytcodjlonfgiegaa
open Go.AM
attribute [local irreducible] evD obls
def fidL:List Nat:=[0,0,0,0,0,0,0,0,35,41,0,0,36,47,0,10,0,0,0,0,0,0,0,0,0,0,0,0,0,0,0,0,0,0,91,0,0,0,0,0,0,0,7,8,0,14,34,0,0,33,0,16,0,0,19,0,0,0,0,0,17,18,20,21,0,37,0,0,0,0,0,0,0,0,0,0,0,0,0,0,0,0,0,0,0,0,0,0,0,0,0,0,0,0,0,0,0,0,0,0,0,0,0,0,0,0,0,0,0,0,0,0,0,0,0,0,0,0,0,0,0,0,0,0,0,0,0,0,0,0,0,0,0,0,0,0,0,0,0,0,0,0,0,0,0,0,0,0,0,0,0,0,0,0,0,0,0,45,0,0,0,0,0,0,60,61,0,0,0,0,0,0,0,0,0,0,0,0,0,0,0,0,0,0,0,65,66,0,0,0,0,0,0,0,0,0,0,0,0,0,0,0,0,0,0,0,0,0,0,0,0,0,0,0,0,0,0,0,0,0,0,0,0,0,0,0,0,0,0,0,0,0,0,0,0,0,0,0,0,0,0,0,0,0,0,0,0,0,0,0,0,0,0,0,0,0,0,0,0,0,0,0,0,0,0,0,0,0,0,0,0,0,0,0,0,0,0,0,0,0,0,0,0,0,0,0,0,0,0,0,0,0,0,0,0,0,0,0,0,0,0,0,0,0,0,0,0,0,0,0,0,0,0,0,0,0,0,0,0,0,0,0,0,0,0,0,0,0,0,0,0,0,0,0,0,0,0,0,0,0,0,0,0,0,0,0,9,0,0,0,0,0,0,0,0,0,0,0,0,0,0,23,22,26,28,27,0,0,0,0,0,0,0,0,0,0,15,0,0,0,0,88,0,0,0,0,0,0,0,0,38,25,24,42,43,44,29,0,0,0,0,0,0,32,31,0,0,0,0,0,0,0,0,48,49,40,39,50,51,52,53,55,58,59,57,56,54,46,0,0,0,0,0,0,0,62,63,64,68,67,94,0,69,70,0,0,0,0,0,0,0,0,0,0,0,0,0,0,0,0,0,0,0,0,0,0,0,0,0,0,0,0,3,6,11,12,13,4,5,0,30]
def tidL:List Nat:=[9]
def gidL:List Nat:=[]
def sy (c:CallT):Sy:={ call:=c,fid:=fun n=>fidL.getD n 0,tid:=fun n=>tidL.getD n 0,gid:=fun n=>gidL.getD n 0 }
def kp.f24:Keep:={ keep:=fun n=>[[0,1],[2,3],[],[2,3],[],[2,3],[34,35,36],[34,35,36],[6,34,35,36],[6,7,34,35,36],[7,8,34,35,36],[7,8,34,35,36,46,47,48],[7,8,34,35,36,46,47,48],[7,8,10,34,35,36,46,47,48],[7,8,10,34,35,36,46,47,48,53,54,55],[7,8,10,34,35,36,46,47,48,53,54,55],[7,8,10,12,34,35,36,46,47,48,53,54,55],[7,8,10,34,35,36,46,47,48,53,54,55],[7,8,34,35,36,46,47,48],[7,8,34,35,36],[7,13,34,35,36],[7,13,15,16,34,35,36],[7,13,15,16,18,19,34,35,36],[],[7,13,34,35,36],[7,13,20,34,35,36],[13,20,34,35,36,96,97,98],[13,20,34,35,36,96,97,98],[13,20,22,34,35,36,96,97,98],[13,20,22,34,35,36,96,97,98],[],[13,20,22,34,35,36,96,97,98],[13,20,34,35,36,96,97,98,136,137,138],[13,20,34,35,36,96,97,98,136,137,138],[13,20,23,24,34,35,36,96,97,98,136,137,138],[13,20,24,25,34,35,36,96,97,98,136,137,138],[],[13,20,34,35,36,96,97,98,136,137,138],[13,20,34,35,36,96,97,98],[13,20,34,35,36,96,97,98],[13,20,34,35,36],[],[34,35,36],[]].getD n [],order:=fun n=>[[],[],[],[],[],[(0,0),(1,0),(5,0),(2,2),(3,7),(4,15)],[],[],[],[],[],[],[],[],[],[],[],[],[],[],[],[],[],[],[],[],[],[],[],[(0,0),(1,0),(2,2),(3,6),(4,15),(5,31),(6,63),(7,127),(8,63),(9,511),(10,1023),(11,2047),(12,63),(13,4159),(14,16383),(15,32767),(16,65535),(17,131071),(18,262143),(19,131071),(20,1048575),(21,2097151),(22,4194303),(23,8388607),(24,131071),(25,16908287),(26,50462719),(27,134217727),(28,268435455)]].getD n [] }
def pl.f24 (Q:VK) (c:CallT):Plan:=[
  (64174694,fun S T H=>F.f24_l3 (sy c) Q (S 2) (S 1) (T 7) (T 8) (T 10) (T 34) (T 35) (T 36) (T 46) (T 47) (T 48) (T 53) (T 54) (T 55) H (S 0)),
  (32858166074,fun S T H=>F.f24_l5 (sy c) Q (S 2) (S 1) (T 13) (T 20) (T 34) (T 35) (T 36) (T 96) (T 97) (T 98) (T 136) (T 137) (T 138) H (S 0)),
  (16044026,fun S T H=>F.f24_l4 (sy c) Q (S 1) (T 13) (T 20) (T 34) (T 35) (T 36) (T 96) (T 97) (T 98) H (S 0)),
  (250682,fun S T H=>F.f24_l2 (sy c) Q (S 1) (T 7) (T 8) (T 34) (T 35) (T 36) (T 46) (T 47) (T 48) H (S 0)),
  (122,fun S T H=>F.f24_l1 (sy c) Q (T 34) (T 35) (T 36) H (S 0))]

def kp.f23:Keep:={ keep:=fun n=>[[],[],[1],[2]].getD n [],order:=fun n=>[].getD n [] }

def kp.f19:Keep:={ keep:=fun n=>[[0],[1],[1,8,9,10],[1,8,9,10],[1,4,8,9,10],[],[1,8,9,10],[1],[1,20,21,22],[1,20,21,22],[1,6,20,21,22],[],[1,20,21,22],[1]].getD n [],order:=fun n=>[].getD n [] }
def pl.f19 (Q:VK) (c:CallT):Plan:=[
  (58,fun S T H=>F.f19_l2 (sy c) Q (T 1) (T 20) (T 21) (T 22) H (S 0)),
  (26,fun S T H=>F.f19_l1 (sy c) Q (T 1) (T 8) (T 9) (T 10) H (S 0))]

def kp.f20:Keep:={ keep:=fun n=>[[0],[1,2],[1,2,3],[1,2,3,4],[1,2,3,4,38,39,40],[1,2,3,4,38,39,40],[1,2,3,4,5,6,38,39,40],[1,2,3,4,6,38,39,40],[1,2,3,4,6,7,38,39,40],[1,2,3,4,7,38,39,40,65,66,67],[1,2,3,4,7,38,39,40,65,66,67],[1,2,3,4,7,8,9,38,39,40,65,66,67],[1,2,3,4,7,9,38,39,40,65,66,67],[1,2,3,4,7,38,39,40,65,66,67],[1,2,3,4,7,38,39,40],[1,2,3,4,38,39,40],[1,2,4],[1,2,4,10],[1,2,4,10,11],[1,2,4,10,11,92,93,94],[1,2,4,10,11,92,93,94],[1,2,4,10,11,12,13,92,93,94],[1,2,4,10,11,12,14,92,93,94],[1,2,4,10,11,14,15,92,93,94],[1,2,4,10,11,14,15,92,93,94],[1,2,4,10,11,14,15,92,93,94],[1,2,4,10,11,92,93,94],[1,2,4,11],[1,2,4,11,16],[2,4,11,16,131,132,133],[2,4,11,16,131,132,133],[2,4,11,16,17,18,131,132,133],[2,4,11,16,17,19,131,132,133],[2,4,11,16,19,20,131,132,133],[2,4,11,16,19,20,131,132,133],[2,4,11,16,19,20,131,132,133],[2,4,11,16,131,132,133],[2,4]].getD n [],order:=fun n=>[[],[],[(0,0),(1,0),(2,2),(3,6),(4,15),(5,31),(6,0),(7,64),(8,0),(9,256),(11,0),(12,2048),(13,6144),(15,0),(10,960),(14,16383),(16,65535)],[],[],[],[],[(0,0),(1,0),(2,2),(3,6),(4,0),(5,16),(6,62),(7,127),(8,255),(9,511),(10,1023),(11,0),(12,2048),(13,0),(14,8192),(17,0),(15,30720),(16,65535),(18,262143)],[],[],[],[],[(0,0),(1,1),(2,0),(3,4),(4,12),(5,31),(6,63),(7,127)]].getD n [] }
def pl.f20 (Q:VK) (c:CallT):Plan:=[
  (4090,fun S T H=>F.f20_l2 (sy c) Q (T 2) (T 4) (T 11) (T 16) (T 131) (T 132) (T 133) H (S 0)),
  (1018,fun S T H=>F.f20_l1 (sy c) Q (T 1) (T 2) (T 4) (T 10) (T 11) (T 92) (T 93) (T 94) H (S 0)),
  (31,fun S T H=>F.f20_j1 (sy c) Q (T 1) (T 2) (T 4) H),
  (250682,fun S T H=>F.f20_l4 (sy c) Q (S 1) (T 1) (T 2) (T 3) (T 4) (T 7) (T 38) (T 39) (T 40) (T 65) (T 66) (T 67) H (S 0)),
  (122,fun S T H=>F.f20_l3 (sy c) Q (T 1) (T 2) (T 3) (T 4) (T 38) (T 39) (T 40) H (S 0))]

def kp.f4:Keep:={ keep:=fun n=>[[0],[1,2],[1,2,3],[1,2,3,4],[2,3,4,14,15,16],[2,3,4,14,15,16],[2,3,4,6,14,15,16],[2,3,4,14,15,16],[2,3,4],[2,3,32],[2,3,32],[2,3,7,8,32],[2,3,7,8,32],[2,3],[2,3]].getD n [],order:=fun n=>[[],[],[],[],[],[],[(0,0),(1,0),(2,2),(3,0),(4,0),(5,16),(6,56),(7,0),(8,128),(9,504),(10,1023)],[],[],[],[],[],[(0,0),(1,1),(2,0),(3,0),(4,8),(5,28),(6,60),(7,127),(8,255),(9,511)]].getD n [] }
def pl.f4 (Q:VK) (c:CallT):Plan:=[
  (250,fun S T H=>F.f4_l2 (sy c) Q (T 2) (T 3) (T 32) H (S 0)),
  (122,fun S T H=>F.f4_l1 (sy c) Q (T 2) (T 3) (T 4) (T 14) (T 15) (T 16) H (S 0))]

def kp.f7:Keep:={ keep:=fun n=>[[0],[1,3,4],[1,3,4,10,11,12],[1,3,4,10,11,12],[1,3,4,6,10,11,12],[1,3,4,6,10,11,12],[1,3,4,10,11,12,22,23,24],[1,3,4,10,11,12,22,23,24],[1,3,4,8,10,11,12,22,23,24],[1,3,4,10,11,12,22,23,24],[1,3,4,10,11,12],[1,3,4]].getD n [],order:=fun n=>[].getD n [] }
def pl.f7 (Q:VK) (c:CallT):Plan:=[
  (13518,fun S T H=>F.f7_l2 (sy c) Q (S 1) (T 1) (T 3) (T 4) (T 10) (T 11) (T 12) (T 22) (T 23) (T 24) H (S 0)),
  (26,fun S T H=>F.f7_l1 (sy c) Q (T 1) (T 3) (T 4) (T 10) (T 11) (T 12) H (S 0))]

def kp.f25:Keep:={ keep:=fun n=>[[],[]].getD n [],order:=fun n=>[].getD n [] }

def kp.f16:Keep:={ keep:=fun n=>[[0,1],[0,1],[1,6],[],[1,6],[1],[6],[],[]].getD n [],order:=fun n=>[].getD n [] }

def kp.f17:Keep:={ keep:=fun n=>[[0],[1,2],[1,2,3],[1,2,3,4],[1,2,3,4],[2,4],[2,4]].getD n [],order:=fun n=>[[],[],[(0,0),(1,1),(2,3),(3,7),(4,0),(5,16),(6,48),(7,112),(8,0),(9,0),(10,512),(11,1536),(12,0),(13,4096),(14,15872),(15,32512),(16,65280),(17,131071),(18,0),(19,524287)]].getD n [] }

def kp.f21:Keep:={ keep:=fun n=>[[0,1,2,3],[0,1,2,3],[1,3],[0,1,2,3]].getD n [],order:=fun n=>[[],[],[],[(0,0),(1,1),(2,0),(3,7),(4,15),(5,0),(6,32),(7,127),(8,0),(9,511),(10,1023)]].getD n [] }

def kp.f18:Keep:={ keep:=fun n=>[[],[]].getD n [],order:=fun n=>[].getD n [] }

def kp.f32:Keep:={ keep:=fun n=>[[0,1]].getD n [],order:=fun n=>[].getD n [] }

def kp.f5:Keep:={ keep:=fun n=>[[0,1],[2,3]].getD n [],order:=fun n=>[[],[(0,0),(1,1),(3,0),(4,8),(2,3),(5,31),(6,63),(7,127)]].getD n [] }

def kp.f9:Keep:={ keep:=fun n=>[[0],[0],[0,3],[3,7,8,9],[3,7,8,9],[3,5,7,8,9],[3,6,7,8,9],[3,6,7,8,9],[3,6,7,8,9],[3,7,8,9],[3]].getD n [],order:=fun n=>[[],[],[],[],[],[(0,0),(1,1),(3,0),(4,8),(6,0),(2,3),(5,31),(7,127)]].getD n [] }
def pl.f9 (Q:VK) (c:CallT):Plan:=[
  (58,fun S T H=>F.f9_l1 (sy c) Q (T 3) (T 7) (T 8) (T 9) H (S 0))]

def kp.f31:Keep:={ keep:=fun n=>[[0,1],[0,1,4]].getD n [],order:=fun n=>[].getD n [] }

def kp.f6:Keep:={ keep:=fun n=>[[0,1],[2,3]].getD n [],order:=fun n=>[].getD n [] }

def kp.f27:Keep:={ keep:=fun n=>[[0],[0]].getD n [],order:=fun n=>[].getD n [] }

def kp.f22:Keep:={ keep:=fun n=>[[],[]].getD n [],order:=fun n=>[].getD n [] }

def kp.f49:Keep:={ keep:=fun n=>[[0,1,2],[0,1,2,6],[0,1,2,6,7,8],[0,1,2,6,7,8],[0,1,2,6,8],[0,1,2,6,7,8],[0,1,2,6,7],[0,1,2,6],[0,1,2,6],[0,1,2,6,7,8],[0,1,2,6,7,8],[0,1,2,6,8],[0,1,2,6,7,8],[0,1,2,6,7],[0,1,2,6,7,9],[0,1,2,6,7,9],[0,1,2,6]].getD n [],order:=fun n=>[].getD n [] }
def pl.f49 (Q:VK) (c:CallT):Plan:=[
  (3988,fun S T H=>F.f49_l3 (sy c) Q (S 1) (T 0) (T 1) (T 2) (T 6) (T 7) (T 8) H (S 0)),
  (62,fun S T H=>F.f49_l2 (sy c) Q (T 0) (T 1) (T 2) (T 6) H (S 0)),
  (28,fun S T H=>F.f49_l1 (sy c) Q (T 0) (T 1) (T 2) (T 6) (T 7) (T 8) H (S 0))]

def kp.f11:Keep:={ keep:=fun n=>[[0],[0],[0,3]].getD n [],order:=fun n=>[[],[],[(0,0),(1,0),(2,2),(3,7),(4,15)]].getD n [] }

def kp.f0:Keep:={ keep:=fun n=>[[0,1],[0,1],[0,1,5],[0,1,5,6],[6],[],[],[0,1,6],[],[0,1],[],[0,1],[],[]].getD n [],order:=fun n=>[].getD n [] }

def kp.f12:Keep:={ keep:=fun n=>[[0],[0],[0,3],[3,6,7,8],[3,6,7,8],[3,5,6,7,8],[3,5,6,7,8],[3,6,7,8],[3]].getD n [],order:=fun n=>[].getD n [] }
def pl.f12 (Q:VK) (c:CallT):Plan:=[
  (58,fun S T H=>F.f12_l1 (sy c) Q (T 3) (T 6) (T 7) (T 8) H (S 0))]

def kp.f10:Keep:={ keep:=fun n=>[[0],[0],[0,7,8,9],[0,7,8,9],[0,3,4,7,8,9],[0,3,4,7,8,9],[],[0,3,4,7,8,9],[0,4,7,8,9,33,34,35],[0,4,7,8,9,33,34,35],[0,4,6,7,8,9,33,34,35],[],[0,4,7,8,9,33,34,35],[0,7,8,9],[]].getD n [],order:=fun n=>[].getD n [] }
def pl.f10 (Q:VK) (c:CallT):Plan:=[
  (13518,fun S T H=>F.f10_l2 (sy c) Q (S 1) (T 0) (T 4) (T 7) (T 8) (T 9) (T 33) (T 34) (T 35) H (S 0)),
  (13513,fun S T H=>F.f10_j1 (sy c) Q (S 0) (T 0) (T 3) (T 4) (T 7) (T 8) (T 9) (T 14) H),
  (26,fun S T H=>F.f10_l1 (sy c) Q (T 0) (T 7) (T 8) (T 9) H (S 0))]

def kp.f13:Keep:={ keep:=fun n=>[[0],[0],[0]].getD n [],order:=fun n=>[].getD n [] }

def kp.f45:Keep:={ keep:=fun n=>[[0,1,2,3,4],[0,1,2,3,4,10],[0,1,2,3,4,10,11],[0,1,2,3,4,10,11,12],[0,1,2,4],[0,1,2,3,4,10,11,12],[0,1,2,4],[0,1,2,3,4,10,11,12],[0,1,2,3,4,10,11,12],[0,1,2,3,4,10,11,12],[0,1,2,3,4,10,11,12],[0,1,2,3,4,10,11,12,13,14],[0,1,2,3,4,10,11,12,13],[0,1,2,3,4,10,11,12,13],[0,1,2,3,4,10,11,12,13],[0,1,2,3,4,10,11,12,13,14],[0,1,2,3,4,10,11,12,13],[0,1,2,3,4,10,11,12,13],[0,1,2,3,4,10,11,13],[0,2,3,4,10,11,15],[0,1,2,3,4,12,13],[0,1,2,3,4,12,16,17],[0,1,2,3,4,11,12,16],[0,1,2,3,4,11,12,16,18,19],[0,1,2,3,4,11,16,18,19,20],[0,1,2,3,4,11,16,18,20],[0,1,2,3,4,10,11,16],[0,2,3,4,10,11,16],[0,1,2,3,4,11,16,19,20],[0,1,2,3,4,10,11,16],[0,1,3,4,10,11,16]].getD n [],order:=fun n=>[[],[],[],[],[],[],[],[],[],[],[],[],[],[],[],[],[],[(0,0),(1,1),(2,3),(3,7),(4,7),(5,7),(6,39),(7,119),(8,247),(9,7),(10,7),(11,1543),(12,3591),(13,8191),(14,16383),(15,32767),(16,65535)]].getD n [] }
def pl.f45 (Q:VK) (c:CallT):Plan:=[
  (7295,fun S T H=>F.f45_j3 (sy c) Q (S 0) (T 0) (T 1) (T 2) (T 3) (T 4) (T 10) (T 11) (T 12) (T 13) H),
  (3647,fun S T H=>F.f45_j2 (sy c) Q (S 0) (T 0) (T 1) (T 2) (T 3) (T 4) (T 10) (T 11) (T 12) (T 13) (T 14) H),
  (911,fun S T H=>F.f45_j1 (sy c) Q (S 0) (T 0) (T 1) (T 2) (T 3) (T 4) (T 10) (T 11) (T 12) H),
  (14,fun S T H=>F.f45_l1 (sy c) Q (T 0) (T 1) (T 2) (T 3) (T 4) (T 10) (T 11) H (S 0))]

def kp.f1:Keep:={ keep:=fun n=>[[0,1],[0,1],[0,1,5],[0,1,5,6],[6],[],[],[0,1,6],[],[0,1],[],[0,1],[],[]].getD n [],order:=fun n=>[].getD n [] }

def kp.f37:Keep:={ keep:=fun n=>[[0,1,2,3],[0,1,2,3,8],[0,1,2,3,8],[0,1,2,3,8],[0,1,2,3,8,9],[0,1,2,3,8,9],[0,1,2,3,8,9]].getD n [],order:=fun n=>[[],[],[],[],[(0,0),(1,0),(2,3),(3,7),(4,15),(5,15),(6,15),(7,111),(8,239),(9,15),(10,15),(11,1039),(12,3599),(13,7695),(14,16383),(15,32767),(16,65535)],[],[(0,0),(1,0),(2,0),(3,0),(4,8),(5,0),(6,0),(7,64),(8,224),(9,480),(10,0),(11,0),(12,3072),(13,7168),(14,16355),(15,32739),(16,65535),(17,131071)]].getD n [] }
def pl.f37 (Q:VK) (c:CallT):Plan:=[
  (402,fun S T H=>F.f37_l2 (sy c) Q (S 1) (T 0) (T 1) (T 2) (T 3) (T 8) (T 9) H (S 0)),
  (6,fun S T H=>F.f37_l1 (sy c) Q (T 0) (T 1) (T 2) (T 3) (T 8) H (S 0))]

def kp.f51:Keep:={ keep:=fun n=>[[0,1,2,3,4],[0,1,2,3,4],[0,1,3,4,10],[0,1,4,10,11],[0,1,4,10,11],[0,1,4,10,11,12],[0,1,4,11,12],[0,1,4,10,12],[0,1,10],[0,10,13],[0,10,13],[0,10,13],[0,1,2,3,4],[0,1,2,4],[0,2,4,14],[0,2,4,14,15],[0,2,4,14,15],[0,2,4,14,15,16],[0,2,4,15,16],[0,2,4,14,16],[0,2,14],[0,14,17],[0,14,17],[0,14,17],[0,1,2,3,4],[0,1,2,3,4,18],[0,1,2,3,4,18,19],[0,1,2,3,4,18,19],[0,1,2,3,4,18,19],[0,1,2,3,4,18,19,20],[0,1,2,3,4,18,19],[0,1,2,3,4,18,19,20],[0,1,2,3,4,18,19,20,21],[0,1,2,3,4,18,19,20,21,22],[0,1,2,3,4,18,19,20,21,22],[0,1,2,3,4,18,19,20,21,22,23],[0,1,2,3,4,18,19,21,22,23],[0,1,2,3,4,18,19,20,22,23],[0,1,2,3,4,18,19,20],[0,1,2,3,4,18,20,24],[0,1,2,3,4,18,20,24],[0,1,3,4,18,20,24],[0,1,3,4,18,20,24],[0,3,4,18,24],[0,3,4,18,24]].getD n [],order:=fun n=>[[],[],[],[],[],[(0,0),(1,0),(2,0),(3,6),(4,14),(5,0),(6,0),(7,96),(8,224),(9,511),(10,1023)],[],[],[],[],[],[(0,0),(1,0),(2,0),(3,0),(4,8),(5,0),(6,0),(7,64),(8,224),(9,480),(10,0),(11,0),(12,3072),(13,7168),(14,16355),(15,32739),(16,65535),(17,131071)],[],[],[],[],[],[(0,0),(1,0),(2,0),(3,6),(4,14),(5,0),(6,0),(7,96),(8,224),(9,511),(10,1023),(11,2047)],[],[],[],[],[],[(0,0),(1,0),(2,0),(3,0),(4,8),(5,0),(6,0),(7,64),(8,224),(9,480),(10,0),(11,0),(12,3072),(13,7168),(14,16355),(15,32739),(16,65535),(17,131071)],[],[],[],[],[],[],[],[],[],[],[],[(0,0),(1,0),(2,0),(3,0),(4,12),(5,30),(6,62),(7,0),(8,0),(9,384),(10,896),(11,2047),(12,4095),(13,8191)]].getD n [] }
def pl.f51 (Q:VK) (c:CallT):Plan:=[
  (698,fun S T H=>F.f51_l2 (sy c) Q (T 0) (T 10) (T 13) H (S 0)),
  (172,fun S T H=>F.f51_l1 (sy c) Q (T 0) (T 1) (T 4) (T 10) (T 11) H (S 0)),
  (1722,fun S T H=>F.f51_l4 (sy c) Q (T 0) (T 14) (T 17) H (S 0)),
  (428,fun S T H=>F.f51_l3 (sy c) Q (T 0) (T 2) (T 4) (T 14) (T 15) H (S 0)),
  (4095,fun S T H=>F.f51_j3 (sy c) Q (T 0) (T 3) (T 4) (T 18) (T 24) H),
  (2047,fun S T H=>F.f51_j2 (sy c) Q (T 0) (T 1) (T 3) (T 4) (T 18) (T 20) (T 24) H),
  (1020,fun S T H=>F.f51_l5 (sy c) Q (T 0) (T 1) (T 2) (T 3) (T 4) (T 18) (T 19) (T 20) (T 21) (T 22) H (S 0)),
  (127,fun S T H=>F.f51_j1 (sy c) Q (T 0) (T 1) (T 2) (T 3) (T 4) (T 18) (T 19) (T 20) (T 21) H)]

def kp.f26:Keep:={ keep:=fun n=>[[0],[0],[3],[3,6],[3,6],[3,6],[3],[]].getD n [],order:=fun n=>[].getD n [] }
def pl.f26 (Q:VK) (c:CallT):Plan:=[
  (109,fun S T H=>F.f26_j1 (sy c) Q (T 3) (T 7) H)]

def kp.f30:Keep:={ keep:=fun n=>[[0,1],[0,1],[0,1,7,8],[0,1,7,8],[0,1,5,7,8],[5],[0,1,7,8],[]].getD n [],order:=fun n=>[].getD n [] }
def pl.f30 (Q:VK) (c:CallT):Plan:=[
  (26,fun S T H=>F.f30_l1 (sy c) Q (T 0) (T 1) (T 7) (T 8) H (S 0))]

def kp.f2:Keep:={ keep:=fun n=>[[0],[0]].getD n [],order:=fun n=>[].getD n [] }

def kp.f8:Keep:={ keep:=fun n=>[[0],[1],[],[1],[1,12],[1],[1,12],[1],[]].getD n [],order:=fun n=>[].getD n [] }

def kp.f28:Keep:={ keep:=fun n=>[[0,1],[0,3]].getD n [],order:=fun n=>[].getD n [] }

def kp.f15:Keep:={ keep:=fun n=>[[0],[0,2],[0],[0],[0,2],[0,2],[0,2],[0,2],[0,2],[0,2],[0,2]].getD n [],order:=fun n=>[].getD n [] }
def pl.f15 (Q:VK) (c:CallT):Plan:=[
  (31,fun S T H=>F.f15_j3 (sy c) Q (T 0) (T 2) H),
  (15,fun S T H=>F.f15_j2 (sy c) Q (T 0) (T 2) H),
  (7,fun S T H=>F.f15_j1 (sy c) Q (T 0) (T 2) H)]

def kp.f36:Keep:={ keep:=fun n=>[[0,1,2,3],[0,1,2,3,8],[0,1,2,3,8],[0,1,2,3,8],[0,1,2,3,8,9],[0,1,2,3,8,9],[0,1,2,3,8,9]].getD n [],order:=fun n=>[[],[],[],[],[(0,0),(1,0),(2,3),(3,7),(4,15),(5,15),(6,15),(7,111),(8,239),(9,15),(10,15),(11,1039),(12,3599),(13,7695),(14,16383),(15,32767),(16,65535)],[],[(0,0),(1,0),(2,0),(3,0),(4,8),(5,0),(6,0),(7,64),(8,224),(9,480),(10,0),(11,0),(12,3072),(13,7168),(14,16355),(15,32739),(16,65535),(17,131071)]].getD n [] }
def pl.f36 (Q:VK) (c:CallT):Plan:=[
  (402,fun S T H=>F.f36_l2 (sy c) Q (S 1) (T 0) (T 1) (T 2) (T 3) (T 8) (T 9) H (S 0)),
  (6,fun S T H=>F.f36_l1 (sy c) Q (T 0) (T 1) (T 2) (T 3) (T 8) H (S 0))]

def kp.f35:Keep:={ keep:=fun n=>[[0,1,2,3],[0,1,2,3,8],[0,1,2,3,8,9],[0,3,8,9,10],[0,3,8,9,10,11],[0,3,8,9,10,11],[0,3,8,9,10,11],[0,3,8,9,10],[0,3,8,9,12],[0,3,8,9,12],[0,3,8,9,12],[0,3,8,9,12]].getD n [],order:=fun n=>[[],[],[],[],[],[],[],[],[],[],[(0,0),(1,0),(2,0),(3,0),(4,0),(5,24),(6,0),(7,0),(8,0),(9,384),(10,960),(11,1984),(12,0),(13,0),(14,12288),(15,28672),(16,65475),(17,131011),(18,262143),(19,524287)]].getD n [] }
def pl.f35 (Q:VK) (c:CallT):Plan:=[
  (126,fun S T H=>F.f35_l2 (sy c) Q (T 0) (T 3) (T 8) (T 9) (T 12) H (S 0)),
  (122,fun S T H=>F.f35_l1 (sy c) Q (T 0) (T 3) (T 8) (T 9) (T 10) (T 11) H (S 0))]

def kp.f33:Keep:={ keep:=fun n=>[[0,1,2],[0,1,8],[0,1,8],[0,1,8,9],[0,1,8,9,10],[0,1,8,9,10,11],[0,1,8,9,10,11],[0,1,8,9,10,11],[0,1,8,9,10,11,12],[0,1,8,9,10,11,12],[0,1,8,9,10,11,12]].getD n [],order:=fun n=>[[],[],[],[],[],[],[],[],[],[],[(0,0),(1,0),(2,0),(3,0),(4,0),(5,24),(6,0),(7,0),(8,0),(9,384),(10,960),(11,1984),(12,0),(13,0),(14,12288),(15,28672),(16,65475),(17,131011),(18,262143),(19,524287)]].getD n [] }
def pl.f33 (Q:VK) (c:CallT):Plan:=[
  (15251,fun S T H=>F.f33_j1 (sy c) Q (S 0) (T 0) (T 1) (T 8) (T 9) (T 10) (T 11) (T 12) H),
  (238,fun S T H=>F.f33_l1 (sy c) Q (T 0) (T 1) (T 8) (T 9) (T 10) (T 11) H (S 0))]

def kp.f34:Keep:={ keep:=fun n=>[[0,1,2,3],[0,1,2,3],[0,1,3,10],[0,1,3,10,11],[0,1,3,10,11,12],[0,1,3,10,11,12,13],[0,3,10,11,12,13,14],[0,3,10,11,12,13,14],[0,3,11,12,13,14],[0,3,11,12,13,14],[0,3,11,12,13,14],[0,3,11,12,13,14],[11,13],[13],[13,55],[13],[13,55],[13]].getD n [],order:=fun n=>[].getD n [] }
def pl.f34 (Q:VK) (c:CallT):Plan:=[
  (255,fun S T H=>F.f34_j1 (sy c) Q (T 11) (T 13) H),
  (2037,fun S T H=>F.f34_j2 (sy c) Q (T 0) (T 3) (T 11) (T 12) (T 13) (T 14) H)]

def kp.f46:Keep:={ keep:=fun n=>[[0,1,2],[0,2,8],[0,8,9],[0,8,9],[0,8,9],[0,8,9]].getD n [],order:=fun n=>[[],[],[],[(0,0),(1,0),(2,0),(3,0),(4,0),(5,0),(6,48),(7,112),(8,0),(9,0),(10,768),(11,1792),(12,4083),(13,8179),(14,16383),(15,32767)]].getD n [] }
def pl.f46 (Q:VK) (c:CallT):Plan:=[
  (14,fun S T H=>F.f46_l1 (sy c) Q (T 0) (T 8) (T 9) H (S 0))]

def kp.f42:Keep:={ keep:=fun n=>[[0,1,2,3],[0,1,2,3],[0,1,2,3,9],[0,1,2,3,9,10],[0,1,2,3,9,10],[0,1,2,3,9,10],[0,1,2,3,9,10],[0,1,2,3,9,10],[],[0,1,2,3,9,10],[],[0,1,2,3,9,10],[0,1,2,3,9,10],[0,1,2,3,9,10],[0,1,2,3,9,10,11],[0,1,2,3,9,10,11],[0,1,2,3,9,10,11],[0,1,2,3,9,10,11],[0,1,2,3,9,10],[0,1,2,3,9,10],[0,1,2,3,9,10,12],[0,1,2,3,9,10,12],[0,1,2,3,9,10,12],[0,1,2,3,9,10,12],[]].getD n [],order:=fun n=>[[],[],[],[],[],[(0,0),(1,0),(2,3),(3,7),(4,15),(5,15),(6,15),(7,111),(8,239),(9,15),(10,15),(11,1039),(12,3599),(13,7695),(14,16383),(15,32767),(16,65535),(17,131071)],[],[],[],[],[],[(0,0),(1,0),(2,0),(3,0),(4,8),(5,0),(6,0),(7,64),(8,224),(9,480),(10,0),(11,0),(12,3072),(13,7168),(14,16355),(15,32739),(16,65535),(17,131071)],[],[],[],[],[(0,0),(1,0),(2,0),(3,6),(4,14),(5,0),(6,0),(7,64),(8,224),(9,480),(10,1023),(11,2047),(12,4095)],[(0,0),(1,0),(2,0),(3,0),(4,8),(5,0),(6,0),(7,64),(8,224),(9,480),(10,0),(11,0),(12,3072),(13,7168),(14,16355),(15,32739),(16,65535),(17,131071)],[],[],[],[],[(0,0),(1,0),(2,0),(3,6),(4,14),(5,0),(6,0),(7,64),(8,224),(9,480),(10,1023),(11,2047),(12,4095)],[(0,0),(1,0),(2,0),(3,0),(4,8),(5,0),(6,0),(7,64),(8,224),(9,480),(10,0),(11,0),(12,3072),(13,7168),(14,16355),(15,32739),(16,65535),(17,131071)]].getD n [] }
def pl.f42 (Q:VK) (c:CallT):Plan:=[
  (477690,fun S T H=>F.f42_l3 (sy c) Q (S 1) (T 0) (T 1) (T 2) (T 3) (T 9) (T 10) (T 12) H (S 0)),
  (29855,fun S T H=>F.f42_j1 (sy c) Q (S 0) (T 0) (T 1) (T 2) (T 3) (T 9) (T 10) H),
  (477674,fun S T H=>F.f42_l4 (sy c) Q (S 1) (T 0) (T 1) (T 2) (T 3) (T 9) (T 10) (T 11) H (S 0)),
  (3728,fun S T H=>F.f42_l2 (sy c) Q (S 1) (T 0) (T 1) (T 2) (T 3) (T 9) (T 10) H (S 0)),
  (58,fun S T H=>F.f42_l1 (sy c) Q (T 0) (T 1) (T 2) (T 3) (T 9) (T 10) H (S 0))]

def kp.f44:Keep:={ keep:=fun n=>[[0,1,2,3,4],[0,1,2,3,4],[0,1,2,4],[0,1,4,11,12],[0,1,4,11,12],[0,1,4,11,12],[0,1,4,11,12],[0,1,4,11,12],[0,1,4,11,12],[0,1,4,11,12],[0,1,4,11,12],[11]].getD n [],order:=fun n=>[[],[(0,0),(1,0),(2,0),(3,0),(4,0),(5,0),(6,48),(7,112),(8,0),(9,0),(10,768),(11,1792),(12,4083),(13,8179),(14,16383),(15,32767)],[],[(0,0),(1,0),(2,3),(3,7),(4,15),(5,15),(6,15),(7,111),(8,239),(9,15),(10,15),(11,1551),(12,3599),(13,8191),(14,16383),(15,32767),(16,65535)],[],[(0,0),(1,0),(2,3),(3,7),(4,15),(5,15),(6,15),(7,111),(8,239),(9,15),(10,15),(11,1551),(12,3599),(13,8191),(14,16383),(15,32767)],[],[],[(0,0),(1,0),(2,0),(3,0),(4,0),(5,0),(6,48),(7,112),(8,0),(9,0),(10,768),(11,1792),(12,4083),(13,8179),(14,16383),(15,32767)]].getD n [] }
def pl.f44 (Q:VK) (c:CallT):Plan:=[
  (1924,fun S T H=>F.f44_l3 (sy c) Q (S 1) (T 0) (T 1) (T 4) (T 11) (T 12) H (S 0)),
  (960,fun S T H=>F.f44_l2 (sy c) Q (S 1) (T 0) (T 1) (T 4) (T 11) (T 12) H (S 0)),
  (60,fun S T H=>F.f44_l1 (sy c) Q (T 0) (T 1) (T 4) (T 11) (T 12) H (S 0))]

def kp.f43:Keep:={ keep:=fun n=>[[0,1,2,3,4],[0,1,2,3,4],[0,1,2,4],[0,1,4,12,13],[0,1,4,12,13],[0,1,4,12,13],[0,1,4,12,13],[0,1,4,12,13],[0,1,13],[13],[0,1,4,12,13],[0,1,4,12,13],[0,1,4,12,13],[0,1,4,12,13],[0,1,4,12,13],[0,1,4,12,13],[0,1,4,12,13],[0,1,4,12,13],[0,1,4,12,13],[0,1,4,12,13],[0,1,4,12,13],[0,1,13],[13]].getD n [],order:=fun n=>[[],[(0,0),(1,0),(2,0),(3,0),(4,0),(5,0),(6,48),(7,112),(8,0),(9,0),(10,768),(11,1792),(12,4083),(13,8179),(14,16383),(15,32767)],[],[(0,0),(1,0),(2,3),(3,7),(4,15),(5,15),(6,15),(7,111),(8,239),(9,15),(10,15),(11,1551),(12,3599),(13,8191),(14,16383),(15,32767)],[],[(0,0),(1,0),(2,3),(3,7),(4,15),(5,15),(6,15),(7,111),(8,239),(9,15),(10,15),(11,1551),(12,3599),(13,8191),(14,16383),(15,32767),(16,65535)],[],[],[(0,0),(1,0),(2,0),(3,0),(4,0),(5,0),(6,48),(7,112),(8,0),(9,0),(10,768),(11,1792),(12,4083),(13,8179),(14,16383),(15,32767)],[],[(0,0),(1,0),(2,0),(3,0),(4,0),(5,0),(6,48),(7,112),(8,0),(9,0),(10,768),(11,1792),(12,4083),(13,8179),(14,16383),(15,32767)],[],[],[(0,0),(1,0),(2,3),(3,7),(4,15),(5,15),(6,15),(7,111),(8,239),(9,15),(10,15),(11,1551),(12,3599),(13,8191),(14,16383),(15,32767)],[],[(0,0),(1,0),(2,3),(3,7),(4,15),(5,15),(6,15),(7,111),(8,239),(9,15),(10,15),(11,1551),(12,3599),(13,8191),(14,16383),(15,32767),(16,65535)],[],[],[(0,0),(1,0),(2,0),(3,0),(4,0),(5,0),(6,48),(7,112),(8,0),(9,0),(10,768),(11,1792),(12,4083),(13,8179),(14,16383),(15,32767)],[],[],[(0,0),(1,0),(2,0),(3,0),(4,0),(5,0),(6,48),(7,112),(8,0),(9,0),(10,768),(11,1792),(12,4083),(13,8179),(14,16383),(15,32767)]].getD n [] }
def pl.f43 (Q:VK) (c:CallT):Plan:=[
  (130948,fun S T H=>F.f43_l5 (sy c) Q (S 1) (T 0) (T 1) (T 4) (T 12) (T 13) H (S 0)),
  (65472,fun S T H=>F.f43_l4 (sy c) Q (S 1) (T 0) (T 1) (T 4) (T 12) (T 13) H (S 0)),
  (4092,fun S T H=>F.f43_l3 (sy c) Q (T 0) (T 1) (T 4) (T 12) (T 13) H (S 0)),
  (124,fun S T H=>F.f43_l2 (sy c) Q (T 0) (T 1) (T 4) (T 12) (T 13) H (S 0)),
  (60,fun S T H=>F.f43_l1 (sy c) Q (T 0) (T 1) (T 4) (T 12) (T 13) H (S 0))]

def kp.f3:Keep:={ keep:=fun n=>[[0],[0]].getD n [],order:=fun n=>[].getD n [] }

def kp.f47:Keep:={ keep:=fun n=>[[0,1,2,3,4],[0,2,3,4,10],[0,2,4,10,11],[0,2,4,10,11],[0,2,4,10,11],[0,2,4,10,11],[0,2,4,10,11],[0,2,4,10,11],[0,2,4,10]].getD n [],order:=fun n=>[].getD n [] }
def pl.f47 (Q:VK) (c:CallT):Plan:=[
  (28,fun S T H=>F.f47_l1 (sy c) Q (T 0) (T 2) (T 4) (T 10) (T 11) H (S 0))]

def kp.f29:Keep:={ keep:=fun n=>[[0,1],[0,3],[0,3,7,8],[0,3,7,8],[0,3,5,7,8],[5],[0,3,7,8],[]].getD n [],order:=fun n=>[[],[],[],[],[(0,0),(1,0),(2,0),(3,6),(4,14),(5,31)]].getD n [] }
def pl.f29 (Q:VK) (c:CallT):Plan:=[
  (26,fun S T H=>F.f29_l1 (sy c) Q (T 0) (T 3) (T 7) (T 8) H (S 0))]

def kp.f48:Keep:={ keep:=fun n=>[[0,1,2,3,4],[0,2,3,4,10],[0,2,3,4,10,11],[0,2,3,4,10,11],[0,2,3,4,10,11],[0,2,3,4,10,11],[0,2,3,4,10,11],[0,2,3,4,11]].getD n [],order:=fun n=>[[],[],[],[(0,0),(1,1),(2,0),(3,7),(4,15),(5,31),(6,31),(7,31),(8,31),(9,415),(10,991),(11,2015),(12,31),(13,31),(14,31),(15,24607),(16,57375),(17,127007),(18,258079),(19,524287),(20,1048575),(21,2097151)],[],[(0,0),(1,0),(2,0),(3,0),(4,12),(5,30),(6,62),(7,0),(8,0),(9,0),(10,768),(11,1920),(12,3968),(13,8191),(14,16383),(15,32767)],[(0,0),(1,0),(2,0),(3,6),(4,0),(5,0),(6,0),(7,96),(8,0),(9,0),(10,0),(11,1536),(12,3840),(13,7936),(14,0),(15,0),(16,0),(17,98304),(18,245760),(19,507904),(20,1048335),(21,2096911),(22,4194303),(23,8388607)]].getD n [] }
def pl.f48 (Q:VK) (c:CallT):Plan:=[
  (199,fun S T H=>F.f48_j1 (sy c) Q (S 0) (T 0) (T 2) (T 3) (T 4) (T 10) (T 11) H),
  (6,fun S T H=>F.f48_l1 (sy c) Q (T 0) (T 2) (T 3) (T 4) (T 10) H (S 0))]

def kp.f40:Keep:={ keep:=fun n=>[[0],[0]].getD n [],order:=fun n=>[].getD n [] }

def kp.f52:Keep:={ keep:=fun n=>[[0],[0],[0],[0],[0]].getD n [],order:=fun n=>[[],[(0,0),(1,1),(2,3),(3,0),(4,8),(5,24),(6,56),(7,127),(8,255),(9,511)],[(0,0),(1,1),(2,3),(3,0),(4,8),(5,24),(6,56),(7,127),(8,255),(9,511)],[(0,0),(1,1),(2,3),(3,0),(4,8),(5,24),(6,56),(7,127),(8,255),(9,511)]].getD n [] }

def kp.f38:Keep:={ keep:=fun n=>[[0,1,2,3],[0,1,2,3]].getD n [],order:=fun n=>[].getD n [] }

def kp.f39:Keep:={ keep:=fun n=>[[0,1,2,3,4,5],[0,1,2,3,4,5],[0,1,2,3,4,5],[0,1,2,4,5],[2]].getD n [],order:=fun n=>[].getD n [] }

def kp.f50:Keep:={ keep:=fun n=>[[0,1,2,3],[0,1,2,3,10],[0,1,2,3,10],[0,1,2,3,10]].getD n [],order:=fun n=>[[],[],[],[(0,0),(1,0),(2,0),(3,6),(4,0),(5,0),(6,0),(7,96),(8,0),(9,0),(10,0),(11,1536),(12,3840),(13,7936),(14,0),(15,0),(16,0),(17,98304),(18,245760),(19,507904),(20,1048335),(21,2096911),(22,4194303),(23,8388607)]].getD n [] }
def pl.f50 (Q:VK) (c:CallT):Plan:=[
  (6,fun S T H=>F.f50_l1 (sy c) Q (T 0) (T 1) (T 2) (T 3) (T 10) H (S 0))]

def kp.f41:Keep:={ keep:=fun n=>[[0,1,2,3,4],[0,1,2,3,4],[1,2,3],[1,2],[1,2]].getD n [],order:=fun n=>[[],[(0,0),(1,0),(2,0),(3,6),(4,14),(5,0),(6,0),(7,96),(8,224),(9,511),(10,1023)]].getD n [] }

def kpL:List (Nat×Keep):=[(4,kp.f24),(6,kp.f23),(7,kp.f19),(8,kp.f20),(9,kp.f4),(13,kp.f7),(17,kp.f25),(18,kp.f16),(19,kp.f17),(20,kp.f21),(21,kp.f18),(22,kp.f32),(23,kp.f5),(26,kp.f9),(27,kp.f31),(28,kp.f6),(36,kp.f27),(37,kp.f22),(38,kp.f49),(25,kp.f11),(24,kp.f0),(42,kp.f12),(43,kp.f10),(45,kp.f13),(44,kp.f45),(29,kp.f1),(48,kp.f37),(49,kp.f51),(41,kp.f26),(40,kp.f30),(39,kp.f2),(50,kp.f8),(51,kp.f28),(61,kp.f15),(52,kp.f36),(53,kp.f35),(54,kp.f33),(55,kp.f34),(56,kp.f46),(57,kp.f42),(58,kp.f44),(59,kp.f43),(46,kp.f3),(62,kp.f47),(63,kp.f29),(64,kp.f48),(65,kp.f40),(66,kp.f52),(67,kp.f38),(68,kp.f39),(69,kp.f50),(70,kp.f41)]
def kps (f:FuncId):Keep:=((kpL.find? (fun p=>p.1 == f)).map (fun p=>p.2)).getD { keep:=fun _=>[],order:=fun _=>[] }
def ext:CallT:=fun f args H K=>False
theorem extOk:CallOk Try.prog ext:=by
  rintro f args H K (h)
  · exact h.elim
abbrev W:CallT:=CallW Try.prog kps ext
theorem mkF {i:Nat} {fn:Func} {kp:Keep} {code:Code} {args:List Value} {H:AH} {Q:VK} (pl:CallT->Plan) {G:CallT->Prop} (hfn:Try.prog.funcs[i]? = some fn)
    (h1 : (fn.body.isNone, (fn.name == "runtime.NumGoroutine"), codeOk Try.prog fn.ntmps (bodyOf fn), fn.body, kps i) = (false, false, true, some code, kp))
    (h2:∀ c,(obls Try.prog c kp (pl c) code 1 (fun _=>bodyK Try.prog fn.results.toList Q)).map (·.1)=(obls Try.prog c kp (pl c) code 1 (fun _=>bodyK Try.prog fn.results.toList Q)).map (·.2))
    (h3:∀ c,G c=evD Try.prog c kp (pl c) code nostk 1 (argEnv args) H (bodyK Try.prog fn.results.toList Q)) (h:G W):W i args H Q:=by
  simp only [Prod.mk.injEq] at h1
  obtain ⟨a,b,c,d,e⟩:=h1
  refine CallW.fold ⟨hfn,a,b,c⟩ ?_
  rw [e]
  exact evBody_of (pl:=pl W) fn args H Q code d (h2 W) (h3 W) h
theorem fold_f24 (x0 x1:Value) (H:AH) (Q:VK):F.f24 (sy W) x0 x1 H Q->W 4 [x0,x1] H Q :=
  mkF (kp:=kp.f24) (code:=bodyOf Try.f4) (pl.f24 Q) (G:=fun c=>F.f24 (sy c) x0 x1 H Q) Try.func4 (by kernel_rfl) (fun c=>by kernel_rfl) (fun c=>by kernel_rfl)
theorem fold_f23 (H:AH) (Q:VK):F.f23 (sy W) H Q->W 6 [] H Q :=
  mkF (kp:=kp.f23) (code:=bodyOf Try.f6) (fun _=>[]) (G:=fun c=>F.f23 (sy c) H Q) Try.func6 (by kernel_rfl) (fun c=>by kernel_rfl) (fun c=>by kernel_rfl)
theorem fold_f19 (x0:Value) (H:AH) (Q:VK):F.f19 (sy W) x0 H Q->W 7 [x0] H Q :=
  mkF (kp:=kp.f19) (code:=bodyOf Try.f7) (pl.f19 Q) (G:=fun c=>F.f19 (sy c) x0 H Q) Try.func7 (by kernel_rfl) (fun c=>by kernel_rfl) (fun c=>by kernel_rfl)
theorem fold_f20 (x0:Value) (H:AH) (Q:VK):F.f20 (sy W) x0 H Q->W 8 [x0] H Q :=
  mkF (kp:=kp.f20) (code:=bodyOf Try.f8) (pl.f20 Q) (G:=fun c=>F.f20 (sy c) x0 H Q) Try.func8 (by kernel_rfl) (fun c=>by kernel_rfl) (fun c=>by kernel_rfl)
theorem fold_f4 (x0:Value) (H:AH) (Q:VK):F.f4 (sy W) x0 H Q->W 9 [x0] H Q :=
  mkF (kp:=kp.f4) (code:=bodyOf Try.f9) (pl.f4 Q) (G:=fun c=>F.f4 (sy c) x0 H Q) Try.func9 (by kernel_rfl) (fun c=>by kernel_rfl) (fun c=>by kernel_rfl)
theorem fold_f7 (x0:Value) (H:AH) (Q:VK):F.f7 (sy W) x0 H Q->W 13 [x0] H Q :=
  mkF (kp:=kp.f7) (code:=bodyOf Try.f13) (pl.f7 Q) (G:=fun c=>F.f7 (sy c) x0 H Q) Try.func13 (by kernel_rfl) (fun c=>by kernel_rfl) (fun c=>by kernel_rfl)
theorem fold_f25 (H:AH) (Q:VK):F.f25 (sy W) H Q->W 17 [] H Q :=
  mkF (kp:=kp.f25) (code:=bodyOf Try.f17) (fun _=>[]) (G:=fun c=>F.f25 (sy c) H Q) Try.func17 (by kernel_rfl) (fun c=>by kernel_rfl) (fun c=>by kernel_rfl)
theorem fold_f16 (x0 x1:Value) (H:AH) (Q:VK):F.f16 (sy W) x0 x1 H Q->W 18 [x0,x1] H Q :=
  mkF (kp:=kp.f16) (code:=bodyOf Try.f18) (fun _=>[]) (G:=fun c=>F.f16 (sy c) x0 x1 H Q) Try.func18 (by kernel_rfl) (fun c=>by kernel_rfl) (fun c=>by kernel_rfl)
theorem fold_f17 (x0:Value) (H:AH) (Q:VK):F.f17 (sy W) x0 H Q->W 19 [x0] H Q :=
  mkF (kp:=kp.f17) (code:=bodyOf Try.f19) (fun _=>[]) (G:=fun c=>F.f17 (sy c) x0 H Q) Try.func19 (by kernel_rfl) (fun c=>by kernel_rfl) (fun c=>by kernel_rfl)
theorem fold_f21 (x0 x1 x2 x3:Value) (H:AH) (Q:VK):F.f21 (sy W) x0 x1 x2 x3 H Q->W 20 [x0,x1,x2,x3] H Q :=
  mkF (kp:=kp.f21) (code:=bodyOf Try.f20) (fun _=>[]) (G:=fun c=>F.f21 (sy c) x0 x1 x2 x3 H Q) Try.func20 (by kernel_rfl) (fun c=>by kernel_rfl) (fun c=>by kernel_rfl)
theorem fold_f18 (H:AH) (Q:VK):F.f18 (sy W) H Q->W 21 [] H Q :=
  mkF (kp:=kp.f18) (code:=bodyOf Try.f21) (fun _=>[]) (G:=fun c=>F.f18 (sy c) H Q) Try.func21 (by kernel_rfl) (fun c=>by kernel_rfl) (fun c=>by kernel_rfl)
theorem fold_f32 (x0 x1:Value) (H:AH) (Q:VK):F.f32 (sy W) x0 x1 H Q->W 22 [x0,x1] H Q :=
  mkF (kp:=kp.f32) (code:=bodyOf Try.f22) (fun _=>[]) (G:=fun c=>F.f32 (sy c) x0 x1 H Q) Try.func22 (by kernel_rfl) (fun c=>by kernel_rfl) (fun c=>by kernel_rfl)
theorem fold_f5 (x0 x1:Value) (H:AH) (Q:VK):F.f5 (sy W) x0 x1 H Q->W 23 [x0,x1] H Q :=
  mkF (kp:=kp.f5) (code:=bodyOf Try.f23) (fun _=>[]) (G:=fun c=>F.f5 (sy c) x0 x1 H Q) Try.func23 (by kernel_rfl) (fun c=>by kernel_rfl) (fun c=>by kernel_rfl)
theorem fold_f9 (x0:Value) (H:AH) (Q:VK):F.f9 (sy W) x0 H Q->W 26 [x0] H Q :=
  mkF (kp:=kp.f9) (code:=bodyOf Try.f26) (pl.f9 Q) (G:=fun c=>F.f9 (sy c) x0 H Q) Try.func26 (by kernel_rfl) (fun c=>by kernel_rfl) (fun c=>by kernel_rfl)
theorem fold_f31 (x0 x1:Value) (H:AH) (Q:VK):F.f31 (sy W) x0 x1 H Q->W 27 [x0,x1] H Q :=
  mkF (kp:=kp.f31) (code:=bodyOf Try.f27) (fun _=>[]) (G:=fun c=>F.f31 (sy c) x0 x1 H Q) Try.func27 (by kernel_rfl) (fun c=>by kernel_rfl) (fun c=>by kernel_rfl)
theorem fold_f6 (x0 x1:Value) (H:AH) (Q:VK):F.f6 (sy W) x0 x1 H Q->W 28 [x0,x1] H Q :=
  mkF (kp:=kp.f6) (code:=bodyOf Try.f28) (fun _=>[]) (G:=fun c=>F.f6 (sy c) x0 x1 H Q) Try.func28 (by kernel_rfl) (fun c=>by kernel_rfl) (fun c=>by kernel_rfl)
theorem fold_f27 (x0:Value) (H:AH) (Q:VK):F.f27 (sy W) x0 H Q->W 36 [x0] H Q :=
  mkF (kp:=kp.f27) (code:=bodyOf Try.f36) (fun _=>[]) (G:=fun c=>F.f27 (sy c) x0 H Q) Try.func36 (by kernel_rfl) (fun c=>by kernel_rfl) (fun c=>by kernel_rfl)
theorem fold_f22 (H:AH) (Q:VK):F.f22 (sy W) H Q->W 37 [] H Q :=
  mkF (kp:=kp.f22) (code:=bodyOf Try.f37) (fun _=>[]) (G:=fun c=>F.f22 (sy c) H Q) Try.func37 (by kernel_rfl) (fun c=>by kernel_rfl) (fun c=>by kernel_rfl)
theorem fold_f49 (x0 x1 x2:Value) (H:AH) (Q:VK):F.f49 (sy W) x0 x1 x2 H Q->W 38 [x0,x1,x2] H Q :=
  mkF (kp:=kp.f49) (code:=bodyOf Try.f38) (pl.f49 Q) (G:=fun c=>F.f49 (sy c) x0 x1 x2 H Q) Try.func38 (by kernel_rfl) (fun c=>by kernel_rfl) (fun c=>by kernel_rfl)
theorem fold_f11 (x0:Value) (H:AH) (Q:VK):F.f11 (sy W) x0 H Q->W 25 [x0] H Q :=
  mkF (kp:=kp.f11) (code:=bodyOf Try.f25) (fun _=>[]) (G:=fun c=>F.f11 (sy c) x0 H Q) Try.func25 (by kernel_rfl) (fun c=>by kernel_rfl) (fun c=>by kernel_rfl)
theorem fold_f0 (x0 x1:Value) (H:AH) (Q:VK):F.f0 (sy W) x0 x1 H Q->W 24 [x0,x1] H Q :=
  mkF (kp:=kp.f0) (code:=bodyOf Try.f24) (fun _=>[]) (G:=fun c=>F.f0 (sy c) x0 x1 H Q) Try.func24 (by kernel_rfl) (fun c=>by kernel_rfl) (fun c=>by kernel_rfl)
theorem fold_f12 (x0:Value) (H:AH) (Q:VK):F.f12 (sy W) x0 H Q->W 42 [x0] H Q :=
  mkF (kp:=kp.f12) (code:=bodyOf Try.f42) (pl.f12 Q) (G:=fun c=>F.f12 (sy c) x0 H Q) Try.func42 (by kernel_rfl) (fun c=>by kernel_rfl) (fun c=>by kernel_rfl)
theorem fold_f10 (x0:Value) (H:AH) (Q:VK):F.f10 (sy W) x0 H Q->W 43 [x0] H Q :=
  mkF (kp:=kp.f10) (code:=bodyOf Try.f43) (pl.f10 Q) (G:=fun c=>F.f10 (sy c) x0 H Q) Try.func43 (by kernel_rfl) (fun c=>by kernel_rfl) (fun c=>by kernel_rfl)
theorem fold_f13 (x0:Value) (H:AH) (Q:VK):F.f13 (sy W) x0 H Q->W 45 [x0] H Q :=
  mkF (kp:=kp.f13) (code:=bodyOf Try.f45) (fun _=>[]) (G:=fun c=>F.f13 (sy c) x0 H Q) Try.func45 (by kernel_rfl) (fun c=>by kernel_rfl) (fun c=>by kernel_rfl)
theorem fold_f45 (x0 x1 x2 x3 x4:Value) (H:AH) (Q:VK):F.f45 (sy W) x0 x1 x2 x3 x4 H Q->W 44 [x0,x1,x2,x3,x4] H Q :=
  mkF (kp:=kp.f45) (code:=bodyOf Try.f44) (pl.f45 Q) (G:=fun c=>F.f45 (sy c) x0 x1 x2 x3 x4 H Q) Try.func44 (by kernel_rfl) (fun c=>by kernel_rfl) (fun c=>by kernel_rfl)
theorem fold_f1 (x0 x1:Value) (H:AH) (Q:VK):F.f1 (sy W) x0 x1 H Q->W 29 [x0,x1] H Q :=
  mkF (kp:=kp.f1) (code:=bodyOf Try.f29) (fun _=>[]) (G:=fun c=>F.f1 (sy c) x0 x1 H Q) Try.func29 (by kernel_rfl) (fun c=>by kernel_rfl) (fun c=>by kernel_rfl)
theorem fold_f37 (x0 x1 x2 x3:Value) (H:AH) (Q:VK):F.f37 (sy W) x0 x1 x2 x3 H Q->W 48 [x0,x1,x2,x3] H Q :=
  mkF (kp:=kp.f37) (code:=bodyOf Try.f48) (pl.f37 Q) (G:=fun c=>F.f37 (sy c) x0 x1 x2 x3 H Q) Try.func48 (by kernel_rfl) (fun c=>by kernel_rfl) (fun c=>by kernel_rfl)
theorem fold_f51 (x0 x1 x2 x3 x4:Value) (H:AH) (Q:VK):F.f51 (sy W) x0 x1 x2 x3 x4 H Q->W 49 [x0,x1,x2,x3,x4] H Q :=
  mkF (kp:=kp.f51) (code:=bodyOf Try.f49) (pl.f51 Q) (G:=fun c=>F.f51 (sy c) x0 x1 x2 x3 x4 H Q) Try.func49 (by kernel_rfl) (fun c=>by kernel_rfl) (fun c=>by kernel_rfl)
theorem fold_f26 (x0:Value) (H:AH) (Q:VK):F.f26 (sy W) x0 H Q->W 41 [x0] H Q :=
  mkF (kp:=kp.f26) (code:=bodyOf Try.f41) (pl.f26 Q) (G:=fun c=>F.f26 (sy c) x0 H Q) Try.func41 (by kernel_rfl) (fun c=>by kernel_rfl) (fun c=>by kernel_rfl)
theorem fold_f30 (x0 x1:Value) (H:AH) (Q:VK):F.f30 (sy W) x0 x1 H Q->W 40 [x0,x1] H Q :=
  mkF (kp:=kp.f30) (code:=bodyOf Try.f40) (pl.f30 Q) (G:=fun c=>F.f30 (sy c) x0 x1 H Q) Try.func40 (by kernel_rfl) (fun c=>by kernel_rfl) (fun c=>by kernel_rfl)
theorem fold_f2 (x0:Value) (H:AH) (Q:VK):F.f2 (sy W) x0 H Q->W 39 [x0] H Q :=
  mkF (kp:=kp.f2) (code:=bodyOf Try.f39) (fun _=>[]) (G:=fun c=>F.f2 (sy c) x0 H Q) Try.func39 (by kernel_rfl) (fun c=>by kernel_rfl) (fun c=>by kernel_rfl)
theorem fold_f8 (x0:Value) (H:AH) (Q:VK):F.f8 (sy W) x0 H Q->W 50 [x0] H Q :=
  mkF (kp:=kp.f8) (code:=bodyOf Try.f50) (fun _=>[]) (G:=fun c=>F.f8 (sy c) x0 H Q) Try.func50 (by kernel_rfl) (fun c=>by kernel_rfl) (fun c=>by kernel_rfl)
theorem fold_f28 (x0 x1:Value) (H:AH) (Q:VK):F.f28 (sy W) x0 x1 H Q->W 51 [x0,x1] H Q :=
  mkF (kp:=kp.f28) (code:=bodyOf Try.f51) (fun _=>[]) (G:=fun c=>F.f28 (sy c) x0 x1 H Q) Try.func51 (by kernel_rfl) (fun c=>by kernel_rfl) (fun c=>by kernel_rfl)
theorem fold_f15 (x0:Value) (H:AH) (Q:VK):F.f15 (sy W) x0 H Q->W 61 [x0] H Q :=
  mkF (kp:=kp.f15) (code:=bodyOf Try.f61) (pl.f15 Q) (G:=fun c=>F.f15 (sy c) x0 H Q) Try.func61 (by kernel_rfl) (fun c=>by kernel_rfl) (fun c=>by kernel_rfl)
theorem fold_f36 (x0 x1 x2 x3:Value) (H:AH) (Q:VK):F.f36 (sy W) x0 x1 x2 x3 H Q->W 52 [x0,x1,x2,x3] H Q :=
  mkF (kp:=kp.f36) (code:=bodyOf Try.f52) (pl.f36 Q) (G:=fun c=>F.f36 (sy c) x0 x1 x2 x3 H Q) Try.func52 (by kernel_rfl) (fun c=>by kernel_rfl) (fun c=>by kernel_rfl)
theorem fold_f35 (x0 x1 x2 x3:Value) (H:AH) (Q:VK):F.f35 (sy W) x0 x1 x2 x3 H Q->W 53 [x0,x1,x2,x3] H Q :=
  mkF (kp:=kp.f35) (code:=bodyOf Try.f53) (pl.f35 Q) (G:=fun c=>F.f35 (sy c) x0 x1 x2 x3 H Q) Try.func53 (by kernel_rfl) (fun c=>by kernel_rfl) (fun c=>by kernel_rfl)
theorem fold_f33 (x0 x1 x2 x3:Value) (H:AH) (Q:VK):F.f33 (sy W) x0 x1 x2 x3 H Q->W 54 [x0,x1,x2,x3] H Q :=
  mkF (kp:=kp.f33) (code:=bodyOf Try.f54) (pl.f33 Q) (G:=fun c=>F.f33 (sy c) x0 x1 x2 x3 H Q) Try.func54 (by kernel_rfl) (fun c=>by kernel_rfl) (fun c=>by kernel_rfl)
theorem fold_f34 (x0 x1 x2 x3:Value) (H:AH) (Q:VK):F.f34 (sy W) x0 x1 x2 x3 H Q->W 55 [x0,x1,x2,x3] H Q :=
  mkF (kp:=kp.f34) (code:=bodyOf Try.f55) (pl.f34 Q) (G:=fun c=>F.f34 (sy c) x0 x1 x2 x3 H Q) Try.func55 (by kernel_rfl) (fun c=>by kernel_rfl) (fun c=>by kernel_rfl)
theorem fold_f46 (x0 x1 x2 x3:Value) (H:AH) (Q:VK):F.f46 (sy W) x0 x1 x2 x3 H Q->W 56 [x0,x1,x2,x3] H Q :=
  mkF (kp:=kp.f46) (code:=bodyOf Try.f56) (pl.f46 Q) (G:=fun c=>F.f46 (sy c) x0 x1 x2 x3 H Q) Try.func56 (by kernel_rfl) (fun c=>by kernel_rfl) (fun c=>by kernel_rfl)
theorem fold_f42 (x0 x1 x2 x3:Value) (H:AH) (Q:VK):F.f42 (sy W) x0 x1 x2 x3 H Q->W 57 [x0,x1,x2,x3] H Q :=
  mkF (kp:=kp.f42) (code:=bodyOf Try.f57) (pl.f42 Q) (G:=fun c=>F.f42 (sy c) x0 x1 x2 x3 H Q) Try.func57 (by kernel_rfl) (fun c=>by kernel_rfl) (fun c=>by kernel_rfl)
theorem fold_f44 (x0 x1 x2 x3 x4:Value) (H:AH) (Q:VK):F.f44 (sy W) x0 x1 x2 x3 x4 H Q->W 58 [x0,x1,x2,x3,x4] H Q :=
  mkF (kp:=kp.f44) (code:=bodyOf Try.f58) (pl.f44 Q) (G:=fun c=>F.f44 (sy c) x0 x1 x2 x3 x4 H Q) Try.func58 (by kernel_rfl) (fun c=>by kernel_rfl) (fun c=>by kernel_rfl)
theorem fold_f43 (x0 x1 x2 x3 x4:Value) (H:AH) (Q:VK):F.f43 (sy W) x0 x1 x2 x3 x4 H Q->W 59 [x0,x1,x2,x3,x4] H Q :=
  mkF (kp:=kp.f43) (code:=bodyOf Try.f59) (pl.f43 Q) (G:=fun c=>F.f43 (sy c) x0 x1 x2 x3 x4 H Q) Try.func59 (by kernel_rfl) (fun c=>by kernel_rfl) (fun c=>by kernel_rfl)
theorem fold_f3 (x0:Value) (H:AH) (Q:VK):F.f3 (sy W) x0 H Q->W 46 [x0] H Q :=
  mkF (kp:=kp.f3) (code:=bodyOf Try.f46) (fun _=>[]) (G:=fun c=>F.f3 (sy c) x0 H Q) Try.func46 (by kernel_rfl) (fun c=>by kernel_rfl) (fun c=>by kernel_rfl)
theorem fold_f47 (x0 x1 x2 x3 x4:Value) (H:AH) (Q:VK):F.f47 (sy W) x0 x1 x2 x3 x4 H Q->W 62 [x0,x1,x2,x3,x4] H Q :=
  mkF (kp:=kp.f47) (code:=bodyOf Try.f62) (pl.f47 Q) (G:=fun c=>F.f47 (sy c) x0 x1 x2 x3 x4 H Q) Try.func62 (by kernel_rfl) (fun c=>by kernel_rfl) (fun c=>by kernel_rfl)
theorem fold_f29 (x0 x1:Value) (H:AH) (Q:VK):F.f29 (sy W) x0 x1 H Q->W 63 [x0,x1] H Q :=
  mkF (kp:=kp.f29) (code:=bodyOf Try.f63) (pl.f29 Q) (G:=fun c=>F.f29 (sy c) x0 x1 H Q) Try.func63 (by kernel_rfl) (fun c=>by kernel_rfl) (fun c=>by kernel_rfl)
theorem fold_f48 (x0 x1 x2 x3 x4:Value) (H:AH) (Q:VK):F.f48 (sy W) x0 x1 x2 x3 x4 H Q->W 64 [x0,x1,x2,x3,x4] H Q :=
  mkF (kp:=kp.f48) (code:=bodyOf Try.f64) (pl.f48 Q) (G:=fun c=>F.f48 (sy c) x0 x1 x2 x3 x4 H Q) Try.func64 (by kernel_rfl) (fun c=>by kernel_rfl) (fun c=>by kernel_rfl)
theorem fold_f40 (x0:Value) (H:AH) (Q:VK):F.f40 (sy W) x0 H Q->W 65 [x0] H Q :=
  mkF (kp:=kp.f40) (code:=bodyOf Try.f65) (fun _=>[]) (G:=fun c=>F.f40 (sy c) x0 H Q) Try.func65 (by kernel_rfl) (fun c=>by kernel_rfl) (fun c=>by kernel_rfl)
theorem fold_f52 (x0:Value) (H:AH) (Q:VK):F.f52 (sy W) x0 H Q->W 66 [x0] H Q :=
  mkF (kp:=kp.f52) (code:=bodyOf Try.f66) (fun _=>[]) (G:=fun c=>F.f52 (sy c) x0 H Q) Try.func66 (by kernel_rfl) (fun c=>by kernel_rfl) (fun c=>by kernel_rfl)
theorem fold_f38 (x0 x1 x2 x3:Value) (H:AH) (Q:VK):F.f38 (sy W) x0 x1 x2 x3 H Q->W 67 [x0,x1,x2,x3] H Q :=
  mkF (kp:=kp.f38) (code:=bodyOf Try.f67) (fun _=>[]) (G:=fun c=>F.f38 (sy c) x0 x1 x2 x3 H Q) Try.func67 (by kernel_rfl) (fun c=>by kernel_rfl) (fun c=>by kernel_rfl)
theorem fold_f39 (x0 x1 x2 x3 x4 x5:Value) (H:AH) (Q:VK):F.f39 (sy W) x0 x1 x2 x3 x4 x5 H Q->W 68 [x0,x1,x2,x3,x4,x5] H Q :=
  mkF (kp:=kp.f39) (code:=bodyOf Try.f68) (fun _=>[]) (G:=fun c=>F.f39 (sy c) x0 x1 x2 x3 x4 x5 H Q) Try.func68 (by kernel_rfl) (fun c=>by kernel_rfl) (fun c=>by kernel_rfl)
theorem fold_f50 (x0 x1 x2 x3 x4:Value) (H:AH) (Q:VK):F.f50 (sy W) x0 x1 x2 x3 x4 H Q->W 69 [x0,x1,x2,x3,x4] H Q :=
  mkF (kp:=kp.f50) (code:=bodyOf Try.f69) (pl.f50 Q) (G:=fun c=>F.f50 (sy c) x0 x1 x2 x3 x4 H Q) Try.func69 (by kernel_rfl) (fun c=>by kernel_rfl) (fun c=>by kernel_rfl)
theorem fold_f41 (x0 x1 x2 x3 x4:Value) (H:AH) (Q:VK):F.f41 (sy W) x0 x1 x2 x3 x4 H Q->W 70 [x0,x1,x2,x3,x4] H Q :=
  mkF (kp:=kp.f41) (code:=bodyOf Try.f70) (fun _=>[]) (G:=fun c=>F.f41 (sy c) x0 x1 x2 x3 x4 H Q) Try.func70 (by kernel_rfl) (fun c=>by kernel_rfl) (fun c=>by kernel_rfl)
theorem fold:Go.AM.Fold (sy W) where
  mono:=CallW.mono
  f24:=fold_f24
  f23:=fold_f23
  f19:=fold_f19
  f20:=fold_f20
  f4:=fold_f4
  f7:=fold_f7
  f25:=fold_f25
  f16:=fold_f16
  f17:=fold_f17
  f21:=fold_f21
  f18:=fold_f18
  f32:=fold_f32
  f5:=fold_f5
  f9:=fold_f9
  f31:=fold_f31
  f6:=fold_f6
  f27:=fold_f27
  f22:=fold_f22
  f49:=fold_f49
  f11:=fold_f11
  f0:=fold_f0
  f12:=fold_f12
  f10:=fold_f10
  f13:=fold_f13
  f45:=fold_f45
  f1:=fold_f1
  f37:=fold_f37
  f51:=fold_f51
  f26:=fold_f26
  f30:=fold_f30
  f2:=fold_f2
  f8:=fold_f8
  f28:=fold_f28
  f15:=fold_f15
  f36:=fold_f36
  f35:=fold_f35
  f33:=fold_f33
  f34:=fold_f34
  f46:=fold_f46
  f42:=fold_f42
  f44:=fold_f44
  f43:=fold_f43
  f3:=fold_f3
  f47:=fold_f47
  f29:=fold_f29
  f48:=fold_f48
  f40:=fold_f40
  f52:=fold_f52
  f38:=fold_f38
  f39:=fold_f39
  f50:=fold_f50
  f41:=fold_f41
end Go.Proofs.Ytcodjlonfgiegaa
