/- THE FUNCTIONS, HELD AGAINST THE PROGRAM: written by program (gen2.py). -/
import Derived.Test.YtgeenpollgalkaaDoorDf8a8F
import Derived.Test.YtgeenpollgalkaaDoorProg
import Derived.KernelRfl
set_option linter.all false
set_option maxRecDepth 100000
set_option maxHeartbeats 4000000
namespace Go.Proofs.YtgeenpollgalkaaDoor
open Go.AM
attribute [local irreducible] evD obls
def fidL:List Nat:=[0,0,0,0,0,0,0,0,0,0,0,0,59,141,0,0,0,0,0,0,0,0,0,0,0,0,0,0,0,0,0,0,0,0,0,0,0,0,0,0,0,0,0,9,0,0,0,0,0,0,0,0,0,0,36,0,0,0,0,0,34,35,37,38,0,60,0,0,31,71,83,47,51,0,0,0,10,0,0,0,0,0,42,0,69,0,0,0,87,84,70,75,0,64,0,0,65,86,0,0,30,41,0,43,32,27,0,45,44,0,0,0,49,0,0,0,50,0,0,0,0,40,0,48,144,0,0,0,0,0,62,63,55,66,61,67,0,0,0,74,73,0,0,0,0,0,0,0,148,0,0,0,0,0,80,85,0,89,0,90,0,72,88,0,101,102,0,0,0,0,0,0,0,0,0,92,93,95,98,99,100,97,96,94,0,105,106,0,0,0,104,108,107,109,0,113,0,28,7,8,0,3,6,11,12,13,14,0,0,0,81,56,82,57,0,0,0,0,26,4,15,16,17,18,19,20,21,22,23,24,5,25,33,29,0,0,52,53,54,46,39,58,0,0,76,68,77,78,79,0,0,0,91,0,103,0,110,112,111,0,0,114,115,116,117,118,119,120,121,122,123,124]
def tidL:List Nat:=[9]
def gidL:List Nat:=[0,1,2]
def sy (c:CallT):Sy:={ call:=c,fid:=fun n=>fidL.getD n 0,tid:=fun n=>tidL.getD n 0,gid:=fun n=>gidL.getD n 0 }
def kp.f38:Keep:={ keep:=fun n=>[[0,1],[0,1],[],[0,1],[0,1,5],[0,1,5,6],[0,1,5,6,7],[0,1,5,6,7],[1,5,6,7,33,34],[1,5,6,7,33,34],[1,5,6,7,8,33,34],[1,5,6,7,8,9,33,34],[1,5,6,7,8,11,12,33,34],[],[1,5,6,7,11,12,33,34],[1,5,6,11,33,34],[1,5,6,7,33,34],[1,5,6,7,33,34],[1,6,7],[1,6,7,78,79,80],[1,6,7,78,79,80],[1,6,7,13,14,78,79,80],[],[1,6,7,13,14,78,79,80],[1,6,7,13,14,78,79,80,96,97,98],[1,6,7,13,14,78,79,80,96,97,98],[1,6,7,13,14,15,16,78,79,80,96,97,98],[],[1,6,7,13,14,78,79,80,96,97,98],[1,6,7,78,79,80],[1,6,7],[6,7,17],[6,7,17,18],[6,7,17,18,123,124],[6,7,17,18,123,124],[6,7,17,18,19,123,124],[6,7,17,18,123,124],[6,7,17],[7,135,136,137],[7,135,136,137],[7,21,135,136,137],[],[7,135,136,137],[7],[23]].getD n [],order:=fun n=>[].getD n [] }
def pl.f38 (Q:VK) (c:CallT):Plan:=[
  (1045710,fun S T H=>F.f38_l3 (sy c) Q (S 1) (T 1) (T 6) (T 7) (T 13) (T 14) (T 78) (T 79) (T 80) (T 96) (T 97) (T 98) H (S 0)),
  (32762,fun S T H=>F.f38_l5 (sy c) Q (T 7) (T 135) (T 136) (T 137) H (S 0)),
  (16378,fun S T H=>F.f38_l4 (sy c) Q (T 6) (T 7) (T 17) (T 18) (T 123) (T 124) H (S 0)),
  (2042,fun S T H=>F.f38_l2 (sy c) Q (T 1) (T 6) (T 7) (T 78) (T 79) (T 80) H (S 0)),
  (1018,fun S T H=>F.f38_l1 (sy c) Q (T 1) (T 5) (T 6) (T 7) (T 33) (T 34) H (S 0))]

def kp.f37:Keep:={ keep:=fun n=>[[],[],[],[],[1],[1,2],[1,2,10,11,12],[1,2,10,11,12],[1,2,4,10,11,12],[1,2,5,10,11,12],[1,2,10,11,12],[1,2]].getD n [],order:=fun n=>[].getD n [] }
def pl.f37 (Q:VK) (c:CallT):Plan:=[
  (250,fun S T H=>F.f37_l1 (sy c) Q (T 1) (T 2) (T 10) (T 11) (T 12) H (S 0))]

def kp.f59:Keep:={ keep:=fun n=>[[0],[0]].getD n [],order:=fun n=>[].getD n [] }

def kp.f33:Keep:={ keep:=fun n=>[[0],[1,2],[1,2,3],[1,2,3,4],[1,2,3,4,38,39,40],[1,2,3,4,38,39,40],[1,2,3,4,5,6,38,39,40],[1,2,3,4,6,38,39,40],[1,2,3,4,6,7,38,39,40],[1,2,3,4,7,38,39,40,65,66,67],[1,2,3,4,7,38,39,40,65,66,67],[1,2,3,4,7,8,9,38,39,40,65,66,67],[1,2,3,4,7,9,38,39,40,65,66,67],[1,2,3,4,7,38,39,40,65,66,67],[1,2,3,4,7,38,39,40],[1,2,3,4,38,39,40],[1,2,4],[1,2,4,10],[1,2,4,10,11],[1,2,4,10,11,92,93,94],[1,2,4,10,11,92,93,94],[1,2,4,10,11,12,13,92,93,94],[1,2,4,10,11,12,14,92,93,94],[1,2,4,10,11,14,15,92,93,94],[1,2,4,10,11,14,15,92,93,94],[1,2,4,10,11,14,15,92,93,94],[1,2,4,10,11,92,93,94],[1,2,4,11],[1,2,4,11,16],[2,4,11,16,131,132,133],[2,4,11,16,131,132,133],[2,4,11,16,17,18,131,132,133],[2,4,11,16,17,19,131,132,133],[2,4,11,16,19,20,131,132,133],[2,4,11,16,19,20,131,132,133],[2,4,11,16,19,20,131,132,133],[2,4,11,16,131,132,133],[2,4]].getD n [],order:=fun n=>[[],[],[(0,0),(1,0),(2,2),(3,6),(4,15),(5,31),(6,0),(7,64),(8,0),(9,256),(11,0),(12,2048),(13,6144),(15,0),(10,960),(14,16383),(16,65535)],[],[],[],[],[(0,0),(1,0),(2,2),(3,6),(4,0),(5,16),(6,62),(7,127),(8,255),(9,511),(10,1023),(11,0),(12,2048),(13,0),(14,8192),(17,0),(15,30720),(16,65535),(18,262143)],[],[],[],[],[(0,0),(1,1),(2,0),(3,4),(4,12),(5,31),(6,63),(7,127)]].getD n [] }
def pl.f33 (Q:VK) (c:CallT):Plan:=[
  (4090,fun S T H=>F.f33_l2 (sy c) Q (T 2) (T 4) (T 11) (T 16) (T 131) (T 132) (T 133) H (S 0)),
  (1018,fun S T H=>F.f33_l1 (sy c) Q (T 1) (T 2) (T 4) (T 10) (T 11) (T 92) (T 93) (T 94) H (S 0)),
  (31,fun S T H=>F.f33_j1 (sy c) Q (T 1) (T 2) (T 4) H),
  (250682,fun S T H=>F.f33_l4 (sy c) Q (S 1) (T 1) (T 2) (T 3) (T 4) (T 7) (T 38) (T 39) (T 40) (T 65) (T 66) (T 67) H (S 0)),
  (122,fun S T H=>F.f33_l3 (sy c) Q (T 1) (T 2) (T 3) (T 4) (T 38) (T 39) (T 40) H (S 0))]

def kp.f29:Keep:={ keep:=fun n=>[[],[0]].getD n [],order:=fun n=>[].getD n [] }

def kp.f42:Keep:={ keep:=fun n=>[[0,1,2],[1,3,5],[],[1,3,5],[1,3,5,8],[1,3,5,8,25,26,27],[1,3,5,8,25,26,27],[1,3,5,8,10,25,26,27],[1,3,5,8,10,11,12,25,26,27],[12],[1,3,5,8,10,11,25,26,27],[1,3,5,8,10,11,13,25,26,27],[],[1,3,5,8,10,11,25,26,27],[1,3,5,8,25,26,27],[3,8],[8,72,73,74],[8,72,73,74],[8,15,72,73,74],[8,72,73,74],[8]].getD n [],order:=fun n=>[[],[],[],[],[],[],[],[],[],[],[(0,0),(1,1),(2,3),(3,7),(4,0),(5,16),(6,63),(7,127),(8,255),(9,511),(10,1023),(11,2047)],[(0,0),(1,1),(2,0),(4,0),(5,16),(3,7),(6,63)],[],[(0,0),(1,1),(2,3),(3,7),(4,0),(5,16),(6,63),(7,0),(8,128),(9,511),(10,1023)],[],[],[],[],[(0,0),(1,1),(2,3),(3,7),(4,0),(5,16),(6,63),(7,0),(8,128),(9,511),(10,1023)]].getD n [] }
def pl.f42 (Q:VK) (c:CallT):Plan:=[
  (250,fun S T H=>F.f42_l2 (sy c) Q (T 8) (T 72) (T 73) (T 74) H (S 0)),
  (122,fun S T H=>F.f42_l1 (sy c) Q (T 1) (T 3) (T 5) (T 8) (T 25) (T 26) (T 27) H (S 0))]

def kp.f4:Keep:={ keep:=fun n=>[[0,1],[0,1],[],[0,1],[],[0,1]].getD n [],order:=fun n=>[].getD n [] }

def kp.f3:Keep:={ keep:=fun n=>[[0],[0],[],[0]].getD n [],order:=fun n=>[].getD n [] }

def kp.f2:Keep:={ keep:=fun n=>[[0],[0],[],[0]].getD n [],order:=fun n=>[].getD n [] }

def kp.f0:Keep:={ keep:=fun n=>[[0,1],[0,1],[],[0,1],[0,13,14,15],[0,13,14,15],[0,5,6,13,14,15],[],[0,13,14,15],[]].getD n [],order:=fun n=>[].getD n [] }
def pl.f0 (Q:VK) (c:CallT):Plan:=[
  (58,fun S T H=>F.f0_l1 (sy c) Q (T 0) (T 13) (T 14) (T 15) H (S 0))]

def kp.f36:Keep:={ keep:=fun n=>[[],[],[1],[],[1],[1,2],[2,4,5]].getD n [],order:=fun n=>[].getD n [] }

def kp.f1:Keep:={ keep:=fun n=>[[0,1,2,3,4],[0,1,2,3,9],[],[0,1,2,3,9],[0,2,3,11],[0,2,3,11,12],[2,3,11,12,24,25,26],[2,3,11,12,24,25,26],[2,3,11,12,14,24,25,26],[2,3,11,12,24,25,26],[12]].getD n [],order:=fun n=>[].getD n [] }
def pl.f1 (Q:VK) (c:CallT):Plan:=[
  (250,fun S T H=>F.f1_l1 (sy c) Q (T 2) (T 3) (T 11) (T 12) (T 24) (T 25) (T 26) H (S 0))]

def kp.f7:Keep:={ keep:=fun n=>[[0],[0],[3],[3]].getD n [],order:=fun n=>[].getD n [] }

def kp.f22:Keep:={ keep:=fun n=>[[],[]].getD n [],order:=fun n=>[].getD n [] }

def kp.f39:Keep:={ keep:=fun n=>[[],[]].getD n [],order:=fun n=>[].getD n [] }

def kp.f30:Keep:={ keep:=fun n=>[[0,1],[0,1],[1,6],[],[1,6],[1],[6],[],[]].getD n [],order:=fun n=>[].getD n [] }

def kp.f31:Keep:={ keep:=fun n=>[[0],[1,2],[1,2,3],[1,2,3,4],[1,2,3,4],[2,4],[2,4]].getD n [],order:=fun n=>[[],[],[(0,0),(1,1),(2,3),(3,7),(4,0),(5,16),(6,48),(7,112),(8,0),(9,0),(10,512),(11,1536),(12,0),(13,4096),(14,15872),(15,32512),(16,65280),(17,131071),(18,0),(19,524287)]].getD n [] }

def kp.f34:Keep:={ keep:=fun n=>[[0,1,2,3],[0,1,2,3],[1,3],[0,1,2,3]].getD n [],order:=fun n=>[[],[],[],[(0,0),(1,1),(2,0),(3,7),(4,15),(5,0),(6,32),(7,127),(8,0),(9,511),(10,1023)]].getD n [] }

def kp.f32:Keep:={ keep:=fun n=>[[],[]].getD n [],order:=fun n=>[].getD n [] }

def kp.f62:Keep:={ keep:=fun n=>[[0,1,2,3],[0,2,3,5,8],[0,2,3,8,10,11],[8,11],[0,2,3,8,10],[0,3,8,10,12],[0,3,8,10,12],[0,3,8,10,12,13],[8,13],[0,8,10,12],[8],[0,8,10,12],[8],[8,10]].getD n [],order:=fun n=>[[],[],[],[],[],[],[],[],[],[(0,0),(1,1),(2,3),(3,7),(4,0),(5,16),(6,48),(7,127),(8,255)]].getD n [] }
def pl.f62 (Q:VK) (c:CallT):Plan:=[
  (124,fun S T H=>F.f62_l1 (sy c) Q (T 0) (T 3) (T 8) (T 10) (T 12) H (S 0))]

def kp.f8:Keep:={ keep:=fun n=>[[0,1],[0,1],[],[0,1]].getD n [],order:=fun n=>[].getD n [] }

def kp.f41:Keep:={ keep:=fun n=>[[0,1],[0,1],[0],[0]].getD n [],order:=fun n=>[].getD n [] }

def kp.f10:Keep:={ keep:=fun n=>[[0,1,2,3,4],[0,1,2,3,4],[0,1,2,3,4,12,13],[13],[0,1,2,3,4,12],[],[0,1,2,3,4,12],[],[0,1,2,3,4,12],[],[0,1,2,3,4,12],[],[0,1,2,3,4,12],[0,1,2,3,4,12,14],[0,1,2,3,4,12,14],[0,1,2,3,4,12,14],[0,1,2,3,4,12,14,15],[0,1,2,4,12,14,15,80],[0,1,2,12,14,15],[0,2,4,12,14,15,80],[0,2,4,12,14,15],[0,2,12,14,15],[0,2,12,14],[0,14],[14]].getD n [],order:=fun n=>[[],[],[],[],[],[],[],[],[(0,0),(1,1),(2,3),(3,7),(4,15),(5,0),(6,32),(7,96),(8,224),(9,511),(10,1023)]].getD n [] }
def pl.f10 (Q:VK) (c:CallT):Plan:=[
  (255,fun S T H=>F.f10_j1 (sy c) Q (T 0) (T 2) (T 12) (T 14) (T 15) H),
  (124,fun S T H=>F.f10_l1 (sy c) Q (T 0) (T 1) (T 2) (T 3) (T 4) (T 12) (T 14) H (S 0))]

def kp.f43:Keep:={ keep:=fun n=>[[0,1],[0,1],[],[0,1]].getD n [],order:=fun n=>[].getD n [] }

def kp.f44:Keep:={ keep:=fun n=>[[0,1,2,3],[0,1,2,3]].getD n [],order:=fun n=>[].getD n [] }

def kp.f60:Keep:={ keep:=fun n=>[[0,1],[0,3],[],[0,3],[0,3,5],[0,3,5,13],[0,3,5,13],[0,3,5,13],[0,3,5,6,7,13],[0,3,5,6,13],[0,3,5,13],[0,3,5,8,13],[0,3,5,8,13],[0,3,5,13],[5]].getD n [],order:=fun n=>[[],[],[],[],[],[],[],[(0,0),(1,1),(2,3),(3,7),(4,0),(9,0),(5,31),(6,63),(7,127),(8,127),(10,767),(11,2047)],[],[],[(0,0),(1,1),(2,0),(3,4),(4,12),(5,28),(6,0),(7,64),(13,0),(8,252),(9,508),(10,1020),(11,2044),(12,4095),(14,16383)],[(0,0),(1,0),(2,3),(3,7),(4,15),(5,31),(6,63),(7,127),(8,15),(9,271),(10,1023),(11,2047),(12,4095)]].getD n [] }
def pl.f60 (Q:VK) (c:CallT):Plan:=[
  (122,fun S T H=>F.f60_l1 (sy c) Q (T 0) (T 3) (T 5) (T 13) H (S 0))]

def kp.f40:Keep:={ keep:=fun n=>[[0],[0]].getD n [],order:=fun n=>[].getD n [] }

def kp.f35:Keep:={ keep:=fun n=>[[],[]].getD n [],order:=fun n=>[].getD n [] }

def kp.f64:Keep:={ keep:=fun n=>[[0,1,2],[0,2,4,6],[0,2,6,8],[6,8],[0,2,6,8],[6,8],[0,2,6,8],[6,8],[0,2,6,8],[0,2,6,8],[2,6,8],[6,8]].getD n [],order:=fun n=>[[],[],[],[],[],[],[],[],[],[(0,0),(1,1),(2,3),(3,7),(4,0),(5,31),(6,63),(7,127)]].getD n [] }
def pl.f64 (Q:VK) (c:CallT):Plan:=[
  (15,fun S T H=>F.f64_j1 (sy c) Q (T 2) (T 6) (T 8) H)]

def kp.f49:Keep:={ keep:=fun n=>[[0,1],[0,1]].getD n [],order:=fun n=>[].getD n [] }

def kp.f68:Keep:={ keep:=fun n=>[[0,1],[0,1],[0,1,5],[0,1,5],[],[0,1,5],[0],[0],[0,6],[],[],[0,1,5],[],[0,1,5],[0,1,7,8],[8],[0,1,7],[0,1,7,9],[0,9],[0,7,9],[0,9],[0],[]].getD n [],order:=fun n=>[[],[],[],[(0,0),(1,1),(2,3),(3,7),(4,0),(5,16),(6,48),(7,112),(8,255),(9,511)],[],[],[(0,0),(1,0),(2,2),(3,6),(4,14),(5,0),(6,32),(7,96),(8,224),(9,510),(10,1023),(11,2047),(12,4095)],[(0,0),(1,1),(2,3),(3,7),(4,15),(5,31),(6,63),(7,0),(8,128),(9,384),(10,896),(11,1920),(12,4095),(13,8191)],[(0,0),(1,1),(2,3),(3,7),(4,15),(5,31),(6,63),(7,7),(8,135),(9,391),(10,903),(11,2047),(12,4095),(13,8191)],[],[],[],[],[(0,0),(1,1),(2,3),(3,7),(4,15),(5,31),(6,63),(7,0),(8,128),(9,384),(10,896),(11,1920),(12,0),(13,8191),(14,16383),(15,32767),(16,32767),(17,65535),(18,262143)],[],[],[],[],[],[],[],[(0,0),(1,0),(2,2),(3,6),(4,14),(5,30),(6,62),(7,126),(8,0),(9,256),(10,768),(11,1792),(12,4094),(13,8191),(14,16383),(15,32767)]].getD n [] }

def kp.f61:Keep:={ keep:=fun n=>[[0,1],[0,3],[],[0,3],[0,3,5],[5,7]].getD n [],order:=fun n=>[[],[],[],[(0,0),(1,1),(2,3),(3,7),(4,0),(5,16),(6,63),(7,127)],[(0,0),(1,1),(2,3),(3,7),(4,0),(5,16),(10,0),(6,63),(7,127),(8,255),(9,255),(11,1535),(12,4095)]].getD n [] }

def kp.f13:Keep:={ keep:=fun n=>[[0,1,2],[0,1,2],[2,8,9],[9],[2,8],[],[2,8],[8,11],[],[8],[],[8],[],[8]].getD n [],order:=fun n=>[].getD n [] }

def kp.f11:Keep:={ keep:=fun n=>[[0,1],[0,1],[0,1,5],[0,1,5],[0,1,5],[5]].getD n [],order:=fun n=>[].getD n [] }
def pl.f11 (Q:VK) (c:CallT):Plan:=[
  (28,fun S T H=>F.f11_l1 (sy c) Q (T 0) (T 1) (T 5) H (S 0))]

def kp.f57:Keep:={ keep:=fun n=>[[0,1],[0,1]].getD n [],order:=fun n=>[].getD n [] }

def kp.f46:Keep:={ keep:=fun n=>[[0],[0],[],[0]].getD n [],order:=fun n=>[].getD n [] }

def kp.f45:Keep:={ keep:=fun n=>[[0,1,2],[0,1,2],[0,2,7],[0,7,13,14,15],[0,7,13,14,15],[0,7,9,13,14,15],[0,7,13,14,15],[7]].getD n [],order:=fun n=>[].getD n [] }
def pl.f45 (Q:VK) (c:CallT):Plan:=[
  (58,fun S T H=>F.f45_l1 (sy c) Q (T 0) (T 7) (T 13) (T 14) (T 15) H (S 0))]

def kp.f23:Keep:={ keep:=fun n=>[[0,1],[0,3,4],[3,4,6,7],[4],[4,6]].getD n [],order:=fun n=>[].getD n [] }

def kp.f65:Keep:={ keep:=fun n=>[[0],[0]].getD n [],order:=fun n=>[].getD n [] }

def kp.f25:Keep:={ keep:=fun n=>[[0,1],[0,3,4],[3,4],[0,3,4],[0,3,4,5],[3,4],[0,3,4,5]].getD n [],order:=fun n=>[[],[],[],[],[],[],[(0,0),(1,1),(2,3),(3,7),(4,0),(5,31),(6,63),(7,127),(8,0),(9,256),(10,768),(11,1792),(12,0),(13,7936),(14,16128),(15,32512),(16,65535),(17,131071)]].getD n [] }
def pl.f25 (Q:VK) (c:CallT):Plan:=[
  (14,fun S T H=>F.f25_l1 (sy c) Q (T 0) (T 3) (T 4) H (S 0))]

def kp.f66:Keep:={ keep:=fun n=>[[0],[0],[0,3],[3,7,8,9],[3,7,8,9],[3,5,7,8,9],[3,5,7,8,9],[3,7,8,9],[3]].getD n [],order:=fun n=>[].getD n [] }
def pl.f66 (Q:VK) (c:CallT):Plan:=[
  (58,fun S T H=>F.f66_l1 (sy c) Q (T 3) (T 7) (T 8) (T 9) H (S 0))]

def kp.f19:Keep:={ keep:=fun n=>[[0,1],[0,1]].getD n [],order:=fun n=>[].getD n [] }

def kp.f63:Keep:={ keep:=fun n=>[[0,1],[0,3,4],[4],[0,3,4],[0,3,4,5,6],[0,3,4,5],[0,3,4],[0,3,4,7],[4],[0,3,4,7]].getD n [],order:=fun n=>[[],[],[],[(0,0),(1,1),(2,3),(3,7),(4,0),(9,0),(5,31),(6,63),(7,127),(8,127),(10,767),(11,2047)],[],[],[(0,0),(1,1),(2,3),(3,7),(4,0),(5,16),(6,63),(7,127)],[],[],[(0,0),(1,1),(2,3),(3,7),(4,0),(5,16),(6,0),(7,64),(8,192),(9,448),(10,1008),(11,2047),(12,4095)]].getD n [] }
def pl.f63 (Q:VK) (c:CallT):Plan:=[
  (28,fun S T H=>F.f63_l1 (sy c) Q (T 0) (T 3) (T 4) H (S 0))]

def kp.f9:Keep:={ keep:=fun n=>[[0,1,2],[0,1,2],[2,8,9],[9],[2,8],[10,11],[],[10]].getD n [],order:=fun n=>[].getD n [] }

def kp.f67:Keep:={ keep:=fun n=>[[0,1],[0,1],[0,1],[],[0,1],[0,1],[0,1],[]].getD n [],order:=fun n=>[[],[],[],[],[],[(0,0),(1,0),(2,2),(3,6),(4,14),(5,30),(6,62),(7,126),(8,0),(9,510),(10,1023),(11,2047),(12,4095)],[(0,0),(1,0),(3,0),(4,8),(5,24),(6,56),(2,2),(7,126),(8,255),(9,511),(10,1023)]].getD n [] }
def pl.f67 (Q:VK) (c:CallT):Plan:=[
  (15,fun S T H=>F.f67_j1 (sy c) Q (T 0) (T 1) H)]

def kp.f24:Keep:={ keep:=fun n=>[[0,1],[0,1,4],[0,4,6],[4],[0,4,6]].getD n [],order:=fun n=>[].getD n [] }

def kp.f12:Keep:={ keep:=fun n=>[[0,1],[0,1],[6],[],[6],[],[6]].getD n [],order:=fun n=>[].getD n [] }

def kp.f5:Keep:={ keep:=fun n=>[[0],[0],[],[0]].getD n [],order:=fun n=>[].getD n [] }

def kp.f26:Keep:={ keep:=fun n=>[[0,1],[1,2]].getD n [],order:=fun n=>[].getD n [] }

def kp.f47:Keep:={ keep:=fun n=>[[0,1],[0,1],[0,1,7,8],[0,1,7,8],[0,1,5,7,8],[5],[0,1,7,8],[]].getD n [],order:=fun n=>[].getD n [] }
def pl.f47 (Q:VK) (c:CallT):Plan:=[
  (26,fun S T H=>F.f47_l1 (sy c) Q (T 0) (T 1) (T 7) (T 8) H (S 0))]

def kp.f52:Keep:={ keep:=fun n=>[[0,1],[0,1]].getD n [],order:=fun n=>[].getD n [] }

def kp.f27:Keep:={ keep:=fun n=>[[0,1],[0,3],[],[0,3]].getD n [],order:=fun n=>[].getD n [] }

def kp.f51:Keep:={ keep:=fun n=>[[0,1],[0,1]].getD n [],order:=fun n=>[].getD n [] }

def kp.f6:Keep:={ keep:=fun n=>[[0],[0]].getD n [],order:=fun n=>[].getD n [] }

def kp.f54:Keep:={ keep:=fun n=>[[0,1,2,3],[0,1,2,3],[],[0,1,2,3],[0,3],[0,1,2,3],[0,1,2],[0,1,2,3],[0,1,2,3],[0,1,2,3,9],[0,1,2,3,9],[0,1,2,3,9,10],[0,1,2,3,9,10],[0,1,2,3,9,10,11],[0,1,2,3,9,10,11],[0,1,2,3,9,10,11],[0,1,2,3,9,10],[0,9,10],[9,10]].getD n [],order:=fun n=>[].getD n [] }
def pl.f54 (Q:VK) (c:CallT):Plan:=[
  (1023,fun S T H=>F.f54_j2 (sy c) Q (T 0) (T 9) (T 10) H),
  (2044,fun S T H=>F.f54_l1 (sy c) Q (T 0) (T 1) (T 2) (T 3) (T 9) (T 10) H (S 0)),
  (31,fun S T H=>F.f54_j1 (sy c) Q (T 0) (T 1) (T 2) (T 3) H)]

def kp.f28:Keep:={ keep:=fun n=>[[0,1],[1,2]].getD n [],order:=fun n=>[].getD n [] }

def kp.f55:Keep:={ keep:=fun n=>[[0,1,2],[0,1,2],[1,2,10],[1,2,10,11],[1,2,7,8,10],[7],[]].getD n [],order:=fun n=>[].getD n [] }
def pl.f55 (Q:VK) (c:CallT):Plan:=[
  (26,fun S T H=>F.f55_l1 (sy c) Q (T 1) (T 2) (T 10) H (S 0))]

def kp.f48:Keep:={ keep:=fun n=>[[0,1],[0,1],[0],[0,1],[0,1],[0,1],[0,1,5],[0,1,5,6],[5],[0,1,5,6],[0,1,5,6]].getD n [],order:=fun n=>[].getD n [] }
def pl.f48 (Q:VK) (c:CallT):Plan:=[
  (62,fun S T H=>F.f48_l1 (sy c) Q (T 0) (T 1) (T 5) H (S 0))]

def kp.f50:Keep:={ keep:=fun n=>[[0,1],[0,1]].getD n [],order:=fun n=>[].getD n [] }

def kp.f20:Keep:={ keep:=fun n=>[[0,1],[0,1],[0,1,5],[],[0,1,5],[0,1],[0,1,5],[],[0,1,5],[0,1],[0,1,5],[0,1,5,6],[0,1,5,6,7],[0,1,5,6,7,8],[0,1,5,6,7,8,9],[0,1,5,6,7,8,9,10],[0,1,5,6,7,8,9,10],[0,1,5,6,7,8,9,10],[0,1,5,6,7,8,9,10,11],[],[0,1,5,6,7,8,9,10,11],[0,1,5,6,7,8,9,10],[8],[0,1,5,6,7,8,9,10],[0,1,5,6,7,8,9,10],[0,1,5,6,7,8,9,10],[0,1,8],[8,12],[8,12],[],[0,1,5,6,7,8,9,10],[0,1,8],[8,13],[],[8,13],[]].getD n [],order:=fun n=>[].getD n [] }
def pl.f20 (Q:VK) (c:CallT):Plan:=[
  (32709,fun S T H=>F.f20_j1 (sy c) Q (S 0) (T 0) (T 1) (T 5) (T 6) (T 7) (T 8) (T 9) (T 10) H),
  (2044,fun S T H=>F.f20_l1 (sy c) Q (T 0) (T 1) (T 5) (T 6) (T 7) (T 8) (T 9) (T 10) H (S 0))]

def kp.f21:Keep:={ keep:=fun n=>[[0,1],[0,1]].getD n [],order:=fun n=>[].getD n [] }

def kpL:List (Nat×Keep):=[(3,kp.f38),(6,kp.f37),(7,kp.f59),(9,kp.f33),(10,kp.f29),(8,kp.f42),(11,kp.f4),(12,kp.f3),(13,kp.f2),(14,kp.f0),(28,kp.f36),(29,kp.f1),(30,kp.f7),(31,kp.f22),(34,kp.f39),(35,kp.f30),(36,kp.f31),(37,kp.f34),(38,kp.f32),(26,kp.f62),(32,kp.f8),(33,kp.f41),(41,kp.f10),(56,kp.f43),(57,kp.f44),(58,kp.f60),(59,kp.f40),(60,kp.f35),(52,kp.f64),(53,kp.f49),(54,kp.f68),(46,kp.f61),(62,kp.f13),(63,kp.f11),(55,kp.f57),(81,kp.f46),(82,kp.f45),(83,kp.f23),(68,kp.f65),(71,kp.f25),(76,kp.f66),(77,kp.f19),(78,kp.f63),(40,kp.f9),(79,kp.f67),(69,kp.f24),(61,kp.f12),(49,kp.f5),(87,kp.f26),(84,kp.f47),(91,kp.f52),(70,kp.f27),(73,kp.f51),(74,kp.f6),(103,kp.f54),(86,kp.f28),(90,kp.f55),(111,kp.f48),(112,kp.f50),(117,kp.f20),(119,kp.f21)]
def kps (f:FuncId):Keep:=((kpL.find? (fun p=>p.1 == f)).map (fun p=>p.2)).getD { keep:=fun _=>[],order:=fun _=>[] }
def ext:CallT:=fun f args H K=>(f=80/\∃ x0 x1,args=[x0,x1]/\atomicAdd x0 x1 H K)\/(f=116/\∃ x0 x1,args=[x0,x1]/\byteCount x0 x1 H K)\/(f=123/\∃ x0 x1,args=[x0,x1]/\byteIndex x0 x1 H K)\/False
theorem extOk:CallOk Tryd.prog ext:=by
  rintro f args H K (⟨rfl,h⟩ | ⟨rfl,h⟩ | ⟨rfl,h⟩ | h)
  · exact atomicAdd_told Tryd.func80 (by kernel_rfl) (by kernel_rfl) (by kernel_rfl) (by kernel_rfl) h
  · exact byteCount_told Tryd.func116 (by kernel_rfl) (by kernel_rfl) (by kernel_rfl) (by kernel_rfl) h
  · exact byteIndex_told Tryd.func123 (by kernel_rfl) (by kernel_rfl) (by kernel_rfl) (by kernel_rfl) h
  · exact h.elim
abbrev W:CallT:=CallW Tryd.prog kps ext
theorem mkF {i:Nat} {fn:Func} {kp:Keep} {code:Code} {args:List Value} {H:AH} {Q:VK} (pl:CallT->Plan) {G:CallT->Prop} (hfn:Tryd.prog.funcs[i]? = some fn)
    (h1 : (fn.body.isNone, (fn.name == "runtime.NumGoroutine"), codeOk Tryd.prog fn.ntmps (bodyOf fn), fn.body, kps i) = (false, false, true, some code, kp))
    (h2:∀ c,(obls Tryd.prog c kp (pl c) code 1 (fun _=>bodyK Tryd.prog fn.results.toList Q)).map (·.1)=(obls Tryd.prog c kp (pl c) code 1 (fun _=>bodyK Tryd.prog fn.results.toList Q)).map (·.2))
    (h3:∀ c,G c=evD Tryd.prog c kp (pl c) code nostk 1 (argEnv args) H (bodyK Tryd.prog fn.results.toList Q)) (h:G W):W i args H Q:=by
  simp only [Prod.mk.injEq] at h1
  obtain ⟨a,b,c,d,e⟩:=h1
  refine CallW.fold ⟨hfn,a,b,c⟩ ?_
  rw [e]
  exact evBody_of (pl:=pl W) fn args H Q code d (h2 W) (h3 W) h
theorem fold_f38 (x0 x1:Value) (H:AH) (Q:VK):F.f38 (sy W) x0 x1 H Q->W 3 [x0,x1] H Q :=
  mkF (kp:=kp.f38) (code:=bodyOf Tryd.f3) (pl.f38 Q) (G:=fun c=>F.f38 (sy c) x0 x1 H Q) Tryd.func3 (by kernel_rfl) (fun c=>by kernel_rfl) (fun c=>by kernel_rfl)
theorem fold_f37 (H:AH) (Q:VK):F.f37 (sy W) H Q->W 6 [] H Q :=
  mkF (kp:=kp.f37) (code:=bodyOf Tryd.f6) (pl.f37 Q) (G:=fun c=>F.f37 (sy c) H Q) Tryd.func6 (by kernel_rfl) (fun c=>by kernel_rfl) (fun c=>by kernel_rfl)
theorem fold_f59 (x0:Value) (H:AH) (Q:VK):F.f59 (sy W) x0 H Q->W 7 [x0] H Q :=
  mkF (kp:=kp.f59) (code:=bodyOf Tryd.f7) (fun _=>[]) (G:=fun c=>F.f59 (sy c) x0 H Q) Tryd.func7 (by kernel_rfl) (fun c=>by kernel_rfl) (fun c=>by kernel_rfl)
theorem fold_f33 (x0:Value) (H:AH) (Q:VK):F.f33 (sy W) x0 H Q->W 9 [x0] H Q :=
  mkF (kp:=kp.f33) (code:=bodyOf Tryd.f9) (pl.f33 Q) (G:=fun c=>F.f33 (sy c) x0 H Q) Tryd.func9 (by kernel_rfl) (fun c=>by kernel_rfl) (fun c=>by kernel_rfl)
theorem fold_f29 (H:AH) (Q:VK):F.f29 (sy W) H Q->W 10 [] H Q :=
  mkF (kp:=kp.f29) (code:=bodyOf Tryd.f10) (fun _=>[]) (G:=fun c=>F.f29 (sy c) H Q) Tryd.func10 (by kernel_rfl) (fun c=>by kernel_rfl) (fun c=>by kernel_rfl)
theorem fold_f42 (x0 x1 x2:Value) (H:AH) (Q:VK):F.f42 (sy W) x0 x1 x2 H Q->W 8 [x0,x1,x2] H Q :=
  mkF (kp:=kp.f42) (code:=bodyOf Tryd.f8) (pl.f42 Q) (G:=fun c=>F.f42 (sy c) x0 x1 x2 H Q) Tryd.func8 (by kernel_rfl) (fun c=>by kernel_rfl) (fun c=>by kernel_rfl)
theorem fold_f4 (x0 x1:Value) (H:AH) (Q:VK):F.f4 (sy W) x0 x1 H Q->W 11 [x0,x1] H Q :=
  mkF (kp:=kp.f4) (code:=bodyOf Tryd.f11) (fun _=>[]) (G:=fun c=>F.f4 (sy c) x0 x1 H Q) Tryd.func11 (by kernel_rfl) (fun c=>by kernel_rfl) (fun c=>by kernel_rfl)
theorem fold_f3 (x0:Value) (H:AH) (Q:VK):F.f3 (sy W) x0 H Q->W 12 [x0] H Q :=
  mkF (kp:=kp.f3) (code:=bodyOf Tryd.f12) (fun _=>[]) (G:=fun c=>F.f3 (sy c) x0 H Q) Tryd.func12 (by kernel_rfl) (fun c=>by kernel_rfl) (fun c=>by kernel_rfl)
theorem fold_f2 (x0:Value) (H:AH) (Q:VK):F.f2 (sy W) x0 H Q->W 13 [x0] H Q :=
  mkF (kp:=kp.f2) (code:=bodyOf Tryd.f13) (fun _=>[]) (G:=fun c=>F.f2 (sy c) x0 H Q) Tryd.func13 (by kernel_rfl) (fun c=>by kernel_rfl) (fun c=>by kernel_rfl)
theorem fold_f0 (x0 x1:Value) (H:AH) (Q:VK):F.f0 (sy W) x0 x1 H Q->W 14 [x0,x1] H Q :=
  mkF (kp:=kp.f0) (code:=bodyOf Tryd.f14) (pl.f0 Q) (G:=fun c=>F.f0 (sy c) x0 x1 H Q) Tryd.func14 (by kernel_rfl) (fun c=>by kernel_rfl) (fun c=>by kernel_rfl)
theorem fold_f36 (H:AH) (Q:VK):F.f36 (sy W) H Q->W 28 [] H Q :=
  mkF (kp:=kp.f36) (code:=bodyOf Tryd.f28) (fun _=>[]) (G:=fun c=>F.f36 (sy c) H Q) Tryd.func28 (by kernel_rfl) (fun c=>by kernel_rfl) (fun c=>by kernel_rfl)
theorem fold_f1 (x0 x1 x2 x3 x4:Value) (H:AH) (Q:VK):F.f1 (sy W) x0 x1 x2 x3 x4 H Q->W 29 [x0,x1,x2,x3,x4] H Q :=
  mkF (kp:=kp.f1) (code:=bodyOf Tryd.f29) (pl.f1 Q) (G:=fun c=>F.f1 (sy c) x0 x1 x2 x3 x4 H Q) Tryd.func29 (by kernel_rfl) (fun c=>by kernel_rfl) (fun c=>by kernel_rfl)
theorem fold_f7 (x0:Value) (H:AH) (Q:VK):F.f7 (sy W) x0 H Q->W 30 [x0] H Q :=
  mkF (kp:=kp.f7) (code:=bodyOf Tryd.f30) (fun _=>[]) (G:=fun c=>F.f7 (sy c) x0 H Q) Tryd.func30 (by kernel_rfl) (fun c=>by kernel_rfl) (fun c=>by kernel_rfl)
theorem fold_f22 (H:AH) (Q:VK):F.f22 (sy W) H Q->W 31 [] H Q :=
  mkF (kp:=kp.f22) (code:=bodyOf Tryd.f31) (fun _=>[]) (G:=fun c=>F.f22 (sy c) H Q) Tryd.func31 (by kernel_rfl) (fun c=>by kernel_rfl) (fun c=>by kernel_rfl)
theorem fold_f39 (H:AH) (Q:VK):F.f39 (sy W) H Q->W 34 [] H Q :=
  mkF (kp:=kp.f39) (code:=bodyOf Tryd.f34) (fun _=>[]) (G:=fun c=>F.f39 (sy c) H Q) Tryd.func34 (by kernel_rfl) (fun c=>by kernel_rfl) (fun c=>by kernel_rfl)
theorem fold_f30 (x0 x1:Value) (H:AH) (Q:VK):F.f30 (sy W) x0 x1 H Q->W 35 [x0,x1] H Q :=
  mkF (kp:=kp.f30) (code:=bodyOf Tryd.f35) (fun _=>[]) (G:=fun c=>F.f30 (sy c) x0 x1 H Q) Tryd.func35 (by kernel_rfl) (fun c=>by kernel_rfl) (fun c=>by kernel_rfl)
theorem fold_f31 (x0:Value) (H:AH) (Q:VK):F.f31 (sy W) x0 H Q->W 36 [x0] H Q :=
  mkF (kp:=kp.f31) (code:=bodyOf Tryd.f36) (fun _=>[]) (G:=fun c=>F.f31 (sy c) x0 H Q) Tryd.func36 (by kernel_rfl) (fun c=>by kernel_rfl) (fun c=>by kernel_rfl)
theorem fold_f34 (x0 x1 x2 x3:Value) (H:AH) (Q:VK):F.f34 (sy W) x0 x1 x2 x3 H Q->W 37 [x0,x1,x2,x3] H Q :=
  mkF (kp:=kp.f34) (code:=bodyOf Tryd.f37) (fun _=>[]) (G:=fun c=>F.f34 (sy c) x0 x1 x2 x3 H Q) Tryd.func37 (by kernel_rfl) (fun c=>by kernel_rfl) (fun c=>by kernel_rfl)
theorem fold_f32 (H:AH) (Q:VK):F.f32 (sy W) H Q->W 38 [] H Q :=
  mkF (kp:=kp.f32) (code:=bodyOf Tryd.f38) (fun _=>[]) (G:=fun c=>F.f32 (sy c) H Q) Tryd.func38 (by kernel_rfl) (fun c=>by kernel_rfl) (fun c=>by kernel_rfl)
theorem fold_f62 (x0 x1 x2 x3:Value) (H:AH) (Q:VK):F.f62 (sy W) x0 x1 x2 x3 H Q->W 26 [x0,x1,x2,x3] H Q :=
  mkF (kp:=kp.f62) (code:=bodyOf Tryd.f26) (pl.f62 Q) (G:=fun c=>F.f62 (sy c) x0 x1 x2 x3 H Q) Tryd.func26 (by kernel_rfl) (fun c=>by kernel_rfl) (fun c=>by kernel_rfl)
theorem fold_f8 (x0 x1:Value) (H:AH) (Q:VK):F.f8 (sy W) x0 x1 H Q->W 32 [x0,x1] H Q :=
  mkF (kp:=kp.f8) (code:=bodyOf Tryd.f32) (fun _=>[]) (G:=fun c=>F.f8 (sy c) x0 x1 H Q) Tryd.func32 (by kernel_rfl) (fun c=>by kernel_rfl) (fun c=>by kernel_rfl)
theorem fold_f41 (x0 x1:Value) (H:AH) (Q:VK):F.f41 (sy W) x0 x1 H Q->W 33 [x0,x1] H Q :=
  mkF (kp:=kp.f41) (code:=bodyOf Tryd.f33) (fun _=>[]) (G:=fun c=>F.f41 (sy c) x0 x1 H Q) Tryd.func33 (by kernel_rfl) (fun c=>by kernel_rfl) (fun c=>by kernel_rfl)
theorem fold_f10 (x0 x1 x2 x3 x4:Value) (H:AH) (Q:VK):F.f10 (sy W) x0 x1 x2 x3 x4 H Q->W 41 [x0,x1,x2,x3,x4] H Q :=
  mkF (kp:=kp.f10) (code:=bodyOf Tryd.f41) (pl.f10 Q) (G:=fun c=>F.f10 (sy c) x0 x1 x2 x3 x4 H Q) Tryd.func41 (by kernel_rfl) (fun c=>by kernel_rfl) (fun c=>by kernel_rfl)
theorem fold_f43 (x0 x1:Value) (H:AH) (Q:VK):F.f43 (sy W) x0 x1 H Q->W 56 [x0,x1] H Q :=
  mkF (kp:=kp.f43) (code:=bodyOf Tryd.f56) (fun _=>[]) (G:=fun c=>F.f43 (sy c) x0 x1 H Q) Tryd.func56 (by kernel_rfl) (fun c=>by kernel_rfl) (fun c=>by kernel_rfl)
theorem fold_f44 (x0 x1 x2 x3:Value) (H:AH) (Q:VK):F.f44 (sy W) x0 x1 x2 x3 H Q->W 57 [x0,x1,x2,x3] H Q :=
  mkF (kp:=kp.f44) (code:=bodyOf Tryd.f57) (fun _=>[]) (G:=fun c=>F.f44 (sy c) x0 x1 x2 x3 H Q) Tryd.func57 (by kernel_rfl) (fun c=>by kernel_rfl) (fun c=>by kernel_rfl)
theorem fold_f60 (x0 x1:Value) (H:AH) (Q:VK):F.f60 (sy W) x0 x1 H Q->W 58 [x0,x1] H Q :=
  mkF (kp:=kp.f60) (code:=bodyOf Tryd.f58) (pl.f60 Q) (G:=fun c=>F.f60 (sy c) x0 x1 H Q) Tryd.func58 (by kernel_rfl) (fun c=>by kernel_rfl) (fun c=>by kernel_rfl)
theorem fold_f40 (x0:Value) (H:AH) (Q:VK):F.f40 (sy W) x0 H Q->W 59 [x0] H Q :=
  mkF (kp:=kp.f40) (code:=bodyOf Tryd.f59) (fun _=>[]) (G:=fun c=>F.f40 (sy c) x0 H Q) Tryd.func59 (by kernel_rfl) (fun c=>by kernel_rfl) (fun c=>by kernel_rfl)
theorem fold_f35 (H:AH) (Q:VK):F.f35 (sy W) H Q->W 60 [] H Q :=
  mkF (kp:=kp.f35) (code:=bodyOf Tryd.f60) (fun _=>[]) (G:=fun c=>F.f35 (sy c) H Q) Tryd.func60 (by kernel_rfl) (fun c=>by kernel_rfl) (fun c=>by kernel_rfl)
theorem fold_f64 (x0 x1 x2:Value) (H:AH) (Q:VK):F.f64 (sy W) x0 x1 x2 H Q->W 52 [x0,x1,x2] H Q :=
  mkF (kp:=kp.f64) (code:=bodyOf Tryd.f52) (pl.f64 Q) (G:=fun c=>F.f64 (sy c) x0 x1 x2 H Q) Tryd.func52 (by kernel_rfl) (fun c=>by kernel_rfl) (fun c=>by kernel_rfl)
theorem fold_f49 (x0 x1:Value) (H:AH) (Q:VK):F.f49 (sy W) x0 x1 H Q->W 53 [x0,x1] H Q :=
  mkF (kp:=kp.f49) (code:=bodyOf Tryd.f53) (fun _=>[]) (G:=fun c=>F.f49 (sy c) x0 x1 H Q) Tryd.func53 (by kernel_rfl) (fun c=>by kernel_rfl) (fun c=>by kernel_rfl)
theorem fold_f68 (x0 x1:Value) (H:AH) (Q:VK):F.f68 (sy W) x0 x1 H Q->W 54 [x0,x1] H Q :=
  mkF (kp:=kp.f68) (code:=bodyOf Tryd.f54) (fun _=>[]) (G:=fun c=>F.f68 (sy c) x0 x1 H Q) Tryd.func54 (by kernel_rfl) (fun c=>by kernel_rfl) (fun c=>by kernel_rfl)
theorem fold_f61 (x0 x1:Value) (H:AH) (Q:VK):F.f61 (sy W) x0 x1 H Q->W 46 [x0,x1] H Q :=
  mkF (kp:=kp.f61) (code:=bodyOf Tryd.f46) (fun _=>[]) (G:=fun c=>F.f61 (sy c) x0 x1 H Q) Tryd.func46 (by kernel_rfl) (fun c=>by kernel_rfl) (fun c=>by kernel_rfl)
theorem fold_f13 (x0 x1 x2:Value) (H:AH) (Q:VK):F.f13 (sy W) x0 x1 x2 H Q->W 62 [x0,x1,x2] H Q :=
  mkF (kp:=kp.f13) (code:=bodyOf Tryd.f62) (fun _=>[]) (G:=fun c=>F.f13 (sy c) x0 x1 x2 H Q) Tryd.func62 (by kernel_rfl) (fun c=>by kernel_rfl) (fun c=>by kernel_rfl)
theorem fold_f11 (x0 x1:Value) (H:AH) (Q:VK):F.f11 (sy W) x0 x1 H Q->W 63 [x0,x1] H Q :=
  mkF (kp:=kp.f11) (code:=bodyOf Tryd.f63) (pl.f11 Q) (G:=fun c=>F.f11 (sy c) x0 x1 H Q) Tryd.func63 (by kernel_rfl) (fun c=>by kernel_rfl) (fun c=>by kernel_rfl)
theorem fold_f57 (x0 x1:Value) (H:AH) (Q:VK):F.f57 (sy W) x0 x1 H Q->W 55 [x0,x1] H Q :=
  mkF (kp:=kp.f57) (code:=bodyOf Tryd.f55) (fun _=>[]) (G:=fun c=>F.f57 (sy c) x0 x1 H Q) Tryd.func55 (by kernel_rfl) (fun c=>by kernel_rfl) (fun c=>by kernel_rfl)
theorem fold_f46 (x0:Value) (H:AH) (Q:VK):F.f46 (sy W) x0 H Q->W 81 [x0] H Q :=
  mkF (kp:=kp.f46) (code:=bodyOf Tryd.f81) (fun _=>[]) (G:=fun c=>F.f46 (sy c) x0 H Q) Tryd.func81 (by kernel_rfl) (fun c=>by kernel_rfl) (fun c=>by kernel_rfl)
theorem fold_f45 (x0 x1 x2:Value) (H:AH) (Q:VK):F.f45 (sy W) x0 x1 x2 H Q->W 82 [x0,x1,x2] H Q :=
  mkF (kp:=kp.f45) (code:=bodyOf Tryd.f82) (pl.f45 Q) (G:=fun c=>F.f45 (sy c) x0 x1 x2 H Q) Tryd.func82 (by kernel_rfl) (fun c=>by kernel_rfl) (fun c=>by kernel_rfl)
theorem fold_f23 (x0 x1:Value) (H:AH) (Q:VK):F.f23 (sy W) x0 x1 H Q->W 83 [x0,x1] H Q :=
  mkF (kp:=kp.f23) (code:=bodyOf Tryd.f83) (fun _=>[]) (G:=fun c=>F.f23 (sy c) x0 x1 H Q) Tryd.func83 (by kernel_rfl) (fun c=>by kernel_rfl) (fun c=>by kernel_rfl)
theorem fold_f65 (x0:Value) (H:AH) (Q:VK):F.f65 (sy W) x0 H Q->W 68 [x0] H Q :=
  mkF (kp:=kp.f65) (code:=bodyOf Tryd.f68) (fun _=>[]) (G:=fun c=>F.f65 (sy c) x0 H Q) Tryd.func68 (by kernel_rfl) (fun c=>by kernel_rfl) (fun c=>by kernel_rfl)
theorem fold_f25 (x0 x1:Value) (H:AH) (Q:VK):F.f25 (sy W) x0 x1 H Q->W 71 [x0,x1] H Q :=
  mkF (kp:=kp.f25) (code:=bodyOf Tryd.f71) (pl.f25 Q) (G:=fun c=>F.f25 (sy c) x0 x1 H Q) Tryd.func71 (by kernel_rfl) (fun c=>by kernel_rfl) (fun c=>by kernel_rfl)
theorem fold_f66 (x0:Value) (H:AH) (Q:VK):F.f66 (sy W) x0 H Q->W 76 [x0] H Q :=
  mkF (kp:=kp.f66) (code:=bodyOf Tryd.f76) (pl.f66 Q) (G:=fun c=>F.f66 (sy c) x0 H Q) Tryd.func76 (by kernel_rfl) (fun c=>by kernel_rfl) (fun c=>by kernel_rfl)
theorem fold_f19 (x0 x1:Value) (H:AH) (Q:VK):F.f19 (sy W) x0 x1 H Q->W 77 [x0,x1] H Q :=
  mkF (kp:=kp.f19) (code:=bodyOf Tryd.f77) (fun _=>[]) (G:=fun c=>F.f19 (sy c) x0 x1 H Q) Tryd.func77 (by kernel_rfl) (fun c=>by kernel_rfl) (fun c=>by kernel_rfl)
theorem fold_f63 (x0 x1:Value) (H:AH) (Q:VK):F.f63 (sy W) x0 x1 H Q->W 78 [x0,x1] H Q :=
  mkF (kp:=kp.f63) (code:=bodyOf Tryd.f78) (pl.f63 Q) (G:=fun c=>F.f63 (sy c) x0 x1 H Q) Tryd.func78 (by kernel_rfl) (fun c=>by kernel_rfl) (fun c=>by kernel_rfl)
theorem fold_f9 (x0 x1 x2:Value) (H:AH) (Q:VK):F.f9 (sy W) x0 x1 x2 H Q->W 40 [x0,x1,x2] H Q :=
  mkF (kp:=kp.f9) (code:=bodyOf Tryd.f40) (fun _=>[]) (G:=fun c=>F.f9 (sy c) x0 x1 x2 H Q) Tryd.func40 (by kernel_rfl) (fun c=>by kernel_rfl) (fun c=>by kernel_rfl)
theorem fold_f67 (x0 x1:Value) (H:AH) (Q:VK):F.f67 (sy W) x0 x1 H Q->W 79 [x0,x1] H Q :=
  mkF (kp:=kp.f67) (code:=bodyOf Tryd.f79) (pl.f67 Q) (G:=fun c=>F.f67 (sy c) x0 x1 H Q) Tryd.func79 (by kernel_rfl) (fun c=>by kernel_rfl) (fun c=>by kernel_rfl)
theorem fold_f24 (x0 x1:Value) (H:AH) (Q:VK):F.f24 (sy W) x0 x1 H Q->W 69 [x0,x1] H Q :=
  mkF (kp:=kp.f24) (code:=bodyOf Tryd.f69) (fun _=>[]) (G:=fun c=>F.f24 (sy c) x0 x1 H Q) Tryd.func69 (by kernel_rfl) (fun c=>by kernel_rfl) (fun c=>by kernel_rfl)
theorem fold_f12 (x0 x1:Value) (H:AH) (Q:VK):F.f12 (sy W) x0 x1 H Q->W 61 [x0,x1] H Q :=
  mkF (kp:=kp.f12) (code:=bodyOf Tryd.f61) (fun _=>[]) (G:=fun c=>F.f12 (sy c) x0 x1 H Q) Tryd.func61 (by kernel_rfl) (fun c=>by kernel_rfl) (fun c=>by kernel_rfl)
theorem fold_f5 (x0:Value) (H:AH) (Q:VK):F.f5 (sy W) x0 H Q->W 49 [x0] H Q :=
  mkF (kp:=kp.f5) (code:=bodyOf Tryd.f49) (fun _=>[]) (G:=fun c=>F.f5 (sy c) x0 H Q) Tryd.func49 (by kernel_rfl) (fun c=>by kernel_rfl) (fun c=>by kernel_rfl)
theorem fold_f26 (x0 x1:Value) (H:AH) (Q:VK):F.f26 (sy W) x0 x1 H Q->W 87 [x0,x1] H Q :=
  mkF (kp:=kp.f26) (code:=bodyOf Tryd.f87) (fun _=>[]) (G:=fun c=>F.f26 (sy c) x0 x1 H Q) Tryd.func87 (by kernel_rfl) (fun c=>by kernel_rfl) (fun c=>by kernel_rfl)
theorem fold_f47 (x0 x1:Value) (H:AH) (Q:VK):F.f47 (sy W) x0 x1 H Q->W 84 [x0,x1] H Q :=
  mkF (kp:=kp.f47) (code:=bodyOf Tryd.f84) (pl.f47 Q) (G:=fun c=>F.f47 (sy c) x0 x1 H Q) Tryd.func84 (by kernel_rfl) (fun c=>by kernel_rfl) (fun c=>by kernel_rfl)
theorem fold_f52 (x0 x1:Value) (H:AH) (Q:VK):F.f52 (sy W) x0 x1 H Q->W 91 [x0,x1] H Q :=
  mkF (kp:=kp.f52) (code:=bodyOf Tryd.f91) (fun _=>[]) (G:=fun c=>F.f52 (sy c) x0 x1 H Q) Tryd.func91 (by kernel_rfl) (fun c=>by kernel_rfl) (fun c=>by kernel_rfl)
theorem fold_f27 (x0 x1:Value) (H:AH) (Q:VK):F.f27 (sy W) x0 x1 H Q->W 70 [x0,x1] H Q :=
  mkF (kp:=kp.f27) (code:=bodyOf Tryd.f70) (fun _=>[]) (G:=fun c=>F.f27 (sy c) x0 x1 H Q) Tryd.func70 (by kernel_rfl) (fun c=>by kernel_rfl) (fun c=>by kernel_rfl)
theorem fold_f51 (x0 x1:Value) (H:AH) (Q:VK):F.f51 (sy W) x0 x1 H Q->W 73 [x0,x1] H Q :=
  mkF (kp:=kp.f51) (code:=bodyOf Tryd.f73) (fun _=>[]) (G:=fun c=>F.f51 (sy c) x0 x1 H Q) Tryd.func73 (by kernel_rfl) (fun c=>by kernel_rfl) (fun c=>by kernel_rfl)
theorem fold_f6 (x0:Value) (H:AH) (Q:VK):F.f6 (sy W) x0 H Q->W 74 [x0] H Q :=
  mkF (kp:=kp.f6) (code:=bodyOf Tryd.f74) (fun _=>[]) (G:=fun c=>F.f6 (sy c) x0 H Q) Tryd.func74 (by kernel_rfl) (fun c=>by kernel_rfl) (fun c=>by kernel_rfl)
theorem fold_f54 (x0 x1 x2 x3:Value) (H:AH) (Q:VK):F.f54 (sy W) x0 x1 x2 x3 H Q->W 103 [x0,x1,x2,x3] H Q :=
  mkF (kp:=kp.f54) (code:=bodyOf Tryd.f103) (pl.f54 Q) (G:=fun c=>F.f54 (sy c) x0 x1 x2 x3 H Q) Tryd.func103 (by kernel_rfl) (fun c=>by kernel_rfl) (fun c=>by kernel_rfl)
theorem fold_f28 (x0 x1:Value) (H:AH) (Q:VK):F.f28 (sy W) x0 x1 H Q->W 86 [x0,x1] H Q :=
  mkF (kp:=kp.f28) (code:=bodyOf Tryd.f86) (fun _=>[]) (G:=fun c=>F.f28 (sy c) x0 x1 H Q) Tryd.func86 (by kernel_rfl) (fun c=>by kernel_rfl) (fun c=>by kernel_rfl)
theorem fold_f55 (x0 x1 x2:Value) (H:AH) (Q:VK):F.f55 (sy W) x0 x1 x2 H Q->W 90 [x0,x1,x2] H Q :=
  mkF (kp:=kp.f55) (code:=bodyOf Tryd.f90) (pl.f55 Q) (G:=fun c=>F.f55 (sy c) x0 x1 x2 H Q) Tryd.func90 (by kernel_rfl) (fun c=>by kernel_rfl) (fun c=>by kernel_rfl)
theorem fold_f48 (x0 x1:Value) (H:AH) (Q:VK):F.f48 (sy W) x0 x1 H Q->W 111 [x0,x1] H Q :=
  mkF (kp:=kp.f48) (code:=bodyOf Tryd.f111) (pl.f48 Q) (G:=fun c=>F.f48 (sy c) x0 x1 H Q) Tryd.func111 (by kernel_rfl) (fun c=>by kernel_rfl) (fun c=>by kernel_rfl)
theorem fold_f50 (x0 x1:Value) (H:AH) (Q:VK):F.f50 (sy W) x0 x1 H Q->W 112 [x0,x1] H Q :=
  mkF (kp:=kp.f50) (code:=bodyOf Tryd.f112) (fun _=>[]) (G:=fun c=>F.f50 (sy c) x0 x1 H Q) Tryd.func112 (by kernel_rfl) (fun c=>by kernel_rfl) (fun c=>by kernel_rfl)
theorem fold_f20 (x0 x1:Value) (H:AH) (Q:VK):F.f20 (sy W) x0 x1 H Q->W 117 [x0,x1] H Q :=
  mkF (kp:=kp.f20) (code:=bodyOf Tryd.f117) (pl.f20 Q) (G:=fun c=>F.f20 (sy c) x0 x1 H Q) Tryd.func117 (by kernel_rfl) (fun c=>by kernel_rfl) (fun c=>by kernel_rfl)
theorem fold_f21 (x0 x1:Value) (H:AH) (Q:VK):F.f21 (sy W) x0 x1 H Q->W 119 [x0,x1] H Q :=
  mkF (kp:=kp.f21) (code:=bodyOf Tryd.f119) (fun _=>[]) (G:=fun c=>F.f21 (sy c) x0 x1 H Q) Tryd.func119 (by kernel_rfl) (fun c=>by kernel_rfl) (fun c=>by kernel_rfl)
theorem fold:Go.AM.Fold (sy W) where
  mono:=CallW.mono
  f38:=fold_f38
  f37:=fold_f37
  f59:=fold_f59
  f33:=fold_f33
  f29:=fold_f29
  f42:=fold_f42
  f4:=fold_f4
  f3:=fold_f3
  f2:=fold_f2
  f0:=fold_f0
  f36:=fold_f36
  f1:=fold_f1
  f7:=fold_f7
  f22:=fold_f22
  f39:=fold_f39
  f30:=fold_f30
  f31:=fold_f31
  f34:=fold_f34
  f32:=fold_f32
  f62:=fold_f62
  f8:=fold_f8
  f41:=fold_f41
  f10:=fold_f10
  f43:=fold_f43
  f44:=fold_f44
  f60:=fold_f60
  f40:=fold_f40
  f35:=fold_f35
  f64:=fold_f64
  f49:=fold_f49
  f68:=fold_f68
  f61:=fold_f61
  f13:=fold_f13
  f11:=fold_f11
  f57:=fold_f57
  f46:=fold_f46
  f45:=fold_f45
  f23:=fold_f23
  f65:=fold_f65
  f25:=fold_f25
  f66:=fold_f66
  f19:=fold_f19
  f63:=fold_f63
  f9:=fold_f9
  f67:=fold_f67
  f24:=fold_f24
  f12:=fold_f12
  f5:=fold_f5
  f26:=fold_f26
  f47:=fold_f47
  f52:=fold_f52
  f27:=fold_f27
  f51:=fold_f51
  f6:=fold_f6
  f54:=fold_f54
  f28:=fold_f28
  f55:=fold_f55
  f48:=fold_f48
  f50:=fold_f50
  f20:=fold_f20
  f21:=fold_f21
  f56:=fun x0 x1 H Q h=>CallW.ext (.inl<|⟨rfl,x0,x1,rfl,h⟩)
  f14:=fun x0 x1 H Q h=>CallW.ext (.inr <| .inl<|⟨rfl,x0,x1,rfl,h⟩)
  f16:=fun x0 x1 H Q h=>CallW.ext (.inr <| .inr <| .inl<|⟨rfl,x0,x1,rfl,h⟩)
end Go.Proofs.YtgeenpollgalkaaDoor
