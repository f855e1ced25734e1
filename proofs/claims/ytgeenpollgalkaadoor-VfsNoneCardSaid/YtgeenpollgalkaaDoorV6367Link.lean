/- THE FUNCTIONS, HELD AGAINST THE PROGRAM: written by program (gen2.py). -/
import Derived.Test.YtgeenpollgalkaaDoorV6367F
import Derived.Test.YtgeenpollgalkaaDoorProg
import Derived.KernelRfl
set_option linter.all false
set_option maxRecDepth 100000
set_option maxHeartbeats 4000000
namespace Go.Proofs.YtgeenpollgalkaaDoor
open Go.AM
attribute [local irreducible] evD obls
def fidL:List Nat:=[0,0,0,0,0,0,0,0,0,0,0,0,59,141,0,0,0,0,0,0,0,0,0,0,0,0,0,0,0,0,0,0,0,0,0,0,0,0,0,0,0,0,0,9,0,0,0,0,0,0,0,0,0,0,36,0,0,0,0,0,34,35,37,38,0,60,0,0,31,71,83,47,51,0,0,0,10,0,0,0,0,0,42,0,69,0,0,0,87,84,70,75,0,64,0,0,65,86,0,0,30,41,0,43,32,27,0,45,44,0,0,0,49,0,0,0,50,0,0,0,0,40,0,48,144,0,0,0,0,0,62,63,55,66,61,67,0,0,0,74,73,0,0,0,0,0,0,0,148,0,0,0,0,0,80,85,0,89,0,90,0,72,88,0,101,102,0,0,0,0,0,0,0,0,0,92,93,95,98,99,100,97,96,94,0,105,106,0,0,0,104,108,107,109,0,113,0,28,7,8,0,3,6,11,12,13,14,0,0,0,81,56,82,57,0,0,0,0,26,4,15,16,17,18,19,20,21,22,23,24,5,25,33,29,0,0,52,53,54,46,39,58,0,0,76,68,77,78,79,0,0,0,91,0,103,0,110,112,111,0,0,114,115,116,117,118,119,120,121,122,123,124]
def tidL:List Nat:=[9]
def gidL:List Nat:=[0,1,2]
def sy (c:CallT):Sy:={ call:=c,fid:=fun n=>fidL.getD n 0,tid:=fun n=>tidL.getD n 0,gid:=fun n=>gidL.getD n 0 }
def kp.f42:Keep:={ keep:=fun n=>[[0,1,2,3,4,5],[2,3,4,5,6,7],[],[2,3,4,5,6,7],[3,4,5,6,7,14],[3,4,5,6,7,14,16],[3,6,7,14,16,18],[6,7,14,16,18,20]].getD n [],order:=fun n=>[].getD n [] }

def kp.f41:Keep:={ keep:=fun n=>[[],[],[1],[1,2,3],[1,3,4,5],[1,3,4,5,6,7],[1,3,4,5,6,7,8,9]].getD n [],order:=fun n=>[].getD n [] }

def kp.f79:Keep:={ keep:=fun n=>[[0,1,2],[0,2,4,6],[0,6,8,9,10],[6,10],[0,6,8,9],[6,8,9,10,11],[6,10],[6,8,9,11]].getD n [],order:=fun n=>[[],[],[],[],[(0,0),(1,1),(2,3),(3,7),(4,0),(5,16),(6,0),(7,127),(8,255),(9,511),(10,511),(11,1023),(12,4095)]].getD n [] }

def kp.f74:Keep:={ keep:=fun n=>[[0,1,2,3],[0,2,3,5,8],[8],[0,2,3,5,8],[5,8,10,11],[8,11],[5,8,10]].getD n [],order:=fun n=>[[],[],[],[(0,0),(1,1),(2,3),(3,7),(4,0),(5,16),(6,48),(7,0),(8,128),(9,0),(10,0),(11,2047),(12,4095),(13,8191),(14,8191),(15,16383),(16,65535)]].getD n [] }

def kp.f75:Keep:={ keep:=fun n=>[[0,1,2,3],[0,1,2,3],[],[0,1,2,3],[2,3,10],[],[2,3,10],[],[2,3,10],[],[2,3,10],[],[2,3,10]].getD n [],order:=fun n=>[[],[],[],[],[],[],[],[],[],[],[],[],[(0,0),(1,0),(2,2),(3,6),(4,14),(5,0),(6,0),(7,0),(8,0),(9,256),(10,768),(11,1792),(12,3840),(13,0),(14,16128),(15,32640),(16,65472),(17,131070),(18,262143),(19,524287),(20,1048575)]].getD n [] }

def kp.f80:Keep:={ keep:=fun n=>[[0,1],[0,1,4],[4],[0,1,4],[1,4,6],[4],[1,4,6],[4,6,7],[4,6,7,33],[4,6,7],[4,6,7,33],[4,6,7],[4,6,7,33],[4,6,7],[4,7]].getD n [],order:=fun n=>[[],[],[],[],[],[],[(0,0),(1,0),(2,2),(3,6),(4,14),(5,0),(6,32),(7,96),(8,224),(9,511),(10,0),(11,2047)]].getD n [] }

def kp.f76:Keep:={ keep:=fun n=>[[0,1,2],[0,2,4],[],[0,2,4],[],[0,2,4],[],[0,2,4]].getD n [],order:=fun n=>[[],[],[],[],[],[(0,0),(1,1),(2,3),(3,7),(4,0),(5,16),(6,63),(7,127)],[],[(0,0),(1,1),(2,3),(3,7),(4,0),(5,16),(6,48),(7,0),(8,128),(9,0),(10,1023),(11,2047)]].getD n [] }

def kp.f73:Keep:={ keep:=fun n=>[[0,1,2],[0,4,5],[],[0,4,5],[],[0,4,5]].getD n [],order:=fun n=>[[],[],[],[],[],[(0,0),(1,1),(2,3),(3,7),(4,0),(5,16),(6,48),(7,0),(8,128),(9,0),(10,512),(11,2047),(12,4095)]].getD n [] }

def kp.f77:Keep:={ keep:=fun n=>[[0,1,2],[0,4,5],[],[0,4,5],[],[0,4,5],[],[0,4,5],[],[0,4,5]].getD n [],order:=fun n=>[[],[],[],[],[],[],[],[(0,0),(1,1),(2,3),(3,7),(4,0),(5,16),(6,63),(7,127),(8,255),(9,511),(10,1023),(11,2047),(12,4095),(13,8191),(14,16383),(15,32767),(16,4095),(17,69631),(18,262143),(19,524287),(20,1048575),(21,2097151)],[],[(0,0),(1,1),(2,3),(3,7),(4,0),(5,16),(6,48),(7,0),(8,128),(9,0),(10,512),(11,1536),(12,0),(13,4096),(14,16383),(15,32767)]].getD n [] }

def kp.f72:Keep:={ keep:=fun n=>[[0,1,2],[0,4,5],[],[0,4,5],[],[0,4,5],[],[0,4,5],[8]].getD n [],order:=fun n=>[[],[],[],[],[],[(0,0),(1,1),(2,3),(3,7),(4,0),(5,16),(6,63),(7,127),(8,255),(9,511),(10,1023),(11,2047),(12,4095),(13,8191),(14,16383),(15,32767),(16,4095),(17,69631),(18,262143),(19,524287),(20,1048575),(21,2097151),(22,4194303),(23,8388607)],[],[(0,0),(1,1),(2,3),(3,7),(4,0),(5,16),(6,0),(7,127),(8,255),(9,511),(10,511),(11,1023),(12,4095)]].getD n [] }

def kp.f78:Keep:={ keep:=fun n=>[[0],[0],[],[0],[0,3],[0,3,25,26,27],[0,3,25,26,27],[0,3,5,25,26,27],[0,3,5,6,25,26,27],[0,3,5,25,26,27,41],[0,3,5,25,26,27,41],[0,3,5,7,8,25,26,27,41],[0,3,5,7,8,9,25,26,27,41],[],[0,3,5,8,25,26,27,41],[0,3,25,26,27],[0,3],[0,3,84,85,86],[0,3,84,85,86],[0,3,11,84,85,86],[0,3,11,12,84,85,86],[],[0,3,11,12,84,85,86],[],[0,3,84,85,86],[0],[0,158,159,160],[0,158,159,160],[0,14,158,159,160],[0,14,15,16,158,159,160],[],[0,158,159,160],[]].getD n [],order:=fun n=>[[],[],[],[],[],[],[],[],[],[],[],[],[],[],[],[],[],[],[],[],[(0,0),(1,1),(2,3),(3,7),(4,0),(5,0),(6,48),(7,127),(8,255),(9,511),(10,1023),(11,2047),(12,4095),(13,8191),(14,16383),(15,32767),(16,65535),(17,131071),(18,262143),(19,524287),(20,1048575),(21,2097151),(22,4194303),(23,8388607),(24,16777215),(25,33554431),(26,67108863),(27,134217727),(28,268435455),(29,536870911),(30,1073741823),(31,2147483647),(32,4294967295),(33,8589934591),(34,17179869183),(35,34359738367)],[],[],[],[],[],[],[],[(0,0),(1,1),(2,3),(3,7),(4,0),(5,16),(7,0),(8,128),(9,384),(10,896),(11,0),(12,2048),(13,6144),(6,63),(14,16383),(15,32767),(16,65535)]].getD n [] }
def pl.f78 (Q:VK) (c:CallT):Plan:=[
  (62670,fun S T H=>F.f78_l2 (sy c) Q (S 1) (T 0) (T 3) (T 5) (T 25) (T 26) (T 27) (T 41) H (S 0)),
  (506,fun S T H=>F.f78_l4 (sy c) Q (T 0) (T 158) (T 159) (T 160) H (S 0)),
  (250,fun S T H=>F.f78_l3 (sy c) Q (T 0) (T 3) (T 84) (T 85) (T 86) H (S 0)),
  (122,fun S T H=>F.f78_l1 (sy c) Q (T 0) (T 3) (T 25) (T 26) (T 27) H (S 0))]

def kp.f81:Keep:={ keep:=fun n=>[[0],[0]].getD n [],order:=fun n=>[].getD n [] }

def kp.f40:Keep:={ keep:=fun n=>[[],[0]].getD n [],order:=fun n=>[].getD n [] }

def kp.f83:Keep:={ keep:=fun n=>[[0,1,2],[0,2,4,6],[0,6,9,10],[6,10],[0,6,9],[6],[0,6,9],[0,6,9,11],[0,6,9,11],[0,6,9,11],[0,6,9,11,12],[6,12],[0,6,9,11],[6],[6,9,11],[6],[6,9,11],[6],[6,9,11]].getD n [],order:=fun n=>[].getD n [] }
def pl.f83 (Q:VK) (c:CallT):Plan:=[
  (508,fun S T H=>F.f83_l1 (sy c) Q (T 0) (T 6) (T 9) (T 11) H (S 0))]

def kp.f8:Keep:={ keep:=fun n=>[[0,1,2],[0,1,2],[2,8,9],[9],[2,8],[10,11],[],[10]].getD n [],order:=fun n=>[].getD n [] }

def kp.f9:Keep:={ keep:=fun n=>[[0,1,2,3,4],[0,1,2,3,4],[0,1,2,3,4,12,13],[13],[0,1,2,3,4,12],[],[0,1,2,3,4,12],[],[0,1,2,3,4,12],[],[0,1,2,3,4,12],[],[0,1,2,3,4,12],[0,1,2,3,4,12,14],[0,1,2,3,4,12,14],[0,1,2,3,4,12,14],[0,1,2,3,4,12,14,15],[0,1,2,4,12,14,15,80],[0,1,2,12,14,15],[0,2,4,12,14,15,80],[0,2,4,12,14,15],[0,2,12,14,15],[0,2,12,14],[0,14],[14]].getD n [],order:=fun n=>[[],[],[],[],[],[],[],[],[(0,0),(1,1),(2,3),(3,7),(4,15),(5,0),(6,32),(7,96),(8,224),(9,511),(10,1023)]].getD n [] }
def pl.f9 (Q:VK) (c:CallT):Plan:=[
  (255,fun S T H=>F.f9_j1 (sy c) Q (T 0) (T 2) (T 12) (T 14) (T 15) H),
  (124,fun S T H=>F.f9_l1 (sy c) Q (T 0) (T 1) (T 2) (T 3) (T 4) (T 12) (T 14) H (S 0))]

def kp.f7:Keep:={ keep:=fun n=>[[0,1],[0,1],[],[0,1]].getD n [],order:=fun n=>[].getD n [] }

def kp.f36:Keep:={ keep:=fun n=>[[0,1],[0,3],[],[0,3]].getD n [],order:=fun n=>[].getD n [] }

def kp.f6:Keep:={ keep:=fun n=>[[0,1,2,3],[0,1,2,3],[0,1,2,3,9,10],[10],[0,1,2,3,9],[0,1,2,3,9,11],[],[0,1,2,3,9,11],[],[0,1,2,3,9,11],[],[0,1,2,9,11],[0,9,11],[0,9],[0,9],[]].getD n [],order:=fun n=>[].getD n [] }

def kp.f10:Keep:={ keep:=fun n=>[[0,1,2,3,4],[0,1,2,3,4],[0,1,2,3,4,11,12],[12],[0,1,2,3,4,11],[0,1,2,3,4,11,12,13],[12],[0,1,2,3,4,11,13],[0,1,2,3,4,11,13,14],[0,1,2,3,4,11,13,14,15,16],[],[0,1,2,3,4,11,13,14,15,16],[],[0,1,2,3,4,11,13,14,15,16],[0,1,2,3,4,11,13,14,16,17],[17],[0,1,2,3,4,11,13,14,16],[0,1,2,3,4,11,13,14],[0,1,2,3,4,11,13,14,18],[18],[0,1,2,3,4,11,13,14],[0,3,4,11,13,14],[0,3,14],[0,3,14],[0],[]].getD n [],order:=fun n=>[].getD n [] }
def pl.f10 (Q:VK) (c:CallT):Plan:=[
  (32767,fun S T H=>F.f10_j2 (sy c) Q (T 0) H),
  (4095,fun S T H=>F.f10_j1 (sy c) Q (T 0) (T 1) (T 2) (T 3) (T 4) (T 11) (T 13) (T 14) H)]

def kp.f82:Keep:={ keep:=fun n=>[[0,1],[0,3],[],[0,3],[0,3,5],[5,7]].getD n [],order:=fun n=>[[],[],[],[(0,0),(1,1),(2,3),(3,7),(4,0),(5,16),(6,63),(7,127)],[(0,0),(1,1),(2,3),(3,7),(4,0),(5,16),(10,0),(6,63),(7,127),(8,255),(9,255),(11,1535),(12,4095)]].getD n [] }

def kp.f11:Keep:={ keep:=fun n=>[[0],[0],[],[0],[0,3],[3,11],[3,11],[3,4,11],[3],[3]].getD n [],order:=fun n=>[].getD n [] }
def pl.f11 (Q:VK) (c:CallT):Plan:=[
  (122,fun S T H=>F.f11_l1 (sy c) Q (T 3) (T 11) H (S 0))]

def kp.f2:Keep:={ keep:=fun n=>[[0],[0],[],[0]].getD n [],order:=fun n=>[].getD n [] }

def kp.f12:Keep:={ keep:=fun n=>[[0,1,2],[0,1,2],[0,2,7],[0,2,7,11],[0,2,7,11],[],[0,2,7,11],[],[0,2,7,11],[],[0,2,7,11],[0,2,7,11],[]].getD n [],order:=fun n=>[[],[],[],[],[],[],[],[],[(0,0),(1,1),(2,3),(3,7),(4,0),(5,16),(6,48),(7,112),(8,255)],[],[(0,0),(1,1),(2,3),(3,7),(4,0),(5,16),(6,48),(7,112),(8,255),(9,511)]].getD n [] }
def pl.f12 (Q:VK) (c:CallT):Plan:=[
  (58,fun S T H=>F.f12_l1 (sy c) Q (T 0) (T 2) (T 7) (T 11) H (S 0))]

def kp.f33:Keep:={ keep:=fun n=>[[0],[0],[],[0]].getD n [],order:=fun n=>[].getD n [] }

def kp.f4:Keep:={ keep:=fun n=>[[0],[0],[3],[3]].getD n [],order:=fun n=>[].getD n [] }

def kp.f29:Keep:={ keep:=fun n=>[[],[]].getD n [],order:=fun n=>[].getD n [] }

def kp.f85:Keep:={ keep:=fun n=>[[0,1,2],[0,2,4,6],[0,2,6,8],[6,8],[0,2,6,8],[6,8],[0,2,6,8],[6,8],[0,2,6,8],[0,2,6,8],[2,6,8],[6,8]].getD n [],order:=fun n=>[[],[],[],[],[],[],[],[],[],[(0,0),(1,1),(2,3),(3,7),(4,0),(5,31),(6,63),(7,127)]].getD n [] }
def pl.f85 (Q:VK) (c:CallT):Plan:=[
  (15,fun S T H=>F.f85_j1 (sy c) Q (T 2) (T 6) (T 8) H)]

def kp.f89:Keep:={ keep:=fun n=>[[0,1],[0,1],[0,1,5],[0,1,5],[],[0,1,5],[0],[0],[0,6],[],[],[0,1,5],[],[0,1,5],[0,1,7,8],[8],[0,1,7],[0,1,7,9],[0,9],[0,7,9],[0,9],[0],[]].getD n [],order:=fun n=>[[],[],[],[(0,0),(1,1),(2,3),(3,7),(4,0),(5,16),(6,48),(7,112),(8,255),(9,511)],[],[],[(0,0),(1,0),(2,2),(3,6),(4,14),(5,0),(6,32),(7,96),(8,224),(9,510),(10,1023),(11,2047),(12,4095)],[(0,0),(1,1),(2,3),(3,7),(4,15),(5,31),(6,63),(7,0),(8,128),(9,384),(10,896),(11,1920),(12,4095),(13,8191)],[(0,0),(1,1),(2,3),(3,7),(4,15),(5,31),(6,63),(7,7),(8,135),(9,391),(10,903),(11,2047),(12,4095),(13,8191)],[],[],[],[],[(0,0),(1,1),(2,3),(3,7),(4,15),(5,31),(6,63),(7,0),(8,128),(9,384),(10,896),(11,1920),(12,0),(13,8191),(14,16383),(15,32767),(16,32767),(17,65535),(18,262143)],[],[],[],[],[],[],[],[(0,0),(1,0),(2,2),(3,6),(4,14),(5,30),(6,62),(7,126),(8,0),(9,256),(10,768),(11,1792),(12,4094),(13,8191),(14,16383),(15,32767)]].getD n [] }

def kp.f14:Keep:={ keep:=fun n=>[[0,1],[0,1],[6],[],[6],[],[6]].getD n [],order:=fun n=>[].getD n [] }

def kp.f16:Keep:={ keep:=fun n=>[[0,1,2],[0,1,2],[2,8,9],[9],[2,8],[],[2,8],[8,11],[],[8],[],[8],[],[8]].getD n [],order:=fun n=>[].getD n [] }

def kp.f13:Keep:={ keep:=fun n=>[[0,1],[0,1],[0,1,5],[0,1,5],[0,1,5],[5]].getD n [],order:=fun n=>[].getD n [] }
def pl.f13 (Q:VK) (c:CallT):Plan:=[
  (28,fun S T H=>F.f13_l1 (sy c) Q (T 0) (T 1) (T 5) H (S 0))]

def kp.f70:Keep:={ keep:=fun n=>[[0,1],[0,1]].getD n [],order:=fun n=>[].getD n [] }

def kp.f37:Keep:={ keep:=fun n=>[[0,1],[1,2]].getD n [],order:=fun n=>[].getD n [] }

def kp.f44:Keep:={ keep:=fun n=>[[0,1],[0,1]].getD n [],order:=fun n=>[].getD n [] }

def kp.f18:Keep:={ keep:=fun n=>[[0,1],[0,1,4],[0,1]].getD n [],order:=fun n=>[].getD n [] }

def kp.f15:Keep:={ keep:=fun n=>[[0,1,2,3,4,5],[0,1,2,3,4,5],[],[0,1,2,4,5],[],[0,1,2,4,5],[],[0,1,2,4,5],[],[0,1,4,5],[],[0,1,5],[1,13],[],[1,13],[],[13],[],[]].getD n [],order:=fun n=>[[],[],[],[],[],[(0,0),(1,1),(2,3),(3,7),(4,15),(5,31),(6,63),(7,63),(8,191),(9,447),(10,959),(11,63),(12,2111),(13,6207),(14,14399),(15,32767),(16,65535),(17,131071)],[],[(0,0),(1,1),(2,3),(3,7),(4,15),(5,31),(6,63),(7,63),(8,191),(9,447),(10,959),(12,63),(13,63),(14,8255),(15,24639),(16,57407),(11,2047),(17,131071),(18,262143),(19,524287),(20,1048575),(21,2097151)]].getD n [] }

def kp.f86:Keep:={ keep:=fun n=>[[0],[0]].getD n [],order:=fun n=>[].getD n [] }

def kp.f32:Keep:={ keep:=fun n=>[[0,1],[0,1,4],[0,4,6],[4],[0,4,6]].getD n [],order:=fun n=>[].getD n [] }

def kp.f38:Keep:={ keep:=fun n=>[[0,1],[0,3],[],[0,3]].getD n [],order:=fun n=>[].getD n [] }

def kp.f34:Keep:={ keep:=fun n=>[[0,1],[0,3,4],[3,4],[0,3,4],[0,3,4,5],[3,4],[0,3,4,5]].getD n [],order:=fun n=>[[],[],[],[],[],[],[(0,0),(1,1),(2,3),(3,7),(4,0),(5,31),(6,63),(7,127),(8,0),(9,256),(10,768),(11,1792),(12,0),(13,7936),(14,16128),(15,32512),(16,65535),(17,131071)]].getD n [] }
def pl.f34 (Q:VK) (c:CallT):Plan:=[
  (14,fun S T H=>F.f34_l1 (sy c) Q (T 0) (T 3) (T 4) H (S 0))]

def kp.f46:Keep:={ keep:=fun n=>[[0],[0,2]].getD n [],order:=fun n=>[].getD n [] }

def kp.f64:Keep:={ keep:=fun n=>[[0,1],[0,1]].getD n [],order:=fun n=>[].getD n [] }

def kp.f3:Keep:={ keep:=fun n=>[[0],[0]].getD n [],order:=fun n=>[].getD n [] }

def kp.f43:Keep:={ keep:=fun n=>[[0],[0],[],[0]].getD n [],order:=fun n=>[].getD n [] }

def kp.f87:Keep:={ keep:=fun n=>[[0],[0],[0,3],[3,7,8,9],[3,7,8,9],[3,5,7,8,9],[3,5,7,8,9],[3,7,8,9],[3]].getD n [],order:=fun n=>[].getD n [] }
def pl.f87 (Q:VK) (c:CallT):Plan:=[
  (58,fun S T H=>F.f87_l1 (sy c) Q (T 3) (T 7) (T 8) (T 9) H (S 0))]

def kp.f84:Keep:={ keep:=fun n=>[[0,1],[0,3,4],[4],[0,3,4],[0,3,4,5,6],[0,3,4,5],[0,3,4],[0,3,4,7],[4],[0,3,4,7]].getD n [],order:=fun n=>[[],[],[],[(0,0),(1,1),(2,3),(3,7),(4,0),(9,0),(5,31),(6,63),(7,127),(8,127),(10,767),(11,2047)],[],[],[(0,0),(1,1),(2,3),(3,7),(4,0),(5,16),(6,63),(7,127)],[],[],[(0,0),(1,1),(2,3),(3,7),(4,0),(5,16),(6,0),(7,64),(8,192),(9,448),(10,1008),(11,2047),(12,4095)]].getD n [] }
def pl.f84 (Q:VK) (c:CallT):Plan:=[
  (28,fun S T H=>F.f84_l1 (sy c) Q (T 0) (T 3) (T 4) H (S 0))]

def kp.f88:Keep:={ keep:=fun n=>[[0,1],[0,1],[0,1],[],[0,1],[0,1],[0,1],[]].getD n [],order:=fun n=>[[],[],[],[],[],[(0,0),(1,0),(2,2),(3,6),(4,14),(5,30),(6,62),(7,126),(8,0),(9,510),(10,1023),(11,2047),(12,4095)],[(0,0),(1,0),(3,0),(4,8),(5,24),(6,56),(2,2),(7,126),(8,255),(9,511),(10,1023)]].getD n [] }
def pl.f88 (Q:VK) (c:CallT):Plan:=[
  (15,fun S T H=>F.f88_j1 (sy c) Q (T 0) (T 1) H)]

def kp.f45:Keep:={ keep:=fun n=>[[0,1],[0,1],[0,1,7,8],[0,1,7,8],[0,1,5,7,8],[5],[0,1,7,8],[]].getD n [],order:=fun n=>[].getD n [] }
def pl.f45 (Q:VK) (c:CallT):Plan:=[
  (26,fun S T H=>F.f45_l1 (sy c) Q (T 0) (T 1) (T 7) (T 8) H (S 0))]

def kp.f17:Keep:={ keep:=fun n=>[[0,1],[0,1],[0,1,5],[0,5,17],[0,5,17],[0,5,7,17],[0,5,7,17],[5]].getD n [],order:=fun n=>[].getD n [] }
def pl.f17 (Q:VK) (c:CallT):Plan:=[
  (58,fun S T H=>F.f17_l1 (sy c) Q (T 0) (T 5) (T 17) H (S 0))]

def kp.f39:Keep:={ keep:=fun n=>[[0,1],[1,2]].getD n [],order:=fun n=>[].getD n [] }

def kp.f35:Keep:={ keep:=fun n=>[[0,1],[1,2]].getD n [],order:=fun n=>[].getD n [] }

def kp.f26:Keep:={ keep:=fun n=>[[0],[0],[0]].getD n [],order:=fun n=>[].getD n [] }

def kp.f58:Keep:={ keep:=fun n=>[[0,1,2,3],[0,1,2,3,8],[0,1,2,3,8,9],[0,1,2,3,8,9,10],[0,1,2],[0,1,2,3,8,9,10],[0,1,2],[0,1,2,3,8,9,10],[0,1,2,3,8,9,10],[0,1,2,3,8,9,10],[0,1,2,3,8,9,10],[0,1,2,3,8,9,10,11,12],[0,1,2,3,8,9,10,11],[0,1,2,3,8,9,10,11],[0,1,2,3,8,9,10,11],[0,1,2,3,8,9,10,11,12],[0,1,2,3,8,9,10,11],[0,1,2,3,8,9,10,11],[0,1,2,3,8,9,11],[0,2,3,8,9,13],[0,1,2,3,10,11],[0,1,2,3,10,14,15],[0,1,2,3,9,10,14],[0,1,2,3,9,10,14,16,17],[0,1,2,3,9,14,16,17,18],[0,1,2,3,9,14,16,18],[0,1,2,3,8,9,14],[0,2,3,8,9,14],[0,1,2,3,9,14,17,18],[0,1,2,3,8,9,14],[0,1,3,8,9,14]].getD n [],order:=fun n=>[[],[],[],[],[],[],[],[],[],[],[],[],[],[],[],[],[],[(0,0),(1,1),(2,3),(3,7),(4,7),(5,23),(6,63),(7,127),(8,7),(9,7),(10,775),(11,1799),(12,4095),(13,8191),(14,16383)]].getD n [] }
def pl.f58 (Q:VK) (c:CallT):Plan:=[
  (7295,fun S T H=>F.f58_j3 (sy c) Q (S 0) (T 0) (T 1) (T 2) (T 3) (T 8) (T 9) (T 10) (T 11) H),
  (3647,fun S T H=>F.f58_j2 (sy c) Q (S 0) (T 0) (T 1) (T 2) (T 3) (T 8) (T 9) (T 10) (T 11) (T 12) H),
  (911,fun S T H=>F.f58_j1 (sy c) Q (S 0) (T 0) (T 1) (T 2) (T 3) (T 8) (T 9) (T 10) H),
  (14,fun S T H=>F.f58_l1 (sy c) Q (T 0) (T 1) (T 2) (T 3) (T 8) (T 9) H (S 0))]

def kp.f68:Keep:={ keep:=fun n=>[[0,1,2],[0,1,2],[1,2,10],[1,2,10,11],[1,2,7,8,10],[7],[]].getD n [],order:=fun n=>[].getD n [] }
def pl.f68 (Q:VK) (c:CallT):Plan:=[
  (26,fun S T H=>F.f68_l1 (sy c) Q (T 1) (T 2) (T 10) H (S 0))]

def kp.f65:Keep:={ keep:=fun n=>[[0,1],[0,1]].getD n [],order:=fun n=>[].getD n [] }

def kp.f31:Keep:={ keep:=fun n=>[[0,1],[0,3,4],[3,4,6,7],[4],[4,6]].getD n [],order:=fun n=>[].getD n [] }

def kp.f28:Keep:={ keep:=fun n=>[[0],[0,2],[0],[0],[0,2],[0,2],[0,2],[0,2],[0,2],[0,2],[0,2]].getD n [],order:=fun n=>[].getD n [] }
def pl.f28 (Q:VK) (c:CallT):Plan:=[
  (31,fun S T H=>F.f28_j3 (sy c) Q (T 0) (T 2) H),
  (15,fun S T H=>F.f28_j2 (sy c) Q (T 0) (T 2) H),
  (7,fun S T H=>F.f28_j1 (sy c) Q (T 0) (T 2) H)]

def kp.f50:Keep:={ keep:=fun n=>[[0,1,2],[0,1,2,6],[0,1,2,6],[0,1,2,6],[0,1,2,6,7],[0,1,2,6,7],[0,1,2,6,7]].getD n [],order:=fun n=>[[],[],[],[],[(0,0),(1,0),(2,3),(3,7),(4,15),(5,15),(6,63),(7,127),(8,15),(9,15),(10,527),(11,1807),(12,3855),(13,8191),(14,16383)],[],[(0,0),(1,0),(2,0),(3,0),(4,8),(5,0),(6,0),(7,64),(8,224),(9,480),(10,0),(11,0),(12,3072),(13,7168),(14,16355),(15,32739),(16,65535),(17,131071)]].getD n [] }
def pl.f50 (Q:VK) (c:CallT):Plan:=[
  (402,fun S T H=>F.f50_l2 (sy c) Q (S 1) (T 0) (T 1) (T 2) (T 6) (T 7) H (S 0)),
  (6,fun S T H=>F.f50_l1 (sy c) Q (T 0) (T 1) (T 2) (T 6) H (S 0))]

def kp.f49:Keep:={ keep:=fun n=>[[0,1,2],[0,1,2,6],[0,1,2,6,7],[0,6,7,8],[0,6,7,8,9],[0,6,7,8,9],[0,6,7,8,9],[0,6,7,8],[0,6,7,10],[0,6,7,10],[0,6,7,10],[0,6,7,10]].getD n [],order:=fun n=>[[],[],[],[],[],[],[],[],[],[],[(0,0),(1,0),(2,0),(3,0),(4,0),(5,24),(6,0),(7,0),(8,0),(9,384),(10,960),(11,1984),(12,0),(13,0),(14,12288),(15,28672),(16,65475),(17,131011),(18,262143),(19,524287)]].getD n [] }
def pl.f49 (Q:VK) (c:CallT):Plan:=[
  (126,fun S T H=>F.f49_l2 (sy c) Q (T 0) (T 6) (T 7) (T 10) H (S 0)),
  (122,fun S T H=>F.f49_l1 (sy c) Q (T 0) (T 6) (T 7) (T 8) (T 9) H (S 0))]

def kp.f47:Keep:={ keep:=fun n=>[[0,1,2],[0,1,6],[0,1,6],[0,1,6,7],[0,1,6,7,8],[0,1,6,7,8,9],[0,1,6,7,8,9],[0,1,6,7,8,9],[0,1,6,7,8,9,10],[0,1,6,7,8,9,10],[0,1,6,7,8,9,10]].getD n [],order:=fun n=>[[],[],[],[],[],[],[],[],[],[],[(0,0),(1,0),(2,0),(3,0),(4,0),(5,24),(6,0),(7,0),(8,0),(9,384),(10,960),(11,1984),(12,0),(13,0),(14,12288),(15,28672),(16,65475),(17,131011),(18,262143),(19,524287)]].getD n [] }
def pl.f47 (Q:VK) (c:CallT):Plan:=[
  (15251,fun S T H=>F.f47_j1 (sy c) Q (S 0) (T 0) (T 1) (T 6) (T 7) (T 8) (T 9) (T 10) H),
  (238,fun S T H=>F.f47_l1 (sy c) Q (T 0) (T 1) (T 6) (T 7) (T 8) (T 9) H (S 0))]

def kp.f48:Keep:={ keep:=fun n=>[[0,1,2],[0,1,2],[0,1,8],[0,1,8,9],[0,1,8,9,10],[0,1,8,9,10,11],[0,8,9,10,11,12],[0,8,9,10,11,12],[0,9,10,11,12],[0,9,10,11,12],[0,9,10,11,12],[0,9,10,11,12],[9,11],[11],[11,49],[11],[11,49],[11]].getD n [],order:=fun n=>[].getD n [] }
def pl.f48 (Q:VK) (c:CallT):Plan:=[
  (255,fun S T H=>F.f48_j1 (sy c) Q (T 9) (T 11) H),
  (2037,fun S T H=>F.f48_j2 (sy c) Q (T 0) (T 9) (T 10) (T 11) (T 12) H)]

def kp.f59:Keep:={ keep:=fun n=>[[0,1,2],[0,2,6],[0,6,7],[0,6,7],[0,6,7],[0,6,7]].getD n [],order:=fun n=>[[],[],[],[(0,0),(1,0),(2,0),(3,0),(4,0),(5,0),(6,48),(7,112),(8,0),(9,0),(10,768),(11,1792),(12,4083),(13,8179),(14,16383),(15,32767)]].getD n [] }
def pl.f59 (Q:VK) (c:CallT):Plan:=[
  (14,fun S T H=>F.f59_l1 (sy c) Q (T 0) (T 6) (T 7) H (S 0))]

def kp.f55:Keep:={ keep:=fun n=>[[0,1,2],[0,1,2],[0,1,2,7],[0,1,2,7,8],[0,1,2,7,8],[0,1,2,7,8],[0,1,2,7,8],[0,1,2,7,8],[],[0,1,2,7,8],[],[0,1,2,7,8],[0,1,2,7,8],[0,1,2,7,8],[0,1,2,7,8,9],[0,1,2,7,8,9],[0,1,2,7,8,9],[0,1,2,7,8,9],[0,1,2,7,8],[0,1,2,7,8],[0,1,2,7,8,10],[0,1,2,7,8,10],[0,1,2,7,8,10],[0,1,2,7,8,10],[]].getD n [],order:=fun n=>[[],[],[],[],[],[(0,0),(1,0),(2,3),(3,7),(4,15),(5,15),(6,63),(7,127),(8,15),(9,15),(10,527),(11,1807),(12,3855),(13,8191),(14,16383),(15,32767)],[],[],[],[],[],[(0,0),(1,0),(2,0),(3,0),(4,8),(5,0),(6,0),(7,64),(8,224),(9,480),(10,0),(11,0),(12,3072),(13,7168),(14,16355),(15,32739),(16,65535),(17,131071)],[],[],[],[],[(0,0),(1,0),(2,3),(3,7),(4,0),(5,0),(6,32),(7,112),(8,240),(9,511),(10,1023)],[(0,0),(1,0),(2,0),(3,0),(4,8),(5,0),(6,0),(7,64),(8,224),(9,480),(10,0),(11,0),(12,3072),(13,7168),(14,16355),(15,32739),(16,65535),(17,131071)],[],[],[],[],[(0,0),(1,0),(2,3),(3,7),(4,0),(5,0),(6,32),(7,112),(8,240),(9,511),(10,1023)],[(0,0),(1,0),(2,0),(3,0),(4,8),(5,0),(6,0),(7,64),(8,224),(9,480),(10,0),(11,0),(12,3072),(13,7168),(14,16355),(15,32739),(16,65535),(17,131071)]].getD n [] }
def pl.f55 (Q:VK) (c:CallT):Plan:=[
  (477690,fun S T H=>F.f55_l3 (sy c) Q (S 1) (T 0) (T 1) (T 2) (T 7) (T 8) (T 10) H (S 0)),
  (29855,fun S T H=>F.f55_j1 (sy c) Q (S 0) (T 0) (T 1) (T 2) (T 7) (T 8) H),
  (477674,fun S T H=>F.f55_l4 (sy c) Q (S 1) (T 0) (T 1) (T 2) (T 7) (T 8) (T 9) H (S 0)),
  (3728,fun S T H=>F.f55_l2 (sy c) Q (S 1) (T 0) (T 1) (T 2) (T 7) (T 8) H (S 0)),
  (58,fun S T H=>F.f55_l1 (sy c) Q (T 0) (T 1) (T 2) (T 7) (T 8) H (S 0))]

def kp.f0:Keep:={ keep:=fun n=>[[0,1],[0,1]].getD n [],order:=fun n=>[].getD n [] }

def kp.f56:Keep:={ keep:=fun n=>[[0,1,2,3],[0,1,2,3],[0,1,2],[0,1,9,10],[0,1,9,10],[0,1,9,10],[0,1,9,10],[0,1,9,10],[0,1,9,10],[0,1,9,10],[0,1,9,10],[9]].getD n [],order:=fun n=>[[],[(0,0),(1,0),(2,0),(3,0),(4,0),(5,0),(6,48),(7,112),(8,0),(9,0),(10,768),(11,1792),(12,4083),(13,8179),(14,16383),(15,32767)],[],[(0,0),(1,0),(2,3),(3,7),(4,15),(5,15),(6,63),(7,127),(8,15),(9,15),(10,783),(11,1807),(12,4095),(13,8191),(14,16383)],[],[(0,0),(1,0),(2,3),(3,7),(4,15),(5,15),(6,63),(7,127),(8,15),(9,15),(10,783),(11,1807),(12,4095),(13,8191)],[],[],[(0,0),(1,0),(2,0),(3,0),(4,0),(5,0),(6,48),(7,112),(8,0),(9,0),(10,768),(11,1792),(12,4083),(13,8179),(14,16383),(15,32767)]].getD n [] }
def pl.f56 (Q:VK) (c:CallT):Plan:=[
  (1924,fun S T H=>F.f56_l3 (sy c) Q (S 1) (T 0) (T 1) (T 9) (T 10) H (S 0)),
  (960,fun S T H=>F.f56_l2 (sy c) Q (S 1) (T 0) (T 1) (T 9) (T 10) H (S 0)),
  (60,fun S T H=>F.f56_l1 (sy c) Q (T 0) (T 1) (T 9) (T 10) H (S 0))]

def kp.f57:Keep:={ keep:=fun n=>[[0,1,2,3],[0,1,2,3],[0,1,2],[0,1,10,11],[0,1,10,11],[0,1,10,11],[0,1,10,11],[0,1,10,11],[0,1,11],[11],[0,1,10,11],[0,1,10,11],[0,1,10,11],[0,1,10,11],[0,1,10,11],[0,1,10,11],[0,1,10,11],[0,1,10,11],[0,1,10,11],[0,1,10,11],[0,1,10,11],[0,1,11],[11]].getD n [],order:=fun n=>[[],[(0,0),(1,0),(2,0),(3,0),(4,0),(5,0),(6,48),(7,112),(8,0),(9,0),(10,768),(11,1792),(12,4083),(13,8179),(14,16383),(15,32767)],[],[(0,0),(1,0),(2,3),(3,7),(4,15),(5,15),(6,63),(7,127),(8,15),(9,15),(10,783),(11,1807),(12,4095),(13,8191)],[],[(0,0),(1,0),(2,3),(3,7),(4,15),(5,15),(6,63),(7,127),(8,15),(9,15),(10,783),(11,1807),(12,4095),(13,8191),(14,16383)],[],[],[(0,0),(1,0),(2,0),(3,0),(4,0),(5,0),(6,48),(7,112),(8,0),(9,0),(10,768),(11,1792),(12,4083),(13,8179),(14,16383),(15,32767)],[],[(0,0),(1,0),(2,0),(3,0),(4,0),(5,0),(6,48),(7,112),(8,0),(9,0),(10,768),(11,1792),(12,4083),(13,8179),(14,16383),(15,32767)],[],[],[(0,0),(1,0),(2,3),(3,7),(4,15),(5,15),(6,63),(7,127),(8,15),(9,15),(10,783),(11,1807),(12,4095),(13,8191)],[],[(0,0),(1,0),(2,3),(3,7),(4,15),(5,15),(6,63),(7,127),(8,15),(9,15),(10,783),(11,1807),(12,4095),(13,8191),(14,16383)],[],[],[(0,0),(1,0),(2,0),(3,0),(4,0),(5,0),(6,48),(7,112),(8,0),(9,0),(10,768),(11,1792),(12,4083),(13,8179),(14,16383),(15,32767)],[],[],[(0,0),(1,0),(2,0),(3,0),(4,0),(5,0),(6,48),(7,112),(8,0),(9,0),(10,768),(11,1792),(12,4083),(13,8179),(14,16383),(15,32767)]].getD n [] }
def pl.f57 (Q:VK) (c:CallT):Plan:=[
  (130948,fun S T H=>F.f57_l5 (sy c) Q (S 1) (T 0) (T 1) (T 10) (T 11) H (S 0)),
  (65472,fun S T H=>F.f57_l4 (sy c) Q (S 1) (T 0) (T 1) (T 10) (T 11) H (S 0)),
  (4092,fun S T H=>F.f57_l3 (sy c) Q (T 0) (T 1) (T 10) (T 11) H (S 0)),
  (124,fun S T H=>F.f57_l2 (sy c) Q (T 0) (T 1) (T 10) (T 11) H (S 0)),
  (60,fun S T H=>F.f57_l1 (sy c) Q (T 0) (T 1) (T 10) (T 11) H (S 0))]

def kp.f67:Keep:={ keep:=fun n=>[[0,1,2,3],[0,1,2,3],[],[0,1,2,3],[0,3],[0,1,2,3],[0,1,2],[0,1,2,3],[0,1,2,3],[0,1,2,3,9],[0,1,2,3,9],[0,1,2,3,9,10],[0,1,2,3,9,10],[0,1,2,3,9,10,11],[0,1,2,3,9,10,11],[0,1,2,3,9,10,11],[0,1,2,3,9,10],[0,9,10],[9,10]].getD n [],order:=fun n=>[].getD n [] }
def pl.f67 (Q:VK) (c:CallT):Plan:=[
  (1023,fun S T H=>F.f67_j2 (sy c) Q (T 0) (T 9) (T 10) H),
  (2044,fun S T H=>F.f67_l1 (sy c) Q (T 0) (T 1) (T 2) (T 3) (T 9) (T 10) H (S 0)),
  (31,fun S T H=>F.f67_j1 (sy c) Q (T 0) (T 1) (T 2) (T 3) H)]

def kp.f60:Keep:={ keep:=fun n=>[[0,1,2,3],[0,2,3,8],[0,2,3,8,9],[0,2,3,8,9],[0,2,3,8,9],[0,2,3,8,9],[0,2,3,8,9],[0,2,3,9]].getD n [],order:=fun n=>[[],[],[],[(0,0),(1,1),(2,0),(3,7),(4,15),(5,31),(6,31),(7,31),(8,223),(9,511),(10,1023),(11,31),(12,31),(13,31),(14,12319),(15,28703),(16,63519),(17,129055),(18,262143),(19,524287)],[],[(0,0),(1,0),(2,0),(3,6),(4,15),(5,31),(6,0),(7,0),(8,0),(9,384),(10,960),(11,1984),(12,4095),(13,8191)],[(0,0),(1,0),(2,0),(3,6),(4,0),(5,0),(6,0),(7,96),(8,0),(9,0),(10,0),(11,1536),(12,3840),(13,7936),(14,0),(15,0),(16,0),(17,98304),(18,245760),(19,507904),(20,1048335),(21,2096911),(22,4194303),(23,8388607)]].getD n [] }
def pl.f60 (Q:VK) (c:CallT):Plan:=[
  (199,fun S T H=>F.f60_j1 (sy c) Q (S 0) (T 0) (T 2) (T 3) (T 8) (T 9) H),
  (6,fun S T H=>F.f60_l1 (sy c) Q (T 0) (T 2) (T 3) (T 8) H (S 0))]

def kp.f53:Keep:={ keep:=fun n=>[[0],[0]].getD n [],order:=fun n=>[].getD n [] }

def kp.f61:Keep:={ keep:=fun n=>[[0],[0],[0],[0],[0]].getD n [],order:=fun n=>[[],[(0,0),(1,1),(2,3),(3,0),(4,8),(5,24),(6,56),(7,127),(8,255),(9,511)],[(0,0),(1,1),(2,3),(3,0),(4,8),(5,24),(6,56),(7,127),(8,255),(9,511)],[(0,0),(1,1),(2,3),(3,0),(4,8),(5,24),(6,56),(7,127),(8,255),(9,511)]].getD n [] }

def kp.f51:Keep:={ keep:=fun n=>[[0,1,2],[0,1,2]].getD n [],order:=fun n=>[].getD n [] }

def kp.f52:Keep:={ keep:=fun n=>[[0,1,2,3,4],[0,1,2,3,4],[0,1,2,3,4],[0,1,2,4],[2]].getD n [],order:=fun n=>[].getD n [] }

def kp.f1:Keep:={ keep:=fun n=>[[0],[0]].getD n [],order:=fun n=>[].getD n [] }

def kp.f62:Keep:={ keep:=fun n=>[[0,1],[0,1],[0],[0,1],[0,1],[0,1],[0,1,5],[0,1,5,6],[5],[0,1,5,6],[0,1,5,6]].getD n [],order:=fun n=>[].getD n [] }
def pl.f62 (Q:VK) (c:CallT):Plan:=[
  (62,fun S T H=>F.f62_l1 (sy c) Q (T 0) (T 1) (T 5) H (S 0))]

def kp.f63:Keep:={ keep:=fun n=>[[0,1],[0,1]].getD n [],order:=fun n=>[].getD n [] }

def kp.f54:Keep:={ keep:=fun n=>[[0,1,2,3],[0,1,2,3],[1,2,3],[1,2],[1,2]].getD n [],order:=fun n=>[[],[(0,0),(1,0),(2,3),(3,7),(4,0),(5,0),(6,48),(7,112),(8,255)]].getD n [] }

def kp.f24:Keep:={ keep:=fun n=>[[0,1],[0,1],[0,1,5],[],[0,1,5],[0,1],[0,1,5],[],[0,1,5],[0,1],[0,1,5],[0,1,5,6],[0,1,5,6,7],[0,1,5,6,7,8],[0,1,5,6,7,8,9],[0,1,5,6,7,8,9,10],[0,1,5,6,7,8,9,10],[0,1,5,6,7,8,9,10],[0,1,5,6,7,8,9,10,11],[],[0,1,5,6,7,8,9,10,11],[0,1,5,6,7,8,9,10],[8],[0,1,5,6,7,8,9,10],[0,1,5,6,7,8,9,10],[0,1,5,6,7,8,9,10],[0,1,8],[8,12],[8,12],[],[0,1,5,6,7,8,9,10],[0,1,8],[8,13],[],[8,13],[]].getD n [],order:=fun n=>[].getD n [] }
def pl.f24 (Q:VK) (c:CallT):Plan:=[
  (32709,fun S T H=>F.f24_j1 (sy c) Q (S 0) (T 0) (T 1) (T 5) (T 6) (T 7) (T 8) (T 9) (T 10) H),
  (2044,fun S T H=>F.f24_l1 (sy c) Q (T 0) (T 1) (T 5) (T 6) (T 7) (T 8) (T 9) (T 10) H (S 0))]

def kp.f25:Keep:={ keep:=fun n=>[[0,1],[0,1]].getD n [],order:=fun n=>[].getD n [] }

def kpL:List (Nat×Keep):=[(4,kp.f42),(15,kp.f41),(16,kp.f79),(17,kp.f74),(18,kp.f75),(19,kp.f80),(20,kp.f76),(21,kp.f73),(22,kp.f77),(23,kp.f72),(24,kp.f78),(7,kp.f81),(10,kp.f40),(39,kp.f83),(40,kp.f8),(41,kp.f9),(32,kp.f7),(42,kp.f36),(43,kp.f6),(45,kp.f10),(46,kp.f82),(48,kp.f11),(49,kp.f2),(50,kp.f12),(51,kp.f33),(30,kp.f4),(31,kp.f29),(52,kp.f85),(54,kp.f89),(61,kp.f14),(62,kp.f16),(63,kp.f13),(55,kp.f70),(65,kp.f37),(64,kp.f44),(66,kp.f18),(67,kp.f15),(68,kp.f86),(69,kp.f32),(70,kp.f38),(71,kp.f34),(72,kp.f46),(73,kp.f64),(74,kp.f3),(75,kp.f43),(76,kp.f87),(78,kp.f84),(79,kp.f88),(84,kp.f45),(85,kp.f17),(86,kp.f39),(87,kp.f35),(89,kp.f26),(88,kp.f58),(90,kp.f68),(91,kp.f65),(83,kp.f31),(102,kp.f28),(92,kp.f50),(93,kp.f49),(94,kp.f47),(95,kp.f48),(96,kp.f59),(97,kp.f55),(98,kp.f0),(99,kp.f56),(100,kp.f57),(103,kp.f67),(104,kp.f60),(105,kp.f53),(106,kp.f61),(107,kp.f51),(108,kp.f52),(109,kp.f1),(111,kp.f62),(112,kp.f63),(113,kp.f54),(117,kp.f24),(119,kp.f25)]
def kps (f:FuncId):Keep:=((kpL.find? (fun p=>p.1 == f)).map (fun p=>p.2)).getD { keep:=fun _=>[],order:=fun _=>[] }
def ext:CallT:=fun f args H K=>(f=80/\∃ x0 x1,args=[x0,x1]/\atomicAdd x0 x1 H K)\/(f=116/\∃ x0 x1,args=[x0,x1]/\byteCount x0 x1 H K)\/(f=123/\∃ x0 x1,args=[x0,x1]/\byteIndex x0 x1 H K)\/False
theorem extOk:CallOk Tryd.prog ext:=by
  rintro f args H K (⟨rfl,h⟩ | ⟨rfl,h⟩ | ⟨rfl,h⟩ | h)
  · exact atomicAdd_told Tryd.func80 (by kernel_rfl) (by kernel_rfl) (by kernel_rfl) (by kernel_rfl) h
  · exact byteCount_told Tryd.func116 (by kernel_rfl) (by kernel_rfl) (by kernel_rfl) (by kernel_rfl) h
  · exact byteIndex_told Tryd.func123 (by kernel_rfl) (by kernel_rfl) (by kernel_rfl) (by kernel_rfl) h
  · exact h.elim
abbrev W:CallT:=CallW Tryd.prog kps ext
theorem mkF {i:Nat} {fn:Func} {kp:Keep} {code:Code} {args:List Value} {H:AH} {Q:VK} (pl:CallT->Plan) {G:CallT->Prop} (hfn:Tryd.prog.funcs[i]? = some fn)
    (h1 : (fn.body.isNone, (fn.name == "runtime.NumGoroutine"), codeOk Tryd.prog fn.ntmps (bodyOf fn), fn.body, kps i) = (false, false, true, some code, kp))
    (h2:∀ c,(obls Tryd.prog c kp (pl c) code 1 (fun _=>bodyK Tryd.prog fn.results.toList Q)).map (·.1)=(obls Tryd.prog c kp (pl c) code 1 (fun _=>bodyK Tryd.prog fn.results.toList Q)).map (·.2))
    (h3:∀ c,G c=evD Tryd.prog c kp (pl c) code nostk 1 (argEnv args) H (bodyK Tryd.prog fn.results.toList Q)) (h:G W):W i args H Q:=by
  simp only [Prod.mk.injEq] at h1
  obtain ⟨a,b,c,d,e⟩:=h1
  refine CallW.fold ⟨hfn,a,b,c⟩ ?_
  rw [e]
  exact evBody_of (pl:=pl W) fn args H Q code d (h2 W) (h3 W) h
theorem fold_f42 (x0 x1 x2 x3 x4 x5:Value) (H:AH) (Q:VK):F.f42 (sy W) x0 x1 x2 x3 x4 x5 H Q->W 4 [x0,x1,x2,x3,x4,x5] H Q :=
  mkF (kp:=kp.f42) (code:=bodyOf Tryd.f4) (fun _=>[]) (G:=fun c=>F.f42 (sy c) x0 x1 x2 x3 x4 x5 H Q) Tryd.func4 (by kernel_rfl) (fun c=>by kernel_rfl) (fun c=>by kernel_rfl)
theorem fold_f41 (H:AH) (Q:VK):F.f41 (sy W) H Q->W 15 [] H Q :=
  mkF (kp:=kp.f41) (code:=bodyOf Tryd.f15) (fun _=>[]) (G:=fun c=>F.f41 (sy c) H Q) Tryd.func15 (by kernel_rfl) (fun c=>by kernel_rfl) (fun c=>by kernel_rfl)
theorem fold_f79 (x0 x1 x2:Value) (H:AH) (Q:VK):F.f79 (sy W) x0 x1 x2 H Q->W 16 [x0,x1,x2] H Q :=
  mkF (kp:=kp.f79) (code:=bodyOf Tryd.f16) (fun _=>[]) (G:=fun c=>F.f79 (sy c) x0 x1 x2 H Q) Tryd.func16 (by kernel_rfl) (fun c=>by kernel_rfl) (fun c=>by kernel_rfl)
theorem fold_f74 (x0 x1 x2 x3:Value) (H:AH) (Q:VK):F.f74 (sy W) x0 x1 x2 x3 H Q->W 17 [x0,x1,x2,x3] H Q :=
  mkF (kp:=kp.f74) (code:=bodyOf Tryd.f17) (fun _=>[]) (G:=fun c=>F.f74 (sy c) x0 x1 x2 x3 H Q) Tryd.func17 (by kernel_rfl) (fun c=>by kernel_rfl) (fun c=>by kernel_rfl)
theorem fold_f75 (x0 x1 x2 x3:Value) (H:AH) (Q:VK):F.f75 (sy W) x0 x1 x2 x3 H Q->W 18 [x0,x1,x2,x3] H Q :=
  mkF (kp:=kp.f75) (code:=bodyOf Tryd.f18) (fun _=>[]) (G:=fun c=>F.f75 (sy c) x0 x1 x2 x3 H Q) Tryd.func18 (by kernel_rfl) (fun c=>by kernel_rfl) (fun c=>by kernel_rfl)
theorem fold_f80 (x0 x1:Value) (H:AH) (Q:VK):F.f80 (sy W) x0 x1 H Q->W 19 [x0,x1] H Q :=
  mkF (kp:=kp.f80) (code:=bodyOf Tryd.f19) (fun _=>[]) (G:=fun c=>F.f80 (sy c) x0 x1 H Q) Tryd.func19 (by kernel_rfl) (fun c=>by kernel_rfl) (fun c=>by kernel_rfl)
theorem fold_f76 (x0 x1 x2:Value) (H:AH) (Q:VK):F.f76 (sy W) x0 x1 x2 H Q->W 20 [x0,x1,x2] H Q :=
  mkF (kp:=kp.f76) (code:=bodyOf Tryd.f20) (fun _=>[]) (G:=fun c=>F.f76 (sy c) x0 x1 x2 H Q) Tryd.func20 (by kernel_rfl) (fun c=>by kernel_rfl) (fun c=>by kernel_rfl)
theorem fold_f73 (x0 x1 x2:Value) (H:AH) (Q:VK):F.f73 (sy W) x0 x1 x2 H Q->W 21 [x0,x1,x2] H Q :=
  mkF (kp:=kp.f73) (code:=bodyOf Tryd.f21) (fun _=>[]) (G:=fun c=>F.f73 (sy c) x0 x1 x2 H Q) Tryd.func21 (by kernel_rfl) (fun c=>by kernel_rfl) (fun c=>by kernel_rfl)
theorem fold_f77 (x0 x1 x2:Value) (H:AH) (Q:VK):F.f77 (sy W) x0 x1 x2 H Q->W 22 [x0,x1,x2] H Q :=
  mkF (kp:=kp.f77) (code:=bodyOf Tryd.f22) (fun _=>[]) (G:=fun c=>F.f77 (sy c) x0 x1 x2 H Q) Tryd.func22 (by kernel_rfl) (fun c=>by kernel_rfl) (fun c=>by kernel_rfl)
theorem fold_f72 (x0 x1 x2:Value) (H:AH) (Q:VK):F.f72 (sy W) x0 x1 x2 H Q->W 23 [x0,x1,x2] H Q :=
  mkF (kp:=kp.f72) (code:=bodyOf Tryd.f23) (fun _=>[]) (G:=fun c=>F.f72 (sy c) x0 x1 x2 H Q) Tryd.func23 (by kernel_rfl) (fun c=>by kernel_rfl) (fun c=>by kernel_rfl)
theorem fold_f78 (x0:Value) (H:AH) (Q:VK):F.f78 (sy W) x0 H Q->W 24 [x0] H Q :=
  mkF (kp:=kp.f78) (code:=bodyOf Tryd.f24) (pl.f78 Q) (G:=fun c=>F.f78 (sy c) x0 H Q) Tryd.func24 (by kernel_rfl) (fun c=>by kernel_rfl) (fun c=>by kernel_rfl)
theorem fold_f81 (x0:Value) (H:AH) (Q:VK):F.f81 (sy W) x0 H Q->W 7 [x0] H Q :=
  mkF (kp:=kp.f81) (code:=bodyOf Tryd.f7) (fun _=>[]) (G:=fun c=>F.f81 (sy c) x0 H Q) Tryd.func7 (by kernel_rfl) (fun c=>by kernel_rfl) (fun c=>by kernel_rfl)
theorem fold_f40 (H:AH) (Q:VK):F.f40 (sy W) H Q->W 10 [] H Q :=
  mkF (kp:=kp.f40) (code:=bodyOf Tryd.f10) (fun _=>[]) (G:=fun c=>F.f40 (sy c) H Q) Tryd.func10 (by kernel_rfl) (fun c=>by kernel_rfl) (fun c=>by kernel_rfl)
theorem fold_f83 (x0 x1 x2:Value) (H:AH) (Q:VK):F.f83 (sy W) x0 x1 x2 H Q->W 39 [x0,x1,x2] H Q :=
  mkF (kp:=kp.f83) (code:=bodyOf Tryd.f39) (pl.f83 Q) (G:=fun c=>F.f83 (sy c) x0 x1 x2 H Q) Tryd.func39 (by kernel_rfl) (fun c=>by kernel_rfl) (fun c=>by kernel_rfl)
theorem fold_f8 (x0 x1 x2:Value) (H:AH) (Q:VK):F.f8 (sy W) x0 x1 x2 H Q->W 40 [x0,x1,x2] H Q :=
  mkF (kp:=kp.f8) (code:=bodyOf Tryd.f40) (fun _=>[]) (G:=fun c=>F.f8 (sy c) x0 x1 x2 H Q) Tryd.func40 (by kernel_rfl) (fun c=>by kernel_rfl) (fun c=>by kernel_rfl)
theorem fold_f9 (x0 x1 x2 x3 x4:Value) (H:AH) (Q:VK):F.f9 (sy W) x0 x1 x2 x3 x4 H Q->W 41 [x0,x1,x2,x3,x4] H Q :=
  mkF (kp:=kp.f9) (code:=bodyOf Tryd.f41) (pl.f9 Q) (G:=fun c=>F.f9 (sy c) x0 x1 x2 x3 x4 H Q) Tryd.func41 (by kernel_rfl) (fun c=>by kernel_rfl) (fun c=>by kernel_rfl)
theorem fold_f7 (x0 x1:Value) (H:AH) (Q:VK):F.f7 (sy W) x0 x1 H Q->W 32 [x0,x1] H Q :=
  mkF (kp:=kp.f7) (code:=bodyOf Tryd.f32) (fun _=>[]) (G:=fun c=>F.f7 (sy c) x0 x1 H Q) Tryd.func32 (by kernel_rfl) (fun c=>by kernel_rfl) (fun c=>by kernel_rfl)
theorem fold_f36 (x0 x1:Value) (H:AH) (Q:VK):F.f36 (sy W) x0 x1 H Q->W 42 [x0,x1] H Q :=
  mkF (kp:=kp.f36) (code:=bodyOf Tryd.f42) (fun _=>[]) (G:=fun c=>F.f36 (sy c) x0 x1 H Q) Tryd.func42 (by kernel_rfl) (fun c=>by kernel_rfl) (fun c=>by kernel_rfl)
theorem fold_f6 (x0 x1 x2 x3:Value) (H:AH) (Q:VK):F.f6 (sy W) x0 x1 x2 x3 H Q->W 43 [x0,x1,x2,x3] H Q :=
  mkF (kp:=kp.f6) (code:=bodyOf Tryd.f43) (fun _=>[]) (G:=fun c=>F.f6 (sy c) x0 x1 x2 x3 H Q) Tryd.func43 (by kernel_rfl) (fun c=>by kernel_rfl) (fun c=>by kernel_rfl)
theorem fold_f10 (x0 x1 x2 x3 x4:Value) (H:AH) (Q:VK):F.f10 (sy W) x0 x1 x2 x3 x4 H Q->W 45 [x0,x1,x2,x3,x4] H Q :=
  mkF (kp:=kp.f10) (code:=bodyOf Tryd.f45) (pl.f10 Q) (G:=fun c=>F.f10 (sy c) x0 x1 x2 x3 x4 H Q) Tryd.func45 (by kernel_rfl) (fun c=>by kernel_rfl) (fun c=>by kernel_rfl)
theorem fold_f82 (x0 x1:Value) (H:AH) (Q:VK):F.f82 (sy W) x0 x1 H Q->W 46 [x0,x1] H Q :=
  mkF (kp:=kp.f82) (code:=bodyOf Tryd.f46) (fun _=>[]) (G:=fun c=>F.f82 (sy c) x0 x1 H Q) Tryd.func46 (by kernel_rfl) (fun c=>by kernel_rfl) (fun c=>by kernel_rfl)
theorem fold_f11 (x0:Value) (H:AH) (Q:VK):F.f11 (sy W) x0 H Q->W 48 [x0] H Q :=
  mkF (kp:=kp.f11) (code:=bodyOf Tryd.f48) (pl.f11 Q) (G:=fun c=>F.f11 (sy c) x0 H Q) Tryd.func48 (by kernel_rfl) (fun c=>by kernel_rfl) (fun c=>by kernel_rfl)
theorem fold_f2 (x0:Value) (H:AH) (Q:VK):F.f2 (sy W) x0 H Q->W 49 [x0] H Q :=
  mkF (kp:=kp.f2) (code:=bodyOf Tryd.f49) (fun _=>[]) (G:=fun c=>F.f2 (sy c) x0 H Q) Tryd.func49 (by kernel_rfl) (fun c=>by kernel_rfl) (fun c=>by kernel_rfl)
theorem fold_f12 (x0 x1 x2:Value) (H:AH) (Q:VK):F.f12 (sy W) x0 x1 x2 H Q->W 50 [x0,x1,x2] H Q :=
  mkF (kp:=kp.f12) (code:=bodyOf Tryd.f50) (pl.f12 Q) (G:=fun c=>F.f12 (sy c) x0 x1 x2 H Q) Tryd.func50 (by kernel_rfl) (fun c=>by kernel_rfl) (fun c=>by kernel_rfl)
theorem fold_f33 (x0:Value) (H:AH) (Q:VK):F.f33 (sy W) x0 H Q->W 51 [x0] H Q :=
  mkF (kp:=kp.f33) (code:=bodyOf Tryd.f51) (fun _=>[]) (G:=fun c=>F.f33 (sy c) x0 H Q) Tryd.func51 (by kernel_rfl) (fun c=>by kernel_rfl) (fun c=>by kernel_rfl)
theorem fold_f4 (x0:Value) (H:AH) (Q:VK):F.f4 (sy W) x0 H Q->W 30 [x0] H Q :=
  mkF (kp:=kp.f4) (code:=bodyOf Tryd.f30) (fun _=>[]) (G:=fun c=>F.f4 (sy c) x0 H Q) Tryd.func30 (by kernel_rfl) (fun c=>by kernel_rfl) (fun c=>by kernel_rfl)
theorem fold_f29 (H:AH) (Q:VK):F.f29 (sy W) H Q->W 31 [] H Q :=
  mkF (kp:=kp.f29) (code:=bodyOf Tryd.f31) (fun _=>[]) (G:=fun c=>F.f29 (sy c) H Q) Tryd.func31 (by kernel_rfl) (fun c=>by kernel_rfl) (fun c=>by kernel_rfl)
theorem fold_f85 (x0 x1 x2:Value) (H:AH) (Q:VK):F.f85 (sy W) x0 x1 x2 H Q->W 52 [x0,x1,x2] H Q :=
  mkF (kp:=kp.f85) (code:=bodyOf Tryd.f52) (pl.f85 Q) (G:=fun c=>F.f85 (sy c) x0 x1 x2 H Q) Tryd.func52 (by kernel_rfl) (fun c=>by kernel_rfl) (fun c=>by kernel_rfl)
theorem fold_f89 (x0 x1:Value) (H:AH) (Q:VK):F.f89 (sy W) x0 x1 H Q->W 54 [x0,x1] H Q :=
  mkF (kp:=kp.f89) (code:=bodyOf Tryd.f54) (fun _=>[]) (G:=fun c=>F.f89 (sy c) x0 x1 H Q) Tryd.func54 (by kernel_rfl) (fun c=>by kernel_rfl) (fun c=>by kernel_rfl)
theorem fold_f14 (x0 x1:Value) (H:AH) (Q:VK):F.f14 (sy W) x0 x1 H Q->W 61 [x0,x1] H Q :=
  mkF (kp:=kp.f14) (code:=bodyOf Tryd.f61) (fun _=>[]) (G:=fun c=>F.f14 (sy c) x0 x1 H Q) Tryd.func61 (by kernel_rfl) (fun c=>by kernel_rfl) (fun c=>by kernel_rfl)
theorem fold_f16 (x0 x1 x2:Value) (H:AH) (Q:VK):F.f16 (sy W) x0 x1 x2 H Q->W 62 [x0,x1,x2] H Q :=
  mkF (kp:=kp.f16) (code:=bodyOf Tryd.f62) (fun _=>[]) (G:=fun c=>F.f16 (sy c) x0 x1 x2 H Q) Tryd.func62 (by kernel_rfl) (fun c=>by kernel_rfl) (fun c=>by kernel_rfl)
theorem fold_f13 (x0 x1:Value) (H:AH) (Q:VK):F.f13 (sy W) x0 x1 H Q->W 63 [x0,x1] H Q :=
  mkF (kp:=kp.f13) (code:=bodyOf Tryd.f63) (pl.f13 Q) (G:=fun c=>F.f13 (sy c) x0 x1 H Q) Tryd.func63 (by kernel_rfl) (fun c=>by kernel_rfl) (fun c=>by kernel_rfl)
theorem fold_f70 (x0 x1:Value) (H:AH) (Q:VK):F.f70 (sy W) x0 x1 H Q->W 55 [x0,x1] H Q :=
  mkF (kp:=kp.f70) (code:=bodyOf Tryd.f55) (fun _=>[]) (G:=fun c=>F.f70 (sy c) x0 x1 H Q) Tryd.func55 (by kernel_rfl) (fun c=>by kernel_rfl) (fun c=>by kernel_rfl)
theorem fold_f37 (x0 x1:Value) (H:AH) (Q:VK):F.f37 (sy W) x0 x1 H Q->W 65 [x0,x1] H Q :=
  mkF (kp:=kp.f37) (code:=bodyOf Tryd.f65) (fun _=>[]) (G:=fun c=>F.f37 (sy c) x0 x1 H Q) Tryd.func65 (by kernel_rfl) (fun c=>by kernel_rfl) (fun c=>by kernel_rfl)
theorem fold_f44 (x0 x1:Value) (H:AH) (Q:VK):F.f44 (sy W) x0 x1 H Q->W 64 [x0,x1] H Q :=
  mkF (kp:=kp.f44) (code:=bodyOf Tryd.f64) (fun _=>[]) (G:=fun c=>F.f44 (sy c) x0 x1 H Q) Tryd.func64 (by kernel_rfl) (fun c=>by kernel_rfl) (fun c=>by kernel_rfl)
theorem fold_f18 (x0 x1:Value) (H:AH) (Q:VK):F.f18 (sy W) x0 x1 H Q->W 66 [x0,x1] H Q :=
  mkF (kp:=kp.f18) (code:=bodyOf Tryd.f66) (fun _=>[]) (G:=fun c=>F.f18 (sy c) x0 x1 H Q) Tryd.func66 (by kernel_rfl) (fun c=>by kernel_rfl) (fun c=>by kernel_rfl)
theorem fold_f15 (x0 x1 x2 x3 x4 x5:Value) (H:AH) (Q:VK):F.f15 (sy W) x0 x1 x2 x3 x4 x5 H Q->W 67 [x0,x1,x2,x3,x4,x5] H Q :=
  mkF (kp:=kp.f15) (code:=bodyOf Tryd.f67) (fun _=>[]) (G:=fun c=>F.f15 (sy c) x0 x1 x2 x3 x4 x5 H Q) Tryd.func67 (by kernel_rfl) (fun c=>by kernel_rfl) (fun c=>by kernel_rfl)
theorem fold_f86 (x0:Value) (H:AH) (Q:VK):F.f86 (sy W) x0 H Q->W 68 [x0] H Q :=
  mkF (kp:=kp.f86) (code:=bodyOf Tryd.f68) (fun _=>[]) (G:=fun c=>F.f86 (sy c) x0 H Q) Tryd.func68 (by kernel_rfl) (fun c=>by kernel_rfl) (fun c=>by kernel_rfl)
theorem fold_f32 (x0 x1:Value) (H:AH) (Q:VK):F.f32 (sy W) x0 x1 H Q->W 69 [x0,x1] H Q :=
  mkF (kp:=kp.f32) (code:=bodyOf Tryd.f69) (fun _=>[]) (G:=fun c=>F.f32 (sy c) x0 x1 H Q) Tryd.func69 (by kernel_rfl) (fun c=>by kernel_rfl) (fun c=>by kernel_rfl)
theorem fold_f38 (x0 x1:Value) (H:AH) (Q:VK):F.f38 (sy W) x0 x1 H Q->W 70 [x0,x1] H Q :=
  mkF (kp:=kp.f38) (code:=bodyOf Tryd.f70) (fun _=>[]) (G:=fun c=>F.f38 (sy c) x0 x1 H Q) Tryd.func70 (by kernel_rfl) (fun c=>by kernel_rfl) (fun c=>by kernel_rfl)
theorem fold_f34 (x0 x1:Value) (H:AH) (Q:VK):F.f34 (sy W) x0 x1 H Q->W 71 [x0,x1] H Q :=
  mkF (kp:=kp.f34) (code:=bodyOf Tryd.f71) (pl.f34 Q) (G:=fun c=>F.f34 (sy c) x0 x1 H Q) Tryd.func71 (by kernel_rfl) (fun c=>by kernel_rfl) (fun c=>by kernel_rfl)
theorem fold_f46 (x0:Value) (H:AH) (Q:VK):F.f46 (sy W) x0 H Q->W 72 [x0] H Q :=
  mkF (kp:=kp.f46) (code:=bodyOf Tryd.f72) (fun _=>[]) (G:=fun c=>F.f46 (sy c) x0 H Q) Tryd.func72 (by kernel_rfl) (fun c=>by kernel_rfl) (fun c=>by kernel_rfl)
theorem fold_f64 (x0 x1:Value) (H:AH) (Q:VK):F.f64 (sy W) x0 x1 H Q->W 73 [x0,x1] H Q :=
  mkF (kp:=kp.f64) (code:=bodyOf Tryd.f73) (fun _=>[]) (G:=fun c=>F.f64 (sy c) x0 x1 H Q) Tryd.func73 (by kernel_rfl) (fun c=>by kernel_rfl) (fun c=>by kernel_rfl)
theorem fold_f3 (x0:Value) (H:AH) (Q:VK):F.f3 (sy W) x0 H Q->W 74 [x0] H Q :=
  mkF (kp:=kp.f3) (code:=bodyOf Tryd.f74) (fun _=>[]) (G:=fun c=>F.f3 (sy c) x0 H Q) Tryd.func74 (by kernel_rfl) (fun c=>by kernel_rfl) (fun c=>by kernel_rfl)
theorem fold_f43 (x0:Value) (H:AH) (Q:VK):F.f43 (sy W) x0 H Q->W 75 [x0] H Q :=
  mkF (kp:=kp.f43) (code:=bodyOf Tryd.f75) (fun _=>[]) (G:=fun c=>F.f43 (sy c) x0 H Q) Tryd.func75 (by kernel_rfl) (fun c=>by kernel_rfl) (fun c=>by kernel_rfl)
theorem fold_f87 (x0:Value) (H:AH) (Q:VK):F.f87 (sy W) x0 H Q->W 76 [x0] H Q :=
  mkF (kp:=kp.f87) (code:=bodyOf Tryd.f76) (pl.f87 Q) (G:=fun c=>F.f87 (sy c) x0 H Q) Tryd.func76 (by kernel_rfl) (fun c=>by kernel_rfl) (fun c=>by kernel_rfl)
theorem fold_f84 (x0 x1:Value) (H:AH) (Q:VK):F.f84 (sy W) x0 x1 H Q->W 78 [x0,x1] H Q :=
  mkF (kp:=kp.f84) (code:=bodyOf Tryd.f78) (pl.f84 Q) (G:=fun c=>F.f84 (sy c) x0 x1 H Q) Tryd.func78 (by kernel_rfl) (fun c=>by kernel_rfl) (fun c=>by kernel_rfl)
theorem fold_f88 (x0 x1:Value) (H:AH) (Q:VK):F.f88 (sy W) x0 x1 H Q->W 79 [x0,x1] H Q :=
  mkF (kp:=kp.f88) (code:=bodyOf Tryd.f79) (pl.f88 Q) (G:=fun c=>F.f88 (sy c) x0 x1 H Q) Tryd.func79 (by kernel_rfl) (fun c=>by kernel_rfl) (fun c=>by kernel_rfl)
theorem fold_f45 (x0 x1:Value) (H:AH) (Q:VK):F.f45 (sy W) x0 x1 H Q->W 84 [x0,x1] H Q :=
  mkF (kp:=kp.f45) (code:=bodyOf Tryd.f84) (pl.f45 Q) (G:=fun c=>F.f45 (sy c) x0 x1 H Q) Tryd.func84 (by kernel_rfl) (fun c=>by kernel_rfl) (fun c=>by kernel_rfl)
theorem fold_f17 (x0 x1:Value) (H:AH) (Q:VK):F.f17 (sy W) x0 x1 H Q->W 85 [x0,x1] H Q :=
  mkF (kp:=kp.f17) (code:=bodyOf Tryd.f85) (pl.f17 Q) (G:=fun c=>F.f17 (sy c) x0 x1 H Q) Tryd.func85 (by kernel_rfl) (fun c=>by kernel_rfl) (fun c=>by kernel_rfl)
theorem fold_f39 (x0 x1:Value) (H:AH) (Q:VK):F.f39 (sy W) x0 x1 H Q->W 86 [x0,x1] H Q :=
  mkF (kp:=kp.f39) (code:=bodyOf Tryd.f86) (fun _=>[]) (G:=fun c=>F.f39 (sy c) x0 x1 H Q) Tryd.func86 (by kernel_rfl) (fun c=>by kernel_rfl) (fun c=>by kernel_rfl)
theorem fold_f35 (x0 x1:Value) (H:AH) (Q:VK):F.f35 (sy W) x0 x1 H Q->W 87 [x0,x1] H Q :=
  mkF (kp:=kp.f35) (code:=bodyOf Tryd.f87) (fun _=>[]) (G:=fun c=>F.f35 (sy c) x0 x1 H Q) Tryd.func87 (by kernel_rfl) (fun c=>by kernel_rfl) (fun c=>by kernel_rfl)
theorem fold_f26 (x0:Value) (H:AH) (Q:VK):F.f26 (sy W) x0 H Q->W 89 [x0] H Q :=
  mkF (kp:=kp.f26) (code:=bodyOf Tryd.f89) (fun _=>[]) (G:=fun c=>F.f26 (sy c) x0 H Q) Tryd.func89 (by kernel_rfl) (fun c=>by kernel_rfl) (fun c=>by kernel_rfl)
theorem fold_f58 (x0 x1 x2 x3:Value) (H:AH) (Q:VK):F.f58 (sy W) x0 x1 x2 x3 H Q->W 88 [x0,x1,x2,x3] H Q :=
  mkF (kp:=kp.f58) (code:=bodyOf Tryd.f88) (pl.f58 Q) (G:=fun c=>F.f58 (sy c) x0 x1 x2 x3 H Q) Tryd.func88 (by kernel_rfl) (fun c=>by kernel_rfl) (fun c=>by kernel_rfl)
theorem fold_f68 (x0 x1 x2:Value) (H:AH) (Q:VK):F.f68 (sy W) x0 x1 x2 H Q->W 90 [x0,x1,x2] H Q :=
  mkF (kp:=kp.f68) (code:=bodyOf Tryd.f90) (pl.f68 Q) (G:=fun c=>F.f68 (sy c) x0 x1 x2 H Q) Tryd.func90 (by kernel_rfl) (fun c=>by kernel_rfl) (fun c=>by kernel_rfl)
theorem fold_f65 (x0 x1:Value) (H:AH) (Q:VK):F.f65 (sy W) x0 x1 H Q->W 91 [x0,x1] H Q :=
  mkF (kp:=kp.f65) (code:=bodyOf Tryd.f91) (fun _=>[]) (G:=fun c=>F.f65 (sy c) x0 x1 H Q) Tryd.func91 (by kernel_rfl) (fun c=>by kernel_rfl) (fun c=>by kernel_rfl)
theorem fold_f31 (x0 x1:Value) (H:AH) (Q:VK):F.f31 (sy W) x0 x1 H Q->W 83 [x0,x1] H Q :=
  mkF (kp:=kp.f31) (code:=bodyOf Tryd.f83) (fun _=>[]) (G:=fun c=>F.f31 (sy c) x0 x1 H Q) Tryd.func83 (by kernel_rfl) (fun c=>by kernel_rfl) (fun c=>by kernel_rfl)
theorem fold_f28 (x0:Value) (H:AH) (Q:VK):F.f28 (sy W) x0 H Q->W 102 [x0] H Q :=
  mkF (kp:=kp.f28) (code:=bodyOf Tryd.f102) (pl.f28 Q) (G:=fun c=>F.f28 (sy c) x0 H Q) Tryd.func102 (by kernel_rfl) (fun c=>by kernel_rfl) (fun c=>by kernel_rfl)
theorem fold_f50 (x0 x1 x2:Value) (H:AH) (Q:VK):F.f50 (sy W) x0 x1 x2 H Q->W 92 [x0,x1,x2] H Q :=
  mkF (kp:=kp.f50) (code:=bodyOf Tryd.f92) (pl.f50 Q) (G:=fun c=>F.f50 (sy c) x0 x1 x2 H Q) Tryd.func92 (by kernel_rfl) (fun c=>by kernel_rfl) (fun c=>by kernel_rfl)
theorem fold_f49 (x0 x1 x2:Value) (H:AH) (Q:VK):F.f49 (sy W) x0 x1 x2 H Q->W 93 [x0,x1,x2] H Q :=
  mkF (kp:=kp.f49) (code:=bodyOf Tryd.f93) (pl.f49 Q) (G:=fun c=>F.f49 (sy c) x0 x1 x2 H Q) Tryd.func93 (by kernel_rfl) (fun c=>by kernel_rfl) (fun c=>by kernel_rfl)
theorem fold_f47 (x0 x1 x2:Value) (H:AH) (Q:VK):F.f47 (sy W) x0 x1 x2 H Q->W 94 [x0,x1,x2] H Q :=
  mkF (kp:=kp.f47) (code:=bodyOf Tryd.f94) (pl.f47 Q) (G:=fun c=>F.f47 (sy c) x0 x1 x2 H Q) Tryd.func94 (by kernel_rfl) (fun c=>by kernel_rfl) (fun c=>by kernel_rfl)
theorem fold_f48 (x0 x1 x2:Value) (H:AH) (Q:VK):F.f48 (sy W) x0 x1 x2 H Q->W 95 [x0,x1,x2] H Q :=
  mkF (kp:=kp.f48) (code:=bodyOf Tryd.f95) (pl.f48 Q) (G:=fun c=>F.f48 (sy c) x0 x1 x2 H Q) Tryd.func95 (by kernel_rfl) (fun c=>by kernel_rfl) (fun c=>by kernel_rfl)
theorem fold_f59 (x0 x1 x2:Value) (H:AH) (Q:VK):F.f59 (sy W) x0 x1 x2 H Q->W 96 [x0,x1,x2] H Q :=
  mkF (kp:=kp.f59) (code:=bodyOf Tryd.f96) (pl.f59 Q) (G:=fun c=>F.f59 (sy c) x0 x1 x2 H Q) Tryd.func96 (by kernel_rfl) (fun c=>by kernel_rfl) (fun c=>by kernel_rfl)
theorem fold_f55 (x0 x1 x2:Value) (H:AH) (Q:VK):F.f55 (sy W) x0 x1 x2 H Q->W 97 [x0,x1,x2] H Q :=
  mkF (kp:=kp.f55) (code:=bodyOf Tryd.f97) (pl.f55 Q) (G:=fun c=>F.f55 (sy c) x0 x1 x2 H Q) Tryd.func97 (by kernel_rfl) (fun c=>by kernel_rfl) (fun c=>by kernel_rfl)
theorem fold_f0 (x0 x1:Value) (H:AH) (Q:VK):F.f0 (sy W) x0 x1 H Q->W 98 [x0,x1] H Q :=
  mkF (kp:=kp.f0) (code:=bodyOf Tryd.f98) (fun _=>[]) (G:=fun c=>F.f0 (sy c) x0 x1 H Q) Tryd.func98 (by kernel_rfl) (fun c=>by kernel_rfl) (fun c=>by kernel_rfl)
theorem fold_f56 (x0 x1 x2 x3:Value) (H:AH) (Q:VK):F.f56 (sy W) x0 x1 x2 x3 H Q->W 99 [x0,x1,x2,x3] H Q :=
  mkF (kp:=kp.f56) (code:=bodyOf Tryd.f99) (pl.f56 Q) (G:=fun c=>F.f56 (sy c) x0 x1 x2 x3 H Q) Tryd.func99 (by kernel_rfl) (fun c=>by kernel_rfl) (fun c=>by kernel_rfl)
theorem fold_f57 (x0 x1 x2 x3:Value) (H:AH) (Q:VK):F.f57 (sy W) x0 x1 x2 x3 H Q->W 100 [x0,x1,x2,x3] H Q :=
  mkF (kp:=kp.f57) (code:=bodyOf Tryd.f100) (pl.f57 Q) (G:=fun c=>F.f57 (sy c) x0 x1 x2 x3 H Q) Tryd.func100 (by kernel_rfl) (fun c=>by kernel_rfl) (fun c=>by kernel_rfl)
theorem fold_f67 (x0 x1 x2 x3:Value) (H:AH) (Q:VK):F.f67 (sy W) x0 x1 x2 x3 H Q->W 103 [x0,x1,x2,x3] H Q :=
  mkF (kp:=kp.f67) (code:=bodyOf Tryd.f103) (pl.f67 Q) (G:=fun c=>F.f67 (sy c) x0 x1 x2 x3 H Q) Tryd.func103 (by kernel_rfl) (fun c=>by kernel_rfl) (fun c=>by kernel_rfl)
theorem fold_f60 (x0 x1 x2 x3:Value) (H:AH) (Q:VK):F.f60 (sy W) x0 x1 x2 x3 H Q->W 104 [x0,x1,x2,x3] H Q :=
  mkF (kp:=kp.f60) (code:=bodyOf Tryd.f104) (pl.f60 Q) (G:=fun c=>F.f60 (sy c) x0 x1 x2 x3 H Q) Tryd.func104 (by kernel_rfl) (fun c=>by kernel_rfl) (fun c=>by kernel_rfl)
theorem fold_f53 (x0:Value) (H:AH) (Q:VK):F.f53 (sy W) x0 H Q->W 105 [x0] H Q :=
  mkF (kp:=kp.f53) (code:=bodyOf Tryd.f105) (fun _=>[]) (G:=fun c=>F.f53 (sy c) x0 H Q) Tryd.func105 (by kernel_rfl) (fun c=>by kernel_rfl) (fun c=>by kernel_rfl)
theorem fold_f61 (x0:Value) (H:AH) (Q:VK):F.f61 (sy W) x0 H Q->W 106 [x0] H Q :=
  mkF (kp:=kp.f61) (code:=bodyOf Tryd.f106) (fun _=>[]) (G:=fun c=>F.f61 (sy c) x0 H Q) Tryd.func106 (by kernel_rfl) (fun c=>by kernel_rfl) (fun c=>by kernel_rfl)
theorem fold_f51 (x0 x1 x2:Value) (H:AH) (Q:VK):F.f51 (sy W) x0 x1 x2 H Q->W 107 [x0,x1,x2] H Q :=
  mkF (kp:=kp.f51) (code:=bodyOf Tryd.f107) (fun _=>[]) (G:=fun c=>F.f51 (sy c) x0 x1 x2 H Q) Tryd.func107 (by kernel_rfl) (fun c=>by kernel_rfl) (fun c=>by kernel_rfl)
theorem fold_f52 (x0 x1 x2 x3 x4:Value) (H:AH) (Q:VK):F.f52 (sy W) x0 x1 x2 x3 x4 H Q->W 108 [x0,x1,x2,x3,x4] H Q :=
  mkF (kp:=kp.f52) (code:=bodyOf Tryd.f108) (fun _=>[]) (G:=fun c=>F.f52 (sy c) x0 x1 x2 x3 x4 H Q) Tryd.func108 (by kernel_rfl) (fun c=>by kernel_rfl) (fun c=>by kernel_rfl)
theorem fold_f1 (x0:Value) (H:AH) (Q:VK):F.f1 (sy W) x0 H Q->W 109 [x0] H Q :=
  mkF (kp:=kp.f1) (code:=bodyOf Tryd.f109) (fun _=>[]) (G:=fun c=>F.f1 (sy c) x0 H Q) Tryd.func109 (by kernel_rfl) (fun c=>by kernel_rfl) (fun c=>by kernel_rfl)
theorem fold_f62 (x0 x1:Value) (H:AH) (Q:VK):F.f62 (sy W) x0 x1 H Q->W 111 [x0,x1] H Q :=
  mkF (kp:=kp.f62) (code:=bodyOf Tryd.f111) (pl.f62 Q) (G:=fun c=>F.f62 (sy c) x0 x1 H Q) Tryd.func111 (by kernel_rfl) (fun c=>by kernel_rfl) (fun c=>by kernel_rfl)
theorem fold_f63 (x0 x1:Value) (H:AH) (Q:VK):F.f63 (sy W) x0 x1 H Q->W 112 [x0,x1] H Q :=
  mkF (kp:=kp.f63) (code:=bodyOf Tryd.f112) (fun _=>[]) (G:=fun c=>F.f63 (sy c) x0 x1 H Q) Tryd.func112 (by kernel_rfl) (fun c=>by kernel_rfl) (fun c=>by kernel_rfl)
theorem fold_f54 (x0 x1 x2 x3:Value) (H:AH) (Q:VK):F.f54 (sy W) x0 x1 x2 x3 H Q->W 113 [x0,x1,x2,x3] H Q :=
  mkF (kp:=kp.f54) (code:=bodyOf Tryd.f113) (fun _=>[]) (G:=fun c=>F.f54 (sy c) x0 x1 x2 x3 H Q) Tryd.func113 (by kernel_rfl) (fun c=>by kernel_rfl) (fun c=>by kernel_rfl)
theorem fold_f24 (x0 x1:Value) (H:AH) (Q:VK):F.f24 (sy W) x0 x1 H Q->W 117 [x0,x1] H Q :=
  mkF (kp:=kp.f24) (code:=bodyOf Tryd.f117) (pl.f24 Q) (G:=fun c=>F.f24 (sy c) x0 x1 H Q) Tryd.func117 (by kernel_rfl) (fun c=>by kernel_rfl) (fun c=>by kernel_rfl)
theorem fold_f25 (x0 x1:Value) (H:AH) (Q:VK):F.f25 (sy W) x0 x1 H Q->W 119 [x0,x1] H Q :=
  mkF (kp:=kp.f25) (code:=bodyOf Tryd.f119) (fun _=>[]) (G:=fun c=>F.f25 (sy c) x0 x1 H Q) Tryd.func119 (by kernel_rfl) (fun c=>by kernel_rfl) (fun c=>by kernel_rfl)
theorem fold:Go.AM.Fold (sy W) where
  mono:=CallW.mono
  f42:=fold_f42
  f41:=fold_f41
  f79:=fold_f79
  f74:=fold_f74
  f75:=fold_f75
  f80:=fold_f80
  f76:=fold_f76
  f73:=fold_f73
  f77:=fold_f77
  f72:=fold_f72
  f78:=fold_f78
  f81:=fold_f81
  f40:=fold_f40
  f83:=fold_f83
  f8:=fold_f8
  f9:=fold_f9
  f7:=fold_f7
  f36:=fold_f36
  f6:=fold_f6
  f10:=fold_f10
  f82:=fold_f82
  f11:=fold_f11
  f2:=fold_f2
  f12:=fold_f12
  f33:=fold_f33
  f4:=fold_f4
  f29:=fold_f29
  f85:=fold_f85
  f89:=fold_f89
  f14:=fold_f14
  f16:=fold_f16
  f13:=fold_f13
  f70:=fold_f70
  f37:=fold_f37
  f44:=fold_f44
  f18:=fold_f18
  f15:=fold_f15
  f86:=fold_f86
  f32:=fold_f32
  f38:=fold_f38
  f34:=fold_f34
  f46:=fold_f46
  f64:=fold_f64
  f3:=fold_f3
  f43:=fold_f43
  f87:=fold_f87
  f84:=fold_f84
  f88:=fold_f88
  f45:=fold_f45
  f17:=fold_f17
  f39:=fold_f39
  f35:=fold_f35
  f26:=fold_f26
  f58:=fold_f58
  f68:=fold_f68
  f65:=fold_f65
  f31:=fold_f31
  f28:=fold_f28
  f50:=fold_f50
  f49:=fold_f49
  f47:=fold_f47
  f48:=fold_f48
  f59:=fold_f59
  f55:=fold_f55
  f0:=fold_f0
  f56:=fold_f56
  f57:=fold_f57
  f67:=fold_f67
  f60:=fold_f60
  f53:=fold_f53
  f61:=fold_f61
  f51:=fold_f51
  f52:=fold_f52
  f1:=fold_f1
  f62:=fold_f62
  f63:=fold_f63
  f54:=fold_f54
  f24:=fold_f24
  f25:=fold_f25
  f69:=fun x0 x1 H Q h=>CallW.ext (.inl<|⟨rfl,x0,x1,rfl,h⟩)
  f19:=fun x0 x1 H Q h=>CallW.ext (.inr <| .inl<|⟨rfl,x0,x1,rfl,h⟩)
  f21:=fun x0 x1 H Q h=>CallW.ext (.inr <| .inr <| .inl<|⟨rfl,x0,x1,rfl,h⟩)
end Go.Proofs.YtgeenpollgalkaaDoor
