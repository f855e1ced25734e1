/- sync.Once, ONE GOROUTINE: its first call, its later ones; after the kit's worked example, by the kit's contracts of the lock. -/
import Derived.Test.YtbpbjfemnpojoaaGreatDoorProg
import Derived.Tactics
import Derived.Tactics2
import Derived.Defers
import Derived.Laws.Pointers
import Derived.Laws.LoneSync
import Derived.RegionTactic
import Derived.RegionCalls
import Derived.Conc.MuLone
import Derived.KernelRfl
set_option linter.all false
set_option maxRecDepth 100000
set_option maxHeartbeats 1600000
namespace Go.Proofs.YtbpbjfemnpojoaaGreatDoor
open Go.Proofs Go.MuLone
abbrev aLh:Go.Conc.Locks.MuLink:={ lock:=150,unlock:=151,ilock:=157,iunlock:=158,lockSlow:=170,unlockSlow:=173,disable:=166,enable:=168,acquire:=169,relMerge:=171,cas32:=167,add32:=172,tUP:=283,tNoCopy:=73,tU32:=32,tPI32:=281,tIMutex:=78,tMutex:=80,tPMutex:=275,tPIMutex:=279 }
theorem aLJ:Go.Conc.Locks.MuLib Tryz.prog aLh where
  f_lock:=by kernel_rfl
  f_unlock:=by kernel_rfl
  f_ilock:=by kernel_rfl
  f_iunlock:=by kernel_rfl
  f_disable:=by kernel_rfl
  f_enable:=by kernel_rfl
  f_acquire:=by kernel_rfl
  f_relMerge:=by kernel_rfl
  f_cas32:=by kernel_rfl
  f_add32:=by kernel_rfl
  underlying_tIMutex:=by kernel_rfl
  runUnderlying_tIMutex:=fun _=>by kernel_rfl
  sizeOf_tIMutex:=fun _=>by kernel_rfl
  isAgg_tIMutex:=fun _=>by kernel_rfl
  zeroValue_tIMutex:=fun _=>by kernel_rfl
  underlying_tMutex:=by kernel_rfl
  runUnderlying_tMutex:=fun _=>by kernel_rfl
  sizeOf_tMutex:=fun _=>by kernel_rfl
  isAgg_tMutex:=fun _=>by kernel_rfl
  zeroValue_tMutex:=fun _=>by kernel_rfl
  underlying_tPMutex:=by kernel_rfl
  runUnderlying_tPMutex:=fun _=>by kernel_rfl
  sizeOf_tPMutex:=fun _=>by kernel_rfl
  isAgg_tPMutex:=fun _=>by kernel_rfl
  zeroValue_tPMutex:=fun _=>by kernel_rfl
  underlying_tPIMutex:=by kernel_rfl
  runUnderlying_tPIMutex:=fun _=>by kernel_rfl
  sizeOf_tPIMutex:=fun _=>by kernel_rfl
  isAgg_tPIMutex:=fun _=>by kernel_rfl
  zeroValue_tPIMutex:=fun _=>by kernel_rfl
  underlying_tPI32:=by kernel_rfl
  runUnderlying_tPI32:=fun _=>by kernel_rfl
  sizeOf_tPI32:=fun _=>by kernel_rfl
  isAgg_tPI32:=fun _=>by kernel_rfl
  zeroValue_tPI32:=fun _=>by kernel_rfl
  underlying_tUP:=by kernel_rfl
  runUnderlying_tUP:=fun _=>by kernel_rfl
  sizeOf_tUP:=fun _=>by kernel_rfl
  isAgg_tUP:=fun _=>by kernel_rfl
  zeroValue_tUP:=fun _=>by kernel_rfl
  underlying_tNoCopy:=by kernel_rfl
  runUnderlying_tNoCopy:=fun _=>by kernel_rfl
  sizeOf_tNoCopy:=fun _=>by kernel_rfl
  isAgg_tNoCopy:=fun _=>by kernel_rfl
  zeroValue_tNoCopy:=fun _=>by kernel_rfl
  underlying_t21:=by kernel_rfl
  runUnderlying_t21:=fun _=>by kernel_rfl
  sizeOf_t21:=fun _=>by kernel_rfl
  isAgg_t21:=fun _=>by kernel_rfl
  zeroValue_t21:=fun _=>by kernel_rfl
  room_tIMutex:=by kernel_rfl
theorem aGt (a:Addr) (x:Value) (u:FrameMode) (w:World) (hc:w.cell? a=some x) (hz:w.frozen? a=false) :
    CallsD Tryz.prog 152 #[.pointer (some a),.bool true] u w fun e u' w'=>u'=u/\(e = .returned (.tuple #[])/\w'=w.drew.setCell a (.int .u32 1)):=by
  have hc':w.drew.cell? a=some x:=by go_simp
  have hz':w.drew.frozen? a=false:=by go_simp
  have hst:=run_call_store (P:=Tryz.prog) Tryz.func159 (by kernel_rfl) (by kernel_rfl) (by kernel_rfl) (by kernel_rfl) (k := .u32) (y:=1) hc' hz'
  go_enter_d Tryz.func152,Tryz.ntmps152
  go_wp2
  go_region_calls
  all_goals (go_end0; exact ⟨rfl,rfl⟩)
theorem aIp (b off:Nat) (r:Value) (K:World->Prop) (w:World)
    (h0:w.cell? ⟨b,off,none⟩=some (.int .u32 0)) (h1:w.cell? ⟨b,off+1,none⟩=some (.int .i32 0))
    (f0:w.frozen? ⟨b,off,none⟩=false) (f1:w.frozen? ⟨b,off+1,none⟩=false)
    (hf:Calls Tryz.prog 131 #[r] (w.setCell ⟨b,off+1,none⟩ (.int .i32 1)) fun e w'=>(∃ v,e = .returned v)/\(∃ y,w'.cell? ⟨b,off,none⟩=some y)/\w'.cell? ⟨b,off+1,none⟩=some (.int .i32 1)/\w'.frozen? ⟨b,off,none⟩=false/\w'.frozen? ⟨b,off+1,none⟩=false/\K ((w'.drew.setCell ⟨b,off,none⟩ (.int .u32 1)).setCell ⟨b,off+1,none⟩ (.int .i32 0))) :
    Calls Tryz.prog 142 #[.pointer (some ⟨b,off,none⟩),.func (.func 131) #[r] #[]] w fun e w'=>e = .returned (.tuple #[])/\K w':=by
  have hl:=run_call_load (P:=Tryz.prog) Tryz.func149 (by kernel_rfl) (by kernel_rfl) (by kernel_rfl) .u32 (by kernel_rfl) (w:=w.setCell ⟨b,off+1,none⟩ (.int .i32 1)) (a:=⟨b,off,none⟩) (x:=0) ((World.cell?_setCell_other _ ⟨b,off+1,none⟩ ⟨b,off,none⟩ _ (by simp)).trans h0)
  have hnot:∀ (x:Bool) (w:World),(Op.unary .not (.bool x)).run Tryz.prog w = .ok (.bool (!x)) w:=fun _ _=>rfl
  go_enter_defers Tryz.func142,Tryz.ntmps142
  go_wp2_with (go_at_call 150; refine (lock_free aLJ ⟨b,off+1,none⟩ _ h1 f1).mono ?_; rintro e w' ⟨rfl,rfl⟩)
  go_wp2_with (first | (go_at_call 131; refine hf.mono ?_; rintro e w' ⟨⟨v,rfl⟩,⟨y,hy⟩,g1,z0,z1,hk⟩) | (go_at_call 141; go_in))
  go_wp2
  refine leaves_cons (f:=152) (args := #[.pointer (some ⟨b,off,none⟩),.bool true]) (by simp) (by simp [go_sem]) ?_
  refine (aGt ⟨b,off,none⟩ y .returning _ hy z0).mono ?_;rintro e u' w'' ⟨rfl,rfl,rfl⟩;refine leaves_cons (f:=151) (args := #[.pointer (some ⟨b,off+1,none⟩)]) (by simp [settle]) (by simp [go_sem]) ?_
  refine (unlock_deferred aLJ ⟨b,off+1,none⟩ _ _ ?_ (by simp [z1])).mono ?_
  · refine (World.cell?_setCell_other _ ⟨b,off,none⟩ ⟨b,off+1,none⟩ _ (by simp)).trans ?_
    rw [World.cell?_drew];exact g1
  rintro e u' w'' ⟨rfl,rfl,rfl⟩;simp [Leaves,settle,results,Tryz.results142];exact hk
theorem aHb (b off:Nat) (r:Value) (K:World->Prop) (w:World)
    (h0:w.cell? ⟨b,off,none⟩=some (.int .u32 0)) (h1:w.cell? ⟨b,off+1,none⟩=some (.int .i32 0))
    (f0:w.frozen? ⟨b,off,none⟩=false) (f1:w.frozen? ⟨b,off+1,none⟩=false)
    (hf:Calls Tryz.prog 131 #[r] (w.setCell ⟨b,off+1,none⟩ (.int .i32 1)) fun e w'=>(∃ v,e = .returned v)/\(∃ y,w'.cell? ⟨b,off,none⟩=some y)/\w'.cell? ⟨b,off+1,none⟩=some (.int .i32 1)/\w'.frozen? ⟨b,off,none⟩=false/\w'.frozen? ⟨b,off+1,none⟩=false/\K ((w'.drew.setCell ⟨b,off,none⟩ (.int .u32 1)).setCell ⟨b,off+1,none⟩ (.int .i32 0))) :
    Calls Tryz.prog 130 #[.pointer (some ⟨b,off,none⟩),.func (.func 131) #[r] #[]] w fun e w'=>e = .returned (.tuple #[])/\K w':=by
  have hl:=run_call_load (P:=Tryz.prog) Tryz.func149 (by kernel_rfl) (by kernel_rfl) (by kernel_rfl) .u32 (by kernel_rfl) h0
  have hnot:∀ (x:Bool) (w:World),(Op.unary .not (.bool x)).run Tryz.prog w = .ok (.bool (!x)) w:=fun _ _=>rfl
  go_enter Tryz.func130,Tryz.ntmps130
  go_wp2_with (first | (go_at_call 142; refine (aIp b off r K _ h0 h1 f0 f1 hf).mono ?_; rintro e w' ⟨rfl,hk⟩) | (go_at_call 141; go_in))
  go_end0
  exact ⟨rfl,hk⟩
theorem aG0 (a:Addr) (d:Int) (hd:¬ d=0) (fv:Value) (w:World) (h0:w.cell? a=some (.int .u32 d)) :
    Calls Tryz.prog 130 #[.pointer (some a),fv] w fun e w'=>e = .returned (.tuple #[])/\w'=w:=by
  have hl:=run_call_load (P:=Tryz.prog) Tryz.func149 (by kernel_rfl) (by kernel_rfl) (by kernel_rfl) .u32 (by kernel_rfl) h0
  have hnot:∀ (x:Bool) (w:World),(Op.unary .not (.bool x)).run Tryz.prog w = .ok (.bool (!x)) w:=fun _ _=>rfl;have hd':(d != 0)=true:=by simp [hd]
  go_enter Tryz.func130,Tryz.ntmps130
  go_wp2
  go_end0
  exact ⟨rfl,rfl⟩
end Go.Proofs.YtbpbjfemnpojoaaGreatDoor
