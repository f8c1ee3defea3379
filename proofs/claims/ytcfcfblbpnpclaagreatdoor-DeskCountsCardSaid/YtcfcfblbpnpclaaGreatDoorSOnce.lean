import Derived.Test.YtcfcfblbpnpclaaGreatDoorSMetA
import Derived.Tactics
import Derived.Tactics2
import Derived.Defers
import Derived.Laws.Pointers
import Derived.Laws.LoneSync
import Derived.RegionTactic
import Derived.RegionCalls
import Derived.ChangeAlike
namespace Go.Proofs.YtcfcfblbpnpclaaGreatDoor
open Sy Go
set_option maxRecDepth 100000
set_option linter.unusedSimpArgs false
set_option linter.unusedVariables false
theorem qDY (w:World):(callFunc 297 #[]).run Tryz.prog w = .ok (.value (.tuple #[])) w:=run_call_mark0 Tryz.func297 (by kernel_rfl) (by kernel_rfl) (by kernel_rfl) .disable (by kernel_rfl) w
theorem qFT (w:World):(callFunc 299 #[]).run Tryz.prog w = .ok (.value (.tuple #[])) w:=run_call_mark0 Tryz.func299 (by kernel_rfl) (by kernel_rfl) (by kernel_rfl) .enable (by kernel_rfl) w
theorem qHY (a:Addr) (w:World):(callFunc 300 #[.pointer (some a)]).run Tryz.prog w = .ok (.value (.tuple #[])) w:=run_call_marked Tryz.func300 (by kernel_rfl) (by kernel_rfl) (by kernel_rfl) .acquire (by kernel_rfl) a w
theorem qHX (a:Addr) (w:World):(callFunc 302 #[.pointer (some a)]).run Tryz.prog w = .ok (.value (.tuple #[])) w:=run_call_marked Tryz.func302 (by kernel_rfl) (by kernel_rfl) (by kernel_rfl) .releaseMerge (by kernel_rfl) a w
theorem qLN (a : Addr) (x : Value) (u : FrameMode) (w : World) (hc : w.cell? a = some x) (hz : w.frozen? a = false) :
  CallsD Tryz.prog 130 #[.pointer (some a),.bool true] u w fun e u' w'=>u'=u∧(e = .returned (.tuple #[])∧w'=w.drew.setCell a (.int .u32 1)):=by
 have hc':w.drew.cell? a=some x:=by go_simp
 have hz':w.drew.frozen? a=false:=by go_simp
 have hst:=run_call_store (P:=Tryz.prog) Tryz.func214 (by kernel_rfl) (by kernel_rfl) (by kernel_rfl) (by kernel_rfl) (k := .u32) (y:=1) hc' hz'
 go_enter_d Tryz.func130,Tryz.ntmps130
 go_wp2
 go_region_calls
 all_goals (go_end0; exact ⟨rfl,rfl⟩)
theorem qJW (a : Addr) (u : FrameMode) (w : World) (hc : w.cell? a = some (.int .i32 1)) (hz : w.frozen? a = false) :
  CallsD Tryz.prog 129 #[.pointer (some a)] u w fun e u' w'=>u'=u∧(e = .returned (.tuple #[])∧w'=w.setCell a (.int .i32 0)):=by
 have hd:=qDY
 have he:=qFT
 have hr:=qHX
 have hadd:=run_call_add (P:=Tryz.prog) Tryz.func303 (by kernel_rfl) (by kernel_rfl) (by kernel_rfl) .i32 (by kernel_rfl) (y := -1) (s:=0) hc hz (by simp [go_sem]; rfl)
 have hcv:=run_convert_to_unsafe (P:=Tryz.prog) (src:=390) (dst:=236) Tryz.underlying390 Tryz.underlying236 (by kernel_rfl) hc
 go_enter_d Tryz.func129,Tryz.ntmps129
 go_wp2
 go_end0
 go_wp2
 go_end0
 exact ⟨rfl,rfl⟩
theorem qSI (a : Addr) (w : World) (hc : w.cell? a = some (.int .i32 0)) (hz : w.frozen? a = false) :
  Calls Tryz.prog 128 #[.pointer (some a)] w fun e w'=>e = .returned (.tuple #[])∧w'=w.setCell a (.int .i32 1):=by
 have hd:=qDY
 have he:=qFT
 have ha:=qHY
 have hcas:=run_call_cas_hit (P:=Tryz.prog) Tryz.func298 (by kernel_rfl) (by kernel_rfl) (by kernel_rfl) .i32 (by kernel_rfl) (y:=1) hc hz
 have hc':(w.setCell a (.int .i32 1)).cell? a=some (.int .i32 1):=World.cell?_setCell_same w a _ hc
 have hcv:=run_convert_to_unsafe (P:=Tryz.prog) (src:=390) (dst:=236) Tryz.underlying390 Tryz.underlying236 (by kernel_rfl) hc'
 go_enter Tryz.func128,Tryz.ntmps128
 go_wp2
 first | go_end0 | (simp only [Exit.inBlock,Exit.then]; refine bodyPost_ret (results_none rfl _ _ _) rfl ?_) | refine bodyPost_ret (results_none rfl _ _ _) rfl ?_
 go_wp2
 go_end0
 exact ⟨rfl,rfl⟩
set_option maxRecDepth 100000 in
set_option maxHeartbeats 1600000 in
theorem qSC (b off : Nat) (caps : Array Value) (R : World → Prop) (w : World) (h0 : w.cell? ⟨b, off, none⟩ = some (.int .u32 0)) (h1 : w.cell? ⟨b, off + 1, none⟩ = some (.int .i32 0)) (f1 : w.frozen? ⟨b, off + 1, none⟩ = false)
  (hc:Calls Tryz.prog 49 caps (w.setCell ⟨b,off+1,none⟩ (.int .i32 1)) fun e w2=>e = .returned (.tuple #[])∧R w2)
  (hR:∀ w2,R w2→(∃ u,w2.cell? ⟨b,off,none⟩=some u)∧w2.frozen? ⟨b,off,none⟩=false∧w2.cell? ⟨b,off+1,none⟩=some (.int .i32 1)∧w2.frozen? ⟨b,off+1,none⟩=false) :
  Calls Tryz.prog 81 #[.pointer (some ⟨b,off,none⟩),.func (.func 49) #[] caps] w fun e w'=>e = .returned (.tuple #[])∧∃ w2,R w2∧w'=(w2.drew.setCell ⟨b,off,none⟩ (.int .u32 1)).setCell ⟨b,off+1,none⟩ (.int .i32 0):=by
 have hl:=run_call_load (P:=Tryz.prog) Tryz.func127 (by kernel_rfl) (by kernel_rfl) (by kernel_rfl) .u32 (by kernel_rfl) (w:=w.setCell ⟨b,off+1,none⟩ (.int .i32 1)) (a:=⟨b,off,none⟩) (x:=0) ((World.cell?_setCell_other _ ⟨b,off+1,none⟩ ⟨b,off,none⟩ _ (by simp)).trans h0)
 have hnot:∀ (x:Bool) (w:World),(Op.unary .not (.bool x)).run Tryz.prog w = .ok (.bool (!x)) w:=fun _ _=>rfl
 go_enter_defers Tryz.func81,Tryz.ntmps81
 go_wp2_with (first | (go_at_call 128; refine (qSI ⟨b,off+1,none⟩ _ h1 f1).mono ?_; rintro e w' ⟨rfl,rfl⟩) | (go_at_call 80; go_in) | (go_at_call 49; refine hc.mono ?_; rintro e w2 ⟨rfl,hr2⟩))
 obtain ⟨⟨u,q0⟩,z0,q1,z1⟩:=hR w2 hr2
 refine leaves_cons (f:=130) (args := #[.pointer (some ⟨b,off,none⟩),.bool true]) (by simp) (by simp [go_sem]) ?_
 refine (qLN ⟨b,off,none⟩ u .returning _ q0 z0).mono ?_
 rintro e u' w'' ⟨rfl,rfl,rfl⟩
 refine leaves_cons (f:=129) (args := #[.pointer (some ⟨b,off+1,none⟩)]) (by simp [settle]) (by simp [go_sem]) ?_
 refine (qJW ⟨b,off+1,none⟩ _ _ ?_ (by simp [z1])).mono ?_
 ·refine (World.cell?_setCell_other _ ⟨b,off,none⟩ ⟨b,off+1,none⟩ _ (by simp)).trans ?_
  rw [World.cell?_drew]; exact q1
 rintro e u' w'' ⟨rfl,rfl,rfl⟩
 simp [Leaves,settle,results,Tryz.results81]
 exact ⟨w2,hr2,rfl⟩
set_option maxRecDepth 100000 in
set_option maxHeartbeats 1600000 in
theorem qSG (b off : Nat) (caps : Array Value) (R : World → Prop) (w : World) (h0 : w.cell? ⟨b, off, none⟩ = some (.int .u32 0)) (h1 : w.cell? ⟨b, off + 1, none⟩ = some (.int .i32 0)) (f1 : w.frozen? ⟨b, off + 1, none⟩ = false)
  (hc:Calls Tryz.prog 49 caps (w.setCell ⟨b,off+1,none⟩ (.int .i32 1)) fun e w2=>e = .returned (.tuple #[])∧R w2)
  (hR:∀ w2,R w2→(∃ u,w2.cell? ⟨b,off,none⟩=some u)∧w2.frozen? ⟨b,off,none⟩=false∧w2.cell? ⟨b,off+1,none⟩=some (.int .i32 1)∧w2.frozen? ⟨b,off+1,none⟩=false) :
  Calls Tryz.prog 48 #[.pointer (some ⟨b,off,none⟩),.func (.func 49) #[] caps] w fun e w'=>e = .returned (.tuple #[])∧∃ w2,R w2∧w'=(w2.drew.setCell ⟨b,off,none⟩ (.int .u32 1)).setCell ⟨b,off+1,none⟩ (.int .i32 0):=by
 have hl:=run_call_load (P:=Tryz.prog) Tryz.func127 (by kernel_rfl) (by kernel_rfl) (by kernel_rfl) .u32 (by kernel_rfl) h0
 have hnot:∀ (x:Bool) (w:World),(Op.unary .not (.bool x)).run Tryz.prog w = .ok (.bool (!x)) w:=fun _ _=>rfl
 go_enter Tryz.func48,Tryz.ntmps48
 go_wp2_with (first | (go_at_call 81; refine (qSC b off caps R _ h0 h1 f1 hc hR).mono ?_; rintro e w' ⟨rfl,hw⟩) | (go_at_call 80; go_in))
 go_end0
 exact ⟨rfl,hw⟩
end Go.Proofs.YtcfcfblbpnpclaaGreatDoor
