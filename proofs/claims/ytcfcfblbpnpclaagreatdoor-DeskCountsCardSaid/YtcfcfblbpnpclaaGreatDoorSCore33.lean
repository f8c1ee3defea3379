import Derived.Test.YtcfcfblbpnpclaaGreatDoorSCore32
namespace Go.Proofs.YtcfcfblbpnpclaaGreatDoor.Sy
open Go
set_option maxHeartbeats 4000000
section
variable {P:Program} {T:Tab} {G:qK} {Q:Exit→St→Prop}
theorem qJM (hT:TOK P T) {st:St} {o:Oper} {orc orc':List PD} {v:Prop} {x:V} (h:qAI T G st o.op orc=some (v,x,orc')) (hv:v):qO P G o st x st:=by
 intro c M μ tmps w hg r
 obtain ⟨u,e,hu⟩:=uB hT hg r h hv
 rw [e]
 exact ⟨M,μ,r,hu⟩
def dd (b:Bool) (v:V):V:=if b=true then v else .dead
@[simp] theorem qSM (v:V):dd true v=v:=rfl
@[simp] theorem qSK (v:V):dd false v = .dead:=rfl
end
end Go.Proofs.YtcfcfblbpnpclaaGreatDoor.Sy
