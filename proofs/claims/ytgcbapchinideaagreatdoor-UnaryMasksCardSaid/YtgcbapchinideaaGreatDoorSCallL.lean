import Derived.Test.YtgcbapchinideaaGreatDoorSCallN
import Derived.Test.YtgcbapchinideaaGreatDoorSAlkB
set_option linter.all false
namespace Go.Proofs.YtgcbapchinideaaGreatDoor
open Sy Go
set_option maxRecDepth 100000
set_option maxHeartbeats 4000000
noncomputable def qIC (n:Nat) (arg:List UInt8) (v:Val) (m:Int):Val:=match n with
 | 0=>qLZ Lib.runeCountL v m
 | 1=>qMB v m
 | 2=>qZS v m
 | 3=>wM (qWL v.kind) m
 | 4=>if v.kind=6 then yJ (srt leV v.kids) m else qR 40 m
 | 5=>if v.kind=6 then yJ (uqV (srt leV v.kids)) m else qR 40 m
 | 6=>if v.kind=6 then yJ v.kids.reverse m else qR 40 m
 | 7=>if v.kind=6 then qQD v.kids m else qR 40 m
 | 8=>if v.kind=6 then vM (fun a b=>decide (wT a b<0)) v.kids m else qR 40 m
 | 9=>if v.kind=6 then vM (fun a b=>decide (0<wT a b)) v.kids m else qR 40 m
 | 10=>if v.kind=4 then xJ (qSR [102,108,111,111,114] v.num (qDJ v.num)) m else qR 40 m
 | 11=>if v.kind=4 then xJ (qSR [99,101,105,108] v.num (qDJ v.num)) m else qR 40 m
 | 12=>if v.kind=4 then xJ (qSR [114,111,117,110,100] v.num (qDJ v.num)) m else qR 40 m
 | 13=>qCS v m
 | 14=>if v.kind=5 then wM v.text m else qCS v m
 | 15=>if v.kind=4 then .mk 4 m v.num [] [] [] 0 else if v.kind=5 then xJ (kR v.text) m else qR 40 m
 | 16=>if v.kind=6 then jE v.kids [97,110,121] m else qR 40 m
 | 17=>if v.kind=6 then jE v.kids [97,108,108] m else qR 40 m
 | 18=>qAJ v m
 | 19=>zAI arg v m
 | 20=>if v.kind=5 then qOV arg v.text m else qR 40 m
 | 21=>if v.kind=5 then yH (kG v.text arg) m else qR 40 m
 | 22=>if v.kind=5 then yH (qYT v.text arg) m else qR 40 m
 | 23=>if v.kind=6 then qBD v.kids arg m else qR 40 m
 | _=>if v.kind=5 then qFK (qCG v.text arg) m else qR 40 m
def wHE (n:Nat):Bool:=decide (n∈[4,5,7,8,9,13,14,16,17,23])
def mC (n:Nat) (v:Val):Int:=if wHE n=true then qX v else v.mask
theorem zTD {n:Nat} (hn:n<25):n=0\/n=1\/n=2\/n=3\/n=4\/n=5\/n=6\/n=7\/n=8\/n=9\/n=10\/n=11\/n=12\/n=13\/n=14\/n=15\/n=16\/n=17\/n=18\/n=19\/n=20\/n=21\/n=22\/n=23\/n=24:=by omega
theorem qQR {n:Nat} (hn:n<25) (arg:List UInt8) (v:Val):vL n arg v=qIC n arg v (mC n v):=by
 rcases zTD hn with h|h|h|h|h|h|h|h|h|h|h|h|h|h|h|h|h|h|h|h|h|h|h|h|h;all_goals subst h
 all_goals rfl
theorem zRM (c m:Int):(qR c m).mask=m:=rfl
theorem zNF (b:Bool) (m:Int):(yH b m).mask=m:=rfl
theorem zWZ (m:Int):(qLS m).mask=m:=rfl
theorem zCA (s:List UInt8) (m:Int):(wM s m).mask=m:=by unfold wM;split <;> rfl
theorem zRL (l:List Val) (m:Int):(yJ l m).mask=m:=by unfold yJ;split <;> rfl
theorem zKH (r:Dc × Int) (m:Int):(xJ r m).mask=m:=by unfold xJ;split <;> rfl
theorem qXY {n:Nat} (hn:n<25) (h8:n≠8) (h9:n≠9) (arg:List UInt8) (v:Val) (m:Int):(qIC n arg v m).mask=m:=by
 rcases zTD hn with h|h|h|h|h|h|h|h|h|h|h|h|h|h|h|h|h|h|h|h|h|h|h|h|h;all_goals subst h
 all_goals first
  | exact absurd rfl h8
  | exact absurd rfl h9
  | skip
 all_goals simp only[qIC,qLZ,qMB,qZS,qQD,qCS,jE,qAJ,zAI,qOV,qBD,qEV,qFK]
 all_goals repeat' split
 all_goals first
  | exact zRM _ _
  | exact zCA _ _
  | exact zRL _ _
  | exact zKH _ _
  | exact zNF _ _
  | exact zWZ _
  | rfl
theorem zJK {n:Nat} (hn:n<25) (arg:List UInt8) (v:Val) (m:Int):(qIC n arg v m).mask=m\/∃ x,(qIC n arg v m).mask=orM x m:=by
 have hb:∀ b:Val->Val->Bool,(if v.kind=6 then vM b v.kids m else qR 40 m).mask=m\/∃ x,(if v.kind=6 then vM b v.kids m else qR 40 m).mask=orM x m:=fun b=>by
  unfold vM;split
  ·split
   ·exact .inl rfl
   exact .inr ⟨_,rfl⟩
  exact .inl rfl
 by_cases h8:n=8
 ·subst h8;exact hb _
 by_cases h9:n=9
 ·subst h9;exact hb _
 exact .inl (qXY hn h8 h9 arg v m)
end Go.Proofs.YtgcbapchinideaaGreatDoor
