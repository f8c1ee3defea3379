import Derived.Test.YtgcbapchinideaaGreatDoorK2
import Derived.Test.YtgcbapchinideaaGreatDoorK4
namespace Go.Proofs.YtgcbapchinideaaGreatDoor
open Sy Go
set_option linter.all false
theorem zOV (a:List Val) (x:Item):Val.szL (qCZ a x)=Val.szL a+1:=by
 have h1:Val.szL (zU a x)+Val.szL (zG a x)=Val.szL a:=by
  unfold zU zG
  split
  ·rw[<-qPD,List.take_append_drop]
  simp
 have h2:Val.sz (wQ a x)=1+Val.szL (zG a x):=qZB _
 unfold qCZ
 rw[qPD,zSR,h2];omega
theorem zLZ (l:List Item):Val.szL (qIY l)<=80:=by
 have:∀ (l:List Item) (a:List Val),Val.szL (l.foldl qCZ a)=Val.szL a+l.length:=by
  intro l
  induction l with
  | nil=>intro a;rfl
  | cons x l ih=>intro a;rw[List.foldl_cons,ih,zOV,List.length_cons];omega
 unfold qIY
 rw[this,zSS,List.length_take];omega
theorem zCI (l:List Item):Val.sz (uS l)<=80:=by
 unfold uS
 rw[List.getLastD_eq_getLast?]
 cases hx:(qIY l).getLast? with
 | none=>show Val.sz zAF<=80;decide +kernel
 | some v=>exact Nat.le_trans (Val.szL_mem (List.mem_of_getLast? hx)) (zLZ l)
end Go.Proofs.YtgcbapchinideaaGreatDoor
