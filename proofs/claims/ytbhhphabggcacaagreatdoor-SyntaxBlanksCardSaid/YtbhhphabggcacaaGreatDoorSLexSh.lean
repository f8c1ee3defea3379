import Derived.Test.YtbhhphabggcacaaGreatDoorK2
import Derived.Test.YtbhhphabggcacaaGreatDoorSSynPos
namespace Go.Proofs.YtbhhphabggcacaaGreatDoor
open Sy Go
set_option maxRecDepth 100000
set_option linter.unusedSimpArgs false
set_option linter.unusedVariables false
theorem qCF (c:Nat):∀ (n a:Nat) (r:List UInt8),wS n (a+c) r=(wS n a r).map (List.map (shT c))
 | 0,a,r=>rfl
 | n+1,a,r=>by
  simp only [wS]
  split
  ·rfl
  split
  ·rfl
  have h:=qCF c n (a+spn yR r+(kI (r.drop (spn yR r))).2) ((r.drop (spn yR r)).drop (kI (r.drop (spn yR r))).2)
  rw [show a+c+spn yR r+(kI (r.drop (spn yR r))).2=a+spn yR r+(kI (r.drop (spn yR r))).2+c by omega,h]
  rw [Option.map_map,Option.map_map]
  congr 1
  funext l
  simp only [Function.comp,List.map_cons,shT]
  congr 1
  simp only [Tok.mk.injEq,true_and,and_true]
  omega
theorem qQQ {p:UInt8→Bool}:∀ (w r:List UInt8),w.all p=true→spn p (w++r)=w.length+spn p r
 | [],r,h=>by simp
 | b::w,r,h=>by
  simp only [List.all_cons,Bool.and_eq_true] at h
  have:=qQQ w r h.2
  unfold spn at this ⊢
  simp only [List.cons_append,List.takeWhile_cons,h.1,if_true,List.length_cons,this]
  omega
theorem qEK (w:List UInt8) (hw:w.all yR=true) (n a:Nat) (r:List UInt8):wS n a (w++r)=wS n (a+w.length) r:=by
 cases n with
 | zero=>rfl
 | succ n =>
  simp only [wS]
  rw [qQQ w r hw]
  have e:(w++r).drop (w.length+spn yR r)=r.drop (spn yR r):=by rw [← List.drop_drop,List.drop_left]
  rw [e,← Nat.add_assoc]
end Go.Proofs.YtbhhphabggcacaaGreatDoor
