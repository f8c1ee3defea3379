import Derived.Test.YtgcbapchinideaaGreatDoorK1
import Derived.Test.YtgcbapchinideaaGreatDoorK2
namespace Go.Proofs.YtgcbapchinideaaGreatDoor
open Sy Go
set_option linter.unusedSimpArgs false
set_option linter.unusedVariables false
theorem qXS {P:List Val→Prop} {Q:Item→Prop} (h0:P []) (hs:∀ a x,Q x→P a→P (xP a x)) (l:List Item) (hl:∀ x∈l,Q x):P (qAV l):=by
 have key:∀ (l:List Item) (a:List Val),(∀ x∈l,Q x)→P a→P (l.foldl xP a):=by
  intro l
  induction l with
  | nil=>exact fun a _ h=>h
  | cons x l ih=>exact fun a hq h=>ih _ (fun y hy=>hq y (by simp [hy])) (hs a x (hq x (by simp)) h)
 exact key _ [] (fun x hx=>hl x (List.mem_of_mem_take hx)) h0
theorem zAZ {l:List Item} (h:∀ x∈l,InM x.mask):InV (jV l):=by
 have:=qXS (P:=fun a=>∀ v∈a,InV v) (Q:=fun x=>InM x.mask) (by simp) (fun a x hx ha v hv=>by
  unfold xP at hv
  rcases List.mem_append.1 hv with hv | hv
  ·unfold zH at hv; split at hv
   ·exact ha v (List.mem_of_mem_take hv)
   exact ha v hv
  simp at hv; rw [hv,qOI]
  exact ⟨hx,fun k hk=>ha k (qEN hk)⟩) l h
 unfold jV
 rw [List.getLastD_eq_getLast?]
 cases hx:(qAV l).getLast? with
 | none=>show InV qGS; rw [qOI]; exact ⟨by show InM 0; unfold InM; omega,fun k hk=>by cases hk⟩
 | some v=>exact this v (List.mem_of_getLast? hx)
theorem qZW (a:List Val) (x:Item):Val.szL (xP a x)=Val.szL a+1:=by
 have h1:Val.szL (zH a x)+Val.szL (qU a x)=Val.szL a:=by
  unfold zH qU
  split
  ·rw [← qIE,List.take_append_drop]
  simp
 have h2:Val.sz (zS a x)=1+Val.szL (qU a x):=qKY _
 unfold xP
 rw [qIE,zCG,h2]; omega
theorem qXY (l:List Item):Val.szL (qAV l)≤80:=by
 have:∀ (l:List Item) (a:List Val),Val.szL (l.foldl xP a)=Val.szL a+l.length:=by
  intro l
  induction l with
  | nil=>intro a; rfl
  | cons x l ih=>intro a; rw [List.foldl_cons,ih,qZW,List.length_cons]; omega
 unfold qAV
 rw [this,zCH,List.length_take]; omega
theorem zAY (l:List Item):Val.sz (jV l)≤80:=by
 unfold jV
 rw [List.getLastD_eq_getLast?]
 cases hx:(qAV l).getLast? with
 | none=>show Val.sz qGS≤80; decide +kernel
 | some v=>exact Nat.le_trans (Val.szL_mem (List.mem_of_getLast? hx)) (qXY l)
end Go.Proofs.YtgcbapchinideaaGreatDoor
