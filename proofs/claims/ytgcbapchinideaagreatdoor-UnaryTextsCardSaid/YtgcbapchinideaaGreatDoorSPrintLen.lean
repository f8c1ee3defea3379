import Derived.Test.YtgcbapchinideaaGreatDoorSPrintAll
import Derived.Test.YtgcbapchinideaaGreatDoorSBackL
namespace Go.Proofs.YtgcbapchinideaaGreatDoor
open Sy Go
set_option linter.unusedSimpArgs false
set_option linter.unusedVariables false
set_option maxRecDepth 100000
variable {G:qJ}
theorem jU {s:List UInt8} (h:qDX s=true):Lib.validD s=true∧s.length≤4096:=by
 unfold qDX at h; simp only [Bool.and_eq_true,decide_eq_true_eq] at h; exact ⟨h.2,by omega⟩
theorem qIJ (l:List Val) (h:∀ k∈l,(qS k).length+25000≤50000 * Val.sz k):((l.map qS).map List.length).sum+25000 * l.length≤50000 * Val.szL l:=by
 induction l with
 | nil=>simp
 | cons v l ih =>
  have h1:=h v (by simp)
  have h2:=ih fun k hk=>h k (by simp [hk])
  simp only [List.map_cons,List.sum_cons,List.length_cons,Val.szL]; omega
theorem qPR:∀ (l:List Val) (keys:List (List UInt8)),(∀ k∈keys,qDX k=true)→(∀ k∈l,(qS k).length+25000≤50000 * Val.sz k)→((uT keys (l.map qS)).map List.length).sum+(uT keys (l.map qS)).length≤50000 * Val.szL l
 | [],keys,_,_=>by cases keys <;> simp [uT]
 | v::l,[],_,_=>by simp [uT]
 | v::l,key::keys,hk,h=>by
  have h1:=h v (by simp)
  have h2:=qPR l keys (fun k hk'=>hk k (by simp [hk'])) fun k hk=>h k (by simp [hk])
  have h3:=qEQ key
  have h4:=(jU (hk key (by simp))).2
  rw [List.map_cons,qTW]
  simp only [List.map_cons,List.sum_cons,List.length_cons,Val.szL,List.length_append,List.length_nil]; omega
theorem qQN (v:Val):xN v=true→(qS v).length+25000≤50000 * Val.sz v:=by
 induction v using Val.induct with
 | h v ih =>
  intro hm
  rw [qSJ]
  have ihk:∀ k∈v.kids,(qS k).length+25000≤50000 * Val.sz k:=fun k hk=>ih k hk (qPF hm hk)
  by_cases h8:v.kind=8
  ·rw [qXK h8]
   have:(uW v.code).length≤2:=by unfold uW; split <;> simp
   simp; omega
  obtain ⟨_,_,hc⟩:=qHG hm h8
  rcases hc with ⟨k,_⟩ | ⟨k,_⟩ | ⟨k,_⟩ | ⟨k,h1,_⟩ | ⟨k,_,h2,_⟩ | ⟨k,h1,h2,h3⟩ | ⟨k,h1,h2,h3,h4⟩
  ·rw [qXR k]; simp [qJW]; omega
  ·rw [qXQ k]; simp [qDY]; omega
  ·rw [qXP k]; simp [qJV]; omega
  ·rw [qXO k]; have:=qQP h1; omega
  ·rw [qXN k]; have:=qEQ v.text; have:=(jU h2).2; omega
  ·rw [qXM k]
   have:=qIJ v.kids ihk
   have:=qIW (v.kids.map qS)
   simp only [List.length_append,List.length_cons,List.length_nil,List.length_map] at this ⊢
   omega
  rw [qXL k]
  unfold qPN at h4
  simp only [Bool.and_eq_true,List.all_eq_true] at h4
  have:=qPR v.kids v.keys h4.1 ihk
  have:=qIW (uT v.keys (v.kids.map qS))
  simp only [List.length_append,List.length_cons,List.length_nil] at this ⊢
  omega
mutual
def xX (c:Int):Val→Prop
 | .mk k _ _ _ _ vs e=>(k=8→e=c)∧uB c vs
def uB (c:Int):List Val→Prop
 | []=>True
 | v::vs=>xX c v∧uB c vs
end
theorem qBO (c:Int):∀ l,uB c l↔∀ v∈l,xX c v
 | []=>by simp [uB]
 | v::vs=>by simp [uB,qBO c vs]
theorem qDP (c:Int) (v:Val):xX c v↔(v.kind=8→v.code=c)∧∀ k∈v.kids,xX c k:=by cases v; simp only [xX,qBO,Val.kind,Val.kids,Val.code]
theorem qSN {c:Int} (v:Val):xN v=true→Val.sz v≤10000→xX c v→(xA v=true→qJO G c)→Prn G v:=by
 induction v using Val.induct with
 | h v ih =>
  intro hm hs hc hI
  have hl:=qQN v hm
  have hc':=(qDP c v).1 hc
  have hk1:∀ k∈v.kids,Prn G k:=fun k hk=>ih k hk (qPF hm hk) (by have:=Val.sz_kid hk; omega) (hc'.2 k hk) fun hp=>hI (by
   rw [qBB]; simp only [Bool.or_eq_true,List.any_eq_true]; exact .inr ⟨k,hk,hp⟩)
  by_cases h8:v.kind=8
  ·have hcode:=hc'.1 h8
   refine .mk (fun _=>by rw [hcode]; exact hI (by rw [qBB]; simp [h8])) (fun h=>by omega) (fun h=>by omega) (fun h=>by omega) ?_ (by omega) hk1
   exact qNL (by omega)
  obtain ⟨_,hkl,hcs⟩:=qHG hm h8
  refine .mk (fun h=>absurd h h8) (fun h=>qPE hm h) (fun h => ?_) (fun h => ?_) (by omega) (by omega) hk1
  ·rcases hcs with ⟨k,_⟩ | ⟨k,_⟩ | ⟨k,_⟩ | ⟨k,h1,_⟩ | ⟨k,_,h2,_⟩ | ⟨k,h1,h2,h3⟩ | ⟨k,h1,h2,h3,h4⟩
   ·omega
   ·omega
   ·omega
   ·omega
   ·exact ⟨(jU h2).1,by have:=(jU h2).2; omega⟩
   ·omega
   omega
  rcases hcs with ⟨k,_⟩ | ⟨k,_⟩ | ⟨k,_⟩ | ⟨k,h1,_⟩ | ⟨k,_,h2,_⟩ | ⟨k,h1,h2,h3⟩ | ⟨k,h1,h2,h3,h4⟩
  ·omega
  ·omega
  ·omega
  ·omega
  ·omega
  ·omega
  unfold qPN at h4
  simp only [Bool.and_eq_true,List.all_eq_true] at h4
  exact ⟨h3,fun key hk=>⟨(jU (h4.1 key hk)).1,by have:=(jU (h4.1 key hk)).2; omega⟩⟩
theorem qOG (c:Int) (v:Val):xA v=false→xX c v:=by
 induction v using Val.induct with
 | h v ih =>
  intro hp
  rw [qDP]
  exact ⟨fun h=>absurd h (qSP hp),fun k hk=>ih k hk (qVS hp hk)⟩
theorem qKR {v:Val} (hm:xN v=true) (hp:xA v=false) (hs:Val.sz v≤10000):AFn Tryz.prog G 81 [v.enc] (.str (qS v)) :=
 qQO v (qSN (c:=0) v hm hs (qOG 0 v hp) fun h=>by rw [hp] at h; cases h)
end Go.Proofs.YtgcbapchinideaaGreatDoor
