import Derived.Test.YtlmedakhioiahaaGreatDoorSPrintAll
import Derived.Test.YtlmedakhioiahaaGreatDoorSBackL
namespace Go.Proofs.YtlmedakhioiahaaGreatDoor
open Sy Go
set_option linter.unusedSimpArgs false
set_option linter.unusedVariables false
set_option maxRecDepth 100000
variable {G:qO}
theorem uV {s:List UInt8} (h:uD s=true):Lib.validD s=true∧s.length≤4096:=by
 unfold uD at h; simp only [Bool.and_eq_true,decide_eq_true_eq] at h; exact ⟨h.2,by omega⟩
theorem qUL (l:List Val) (h:∀ k∈l,(qR k).length+25000≤50000 * Val.sz k):((l.map qR).map List.length).sum+25000 * l.length≤50000 * Val.szL l:=by
 induction l with
 | nil=>simp
 | cons v l ih =>
  have h1:=h v (by simp)
  have h2:=ih fun k hk=>h k (by simp [hk])
  simp only [List.map_cons,List.sum_cons,List.length_cons,Val.szL]; omega
theorem qXT:∀ (l:List Val) (keys:List (List UInt8)),(∀ k∈keys,uD k=true)→(∀ k∈l,(qR k).length+25000≤50000 * Val.sz k)→((qAX keys (l.map qR)).map List.length).sum+(qAX keys (l.map qR)).length≤50000 * Val.szL l
 | [],keys,_,_=>by cases keys <;> simp [qAX]
 | v::l,[],_,_=>by simp [qAX]
 | v::l,key::keys,hk,h=>by
  have h1:=h v (by simp)
  have h2:=qXT l keys (fun k hk'=>hk k (by simp [hk'])) fun k hk=>h k (by simp [hk])
  have h3:=qSF key
  have h4:=(uV (hk key (by simp))).2
  rw [List.map_cons,zDB]
  simp only [List.map_cons,List.sum_cons,List.length_cons,Val.szL,List.length_append,List.length_nil]; omega
theorem qYW (v:Val):wF v=true→(qR v).length+25000≤50000 * Val.sz v:=by
 induction v using Val.induct with
 | h v ih =>
  intro hm
  rw [zBJ]
  have ihk:∀ k∈v.kids,(qR k).length+25000≤50000 * Val.sz k:=fun k hk=>ih k hk (qXJ hm hk)
  by_cases h8:v.kind=8
  ·rw [zIJ h8]
   have:(uL v.code).length≤2:=by unfold uL; split <;> simp
   simp; omega
  obtain ⟨_,_,hc⟩:=qNN hm h8
  rcases hc with ⟨k,_⟩ | ⟨k,_⟩ | ⟨k,_⟩ | ⟨k,h1,_⟩ | ⟨k,_,h2,_⟩ | ⟨k,h1,h2,h3⟩ | ⟨k,h1,h2,h3,h4⟩
  ·rw [zIQ k]; simp [kX]; omega
  ·rw [zIP k]; simp [yG]; omega
  ·rw [zIO k]; simp [kW]; omega
  ·rw [zIN k]; have:=qYY h1; omega
  ·rw [zIM k]; have:=qSF v.text; have:=(uV h2).2; omega
  ·rw [zIL k]
   have:=qUL v.kids ihk
   have:=qPU (v.kids.map qR)
   simp only [List.length_append,List.length_cons,List.length_nil,List.length_map] at this ⊢
   omega
  rw [zIK k]
  unfold vW at h4
  simp only [Bool.and_eq_true,List.all_eq_true] at h4
  have:=qXT v.kids v.keys h4.1 ihk
  have:=qPU (qAX v.keys (v.kids.map qR))
  simp only [List.length_append,List.length_cons,List.length_nil] at this ⊢
  omega
mutual
def uO (c:Int):Val→Prop
 | .mk k _ _ _ _ vs e=>(k=8→e=c)∧qCN c vs
def qCN (c:Int):List Val→Prop
 | []=>True
 | v::vs=>uO c v∧qCN c vs
end
theorem qGG (c:Int):∀ l,qCN c l↔∀ v∈l,uO c v
 | []=>by simp [qCN]
 | v::vs=>by simp [qCN,qGG c vs]
theorem qIM (c:Int) (v:Val):uO c v↔(v.kind=8→v.code=c)∧∀ k∈v.kids,uO c k:=by cases v; simp only [uO,qGG,Val.kind,Val.kids,Val.code]
theorem qSI {c:Int} (v:Val):wF v=true→Val.sz v≤10000→uO c v→(qFM v=true→qEZ G c)→Prn G v:=by
 induction v using Val.induct with
 | h v ih =>
  intro hm hs hc hI
  have hl:=qYW v hm
  have hc':=(qIM c v).1 hc
  have hk1:∀ k∈v.kids,Prn G k:=fun k hk=>ih k hk (qXJ hm hk) (by have:=Val.sz_kid hk; omega) (hc'.2 k hk) fun hp=>hI (by
   rw [qJH]; simp only [Bool.or_eq_true,List.any_eq_true]; exact .inr ⟨k,hk,hp⟩)
  by_cases h8:v.kind=8
  ·have hcode:=hc'.1 h8
   refine .mk (fun _=>by rw [hcode]; exact hI (by rw [qJH]; simp [h8])) (fun h=>by omega) (fun h=>by omega) (fun h=>by omega) ?_ (by omega) hk1
   exact qVJ (by omega)
  obtain ⟨_,hkl,hcs⟩:=qNN hm h8
  refine .mk (fun h=>absurd h h8) (fun h=>zFX hm h) (fun h => ?_) (fun h => ?_) (by omega) (by omega) hk1
  ·rcases hcs with ⟨k,_⟩ | ⟨k,_⟩ | ⟨k,_⟩ | ⟨k,h1,_⟩ | ⟨k,_,h2,_⟩ | ⟨k,h1,h2,h3⟩ | ⟨k,h1,h2,h3,h4⟩
   ·omega
   ·omega
   ·omega
   ·omega
   ·exact ⟨(uV h2).1,by have:=(uV h2).2; omega⟩
   ·omega
   omega
  rcases hcs with ⟨k,_⟩ | ⟨k,_⟩ | ⟨k,_⟩ | ⟨k,h1,_⟩ | ⟨k,_,h2,_⟩ | ⟨k,h1,h2,h3⟩ | ⟨k,h1,h2,h3,h4⟩
  ·omega
  ·omega
  ·omega
  ·omega
  ·omega
  ·omega
  unfold vW at h4
  simp only [Bool.and_eq_true,List.all_eq_true] at h4
  exact ⟨h3,fun key hk=>⟨(uV (h4.1 key hk)).1,by have:=(uV (h4.1 key hk)).2; omega⟩⟩
theorem qLU (c:Int) (v:Val):qFM v=false→uO c v:=by
 induction v using Val.induct with
 | h v ih =>
  intro hp
  rw [qIM]
  exact ⟨fun h=>absurd h (zBV hp),fun k hk=>ih k hk (zFP hp hk)⟩
theorem qHY {v:Val} (hm:wF v=true) (hp:qFM v=false) (hs:Val.sz v≤10000):AFn Tryz.prog G 22 [v.enc] (.str (qR v)) :=
 qYX v (qSI (c:=0) v hm hs (qLU 0 v hp) fun h=>by rw [hp] at h; cases h)
end Go.Proofs.YtlmedakhioiahaaGreatDoor
