import Derived.Test.YtgcbapchinideaaGreatDoorSPrintAll
import Derived.Test.YtgcbapchinideaaGreatDoorSBackL
namespace Go.Proofs.YtgcbapchinideaaGreatDoor
open Sy Go
set_option linter.unusedSimpArgs false
set_option linter.unusedVariables false
set_option maxRecDepth 100000
variable {G:qM}
theorem xV {s:List UInt8} (h:qID s=true):Lib.validD s=true∧s.length≤4096:=by
 unfold qID at h; simp only [Bool.and_eq_true,decide_eq_true_eq] at h; exact ⟨h.2,by omega⟩
theorem qJZ (l:List Val) (h:∀ k∈l,(zB k).length+25000≤50000 * Val.sz k):((l.map zB).map List.length).sum+25000 * l.length≤50000 * Val.szL l:=by
 induction l with
 | nil=>simp
 | cons v l ih =>
  have h1:=h v (by simp)
  have h2:=ih fun k hk=>h k (by simp [hk])
  simp only [List.map_cons,List.sum_cons,List.length_cons,Val.szL]; omega
theorem qRH:∀ (l:List Val) (keys:List (List UInt8)),(∀ k∈keys,qID k=true)→(∀ k∈l,(zB k).length+25000≤50000 * Val.sz k)→((qAU keys (l.map zB)).map List.length).sum+(qAU keys (l.map zB)).length≤50000 * Val.szL l
 | [],keys,_,_=>by cases keys <;> simp [qAU]
 | v::l,[],_,_=>by simp [qAU]
 | v::l,key::keys,hk,h=>by
  have h1:=h v (by simp)
  have h2:=qRH l keys (fun k hk'=>hk k (by simp [hk'])) fun k hk=>h k (by simp [hk])
  have h3:=qML key
  have h4:=(xV (hk key (by simp))).2
  rw [List.map_cons,qWD]
  simp only [List.map_cons,List.sum_cons,List.length_cons,Val.szL,List.length_append,List.length_nil]; omega
theorem qSF (v:Val):xF v=true→(zB v).length+25000≤50000 * Val.sz v:=by
 induction v using Val.induct with
 | h v ih =>
  intro hm
  rw [qUL]
  have ihk:∀ k∈v.kids,(zB k).length+25000≤50000 * Val.sz k:=fun k hk=>ih k hk (qKO hm hk)
  by_cases h8:v.kind=8
  ·rw [zAH h8]
   have:(qAX v.code).length≤2:=by unfold qAX; split <;> simp
   simp; omega
  obtain ⟨_,_,hc⟩:=qIT hm h8
  rcases hc with ⟨k,_⟩ | ⟨k,_⟩ | ⟨k,_⟩ | ⟨k,h1,_⟩ | ⟨k,_,h2,_⟩ | ⟨k,h1,h2,h3⟩ | ⟨k,h1,h2,h3,h4⟩
  ·rw [zAO k]; simp [qLW]; omega
  ·rw [zAN k]; simp [qFK]; omega
  ·rw [zAM k]; simp [qLV]; omega
  ·rw [zAL k]; have:=qSH h1; omega
  ·rw [zAK k]; have:=qML v.text; have:=(xV h2).2; omega
  ·rw [zAJ k]
   have:=qJZ v.kids ihk
   have:=qKQ (v.kids.map zB)
   simp only [List.length_append,List.length_cons,List.length_nil,List.length_map] at this ⊢
   omega
  rw [zAI k]
  unfold qNH at h4
  simp only [Bool.and_eq_true,List.all_eq_true] at h4
  have:=qRH v.kids v.keys h4.1 ihk
  have:=qKQ (qAU v.keys (v.kids.map zB))
  simp only [List.length_append,List.length_cons,List.length_nil] at this ⊢
  omega
mutual
def vX (c:Int):Val→Prop
 | .mk k _ _ _ _ vs e=>(k=8→e=c)∧uY c vs
def uY (c:Int):List Val→Prop
 | []=>True
 | v::vs=>vX c v∧uY c vs
end
theorem qCO (c:Int):∀ l,uY c l↔∀ v∈l,vX c v
 | []=>by simp [uY]
 | v::vs=>by simp [uY,qCO c vs]
theorem qEP (c:Int) (v:Val):vX c v↔(v.kind=8→v.code=c)∧∀ k∈v.kids,vX c k:=by cases v; simp only [vX,qCO,Val.kind,Val.kids,Val.code]
theorem qUR {c:Int} (v:Val):xF v=true→Val.sz v≤10000→vX c v→(xZ v=true→qLL G c)→Prn G v:=by
 induction v using Val.induct with
 | h v ih =>
  intro hm hs hc hI
  have hl:=qSF v hm
  have hc':=(qEP c v).1 hc
  have hk1:∀ k∈v.kids,Prn G k:=fun k hk=>ih k hk (qKO hm hk) (by have:=Val.sz_kid hk; omega) (hc'.2 k hk) fun hp=>hI (by
   rw [qBZ]; simp only [Bool.or_eq_true,List.any_eq_true]; exact .inr ⟨k,hk,hp⟩)
  by_cases h8:v.kind=8
  ·have hcode:=hc'.1 h8
   refine .mk (fun _=>by rw [hcode]; exact hI (by rw [qBZ]; simp [h8])) (fun h=>by omega) (fun h=>by omega) (fun h=>by omega) ?_ (by omega) hk1
   exact qPE (by omega)
  obtain ⟨_,hkl,hcs⟩:=qIT hm h8
  refine .mk (fun h=>absurd h h8) (fun h=>qQY hm h) (fun h => ?_) (fun h => ?_) (by omega) (by omega) hk1
  ·rcases hcs with ⟨k,_⟩ | ⟨k,_⟩ | ⟨k,_⟩ | ⟨k,h1,_⟩ | ⟨k,_,h2,_⟩ | ⟨k,h1,h2,h3⟩ | ⟨k,h1,h2,h3,h4⟩
   ·omega
   ·omega
   ·omega
   ·omega
   ·exact ⟨(xV h2).1,by have:=(xV h2).2; omega⟩
   ·omega
   omega
  rcases hcs with ⟨k,_⟩ | ⟨k,_⟩ | ⟨k,_⟩ | ⟨k,h1,_⟩ | ⟨k,_,h2,_⟩ | ⟨k,h1,h2,h3⟩ | ⟨k,h1,h2,h3,h4⟩
  ·omega
  ·omega
  ·omega
  ·omega
  ·omega
  ·omega
  unfold qNH at h4
  simp only [Bool.and_eq_true,List.all_eq_true] at h4
  exact ⟨h3,fun key hk=>⟨(xV (h4.1 key hk)).1,by have:=(xV (h4.1 key hk)).2; omega⟩⟩
theorem qPX (c:Int) (v:Val):xZ v=false→vX c v:=by
 induction v using Val.induct with
 | h v ih =>
  intro hp
  rw [qEP]
  exact ⟨fun h=>absurd h (qUT hp),fun k hk=>ih k hk (qYJ hp hk)⟩
theorem qMN {v:Val} (hm:xF v=true) (hp:xZ v=false) (hs:Val.sz v≤10000):AFn Tryz.prog G 81 [v.enc] (.str (zB v)) :=
 qSG v (qUR (c:=0) v hm hs (qPX 0 v hp) fun h=>by rw [hp] at h; cases h)
end Go.Proofs.YtgcbapchinideaaGreatDoor
