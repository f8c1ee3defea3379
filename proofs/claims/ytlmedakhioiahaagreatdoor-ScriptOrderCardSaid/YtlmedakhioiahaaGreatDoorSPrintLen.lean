import Derived.Test.YtlmedakhioiahaaGreatDoorK3
import Derived.Test.YtlmedakhioiahaaGreatDoorSBackL
namespace Go.Proofs.YtlmedakhioiahaaGreatDoor
open Sy Go
set_option linter.unusedSimpArgs false
set_option linter.unusedVariables false
set_option maxRecDepth 100000
variable {G:qR}
theorem qAK {s:List UInt8} (h:xE s=true):Lib.validD s=true∧s.length≤4096:=by
 unfold xE at h; simp only [Bool.and_eq_true,decide_eq_true_eq] at h; exact ⟨h.2,by omega⟩
theorem qVP (l:List Val) (h:∀ k∈l,(qI k).length+25000≤50000 * Val.sz k):((l.map qI).map List.length).sum+25000 * l.length≤50000 * Val.szL l:=by
 induction l with
 | nil=>simp
 | cons v l ih =>
  have h1:=h v (by simp)
  have h2:=ih fun k hk=>h k (by simp [hk])
  simp only [List.map_cons,List.sum_cons,List.length_cons,Val.szL]; omega
theorem qZA:∀ (l:List Val) (keys:List (List UInt8)),(∀ k∈keys,xE k=true)→(∀ k∈l,(qI k).length+25000≤50000 * Val.sz k)→((kM keys (l.map qI)).map List.length).sum+(kM keys (l.map qI)).length≤50000 * Val.szL l
 | [],keys,_,_=>by cases keys <;> simp [kM]
 | v::l,[],_,_=>by simp [kM]
 | v::l,key::keys,hk,h=>by
  have h1:=h v (by simp)
  have h2:=qZA l keys (fun k hk'=>hk k (by simp [hk'])) fun k hk=>h k (by simp [hk])
  have h3:=qTD key
  have h4:=(qAK (hk key (by simp))).2
  rw [List.map_cons,qUR]
  simp only [List.map_cons,List.sum_cons,List.length_cons,Val.szL,List.length_append,List.length_nil]; omega
theorem qHI (v:Val):wC v=true→(qI v).length+25000≤50000 * Val.sz v:=by
 induction v using Val.induct with
 | h v ih =>
  intro hm
  rw [qII]
  have ihk:∀ k∈v.kids,(qI k).length+25000≤50000 * Val.sz k:=fun k hk=>ih k hk (qGE hm hk)
  by_cases h8:v.kind=8
  ·rw [zJT h8]
   have:(uV v.code).length≤2:=by unfold uV; split <;> simp
   simp; omega
  obtain ⟨_,_,hc⟩:=qDR hm h8
  rcases hc with ⟨k,_⟩ | ⟨k,_⟩ | ⟨k,_⟩ | ⟨k,h1,_⟩ | ⟨k,_,h2,_⟩ | ⟨k,h1,h2,h3⟩ | ⟨k,h1,h2,h3,h4⟩
  ·rw [zDH k]; simp [yY]; omega
  ·rw [zDG k]; simp [wZ]; omega
  ·rw [zDF k]; simp [kE]; omega
  ·rw [zDE k]; have:=zAE h1; omega
  ·rw [zDD k]; have:=qTD v.text; have:=(qAK h2).2; omega
  ·rw [zDC k]
   have:=qVP v.kids ihk
   have:=qQP (v.kids.map qI)
   simp only [List.length_append,List.length_cons,List.length_nil,List.length_map] at this ⊢
   omega
  rw [qWD k]
  unfold kY at h4
  simp only [Bool.and_eq_true,List.all_eq_true] at h4
  have:=qZA v.kids v.keys h4.1 ihk
  have:=qQP (kM v.keys (v.kids.map qI))
  simp only [List.length_append,List.length_cons,List.length_nil] at this ⊢
  omega
mutual
def uZ (c:Int):Val→Prop
 | .mk k _ _ _ _ vs e=>(k=8→e=c)∧qCZ c vs
def qCZ (c:Int):List Val→Prop
 | []=>True
 | v::vs=>uZ c v∧qCZ c vs
end
theorem qGS (c:Int):∀ l,qCZ c l↔∀ v∈l,uZ c v
 | []=>by simp [qCZ]
 | v::vs=>by simp [qCZ,qGS c vs]
theorem qJB (c:Int) (v:Val):uZ c v↔(v.kind=8→v.code=c)∧∀ k∈v.kids,uZ c k:=by cases v; simp only [uZ,qGS,Val.kind,Val.kids,Val.code]
theorem qTH {c:Int} (v:Val):wC v=true→Val.sz v≤10000→uZ c v→(uL v=true→qFJ G c)→Prn G v:=by
 induction v using Val.induct with
 | h v ih =>
  intro hm hs hc hI
  have hl:=qHI v hm
  have hc':=(qJB c v).1 hc
  have hk1:∀ k∈v.kids,Prn G k:=fun k hk=>ih k hk (qGE hm hk) (by have:=Val.sz_kid hk; omega) (hc'.2 k hk) fun hp=>hI (by
   rw [qBI]; simp only [Bool.or_eq_true,List.any_eq_true]; exact .inr ⟨k,hk,hp⟩)
  by_cases h8:v.kind=8
  ·have hcode:=hc'.1 h8
   refine .mk (fun _=>by rw [hcode]; exact hI (by rw [qBI]; simp [h8])) (fun h=>by omega) (fun h=>by omega) (fun h=>by omega) ?_ (by omega) hk1
   exact qWO (by omega)
  obtain ⟨_,hkl,hcs⟩:=qDR hm h8
  refine .mk (fun h=>absurd h h8) (fun h=>qYT hm h) (fun h => ?_) (fun h => ?_) (by omega) (by omega) hk1
  ·rcases hcs with ⟨k,_⟩ | ⟨k,_⟩ | ⟨k,_⟩ | ⟨k,h1,_⟩ | ⟨k,_,h2,_⟩ | ⟨k,h1,h2,h3⟩ | ⟨k,h1,h2,h3,h4⟩
   ·omega
   ·omega
   ·omega
   ·omega
   ·exact ⟨(qAK h2).1,by have:=(qAK h2).2; omega⟩
   ·omega
   omega
  rcases hcs with ⟨k,_⟩ | ⟨k,_⟩ | ⟨k,_⟩ | ⟨k,h1,_⟩ | ⟨k,_,h2,_⟩ | ⟨k,h1,h2,h3⟩ | ⟨k,h1,h2,h3,h4⟩
  ·omega
  ·omega
  ·omega
  ·omega
  ·omega
  ·omega
  unfold kY at h4
  simp only [Bool.and_eq_true,List.all_eq_true] at h4
  exact ⟨h3,fun key hk=>⟨(qAK (h4.1 key hk)).1,by have:=(qAK (h4.1 key hk)).2; omega⟩⟩
theorem qFG (c:Int) (v:Val):uL v=false→uZ c v:=by
 induction v using Val.induct with
 | h v ih =>
  intro hp
  rw [qJB]
  exact ⟨fun h=>absurd h (qLL hp),fun k hk=>ih k hk (qQE hp hk)⟩
theorem qIN {v:Val} (hm:wC v=true) (hp:uL v=false) (hs:Val.sz v≤10000):AFn Tryz.prog G 22 [v.enc] (.str (qI v)) :=
 zAD v (qTH (c:=0) v hm hs (qFG 0 v hp) fun h=>by rw [hp] at h; cases h)
end Go.Proofs.YtlmedakhioiahaaGreatDoor
