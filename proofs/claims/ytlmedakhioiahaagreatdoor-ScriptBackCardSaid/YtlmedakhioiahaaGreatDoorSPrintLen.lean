import Derived.Test.YtlmedakhioiahaaGreatDoorK3
import Derived.Test.YtlmedakhioiahaaGreatDoorSBackL
namespace Go.Proofs.YtlmedakhioiahaaGreatDoor
open Sy Go
set_option linter.unusedSimpArgs false
set_option linter.unusedVariables false
set_option maxRecDepth 100000
variable {G:qO}
theorem vW {s:List UInt8} (h:yV s=true):Lib.validD s=true∧s.length≤4096:=by
 unfold yV at h; simp only [Bool.and_eq_true,decide_eq_true_eq] at h; exact ⟨h.2,by omega⟩
theorem qSO (l:List Val) (h:∀ k∈l,(qF k).length+25000≤50000 * Val.sz k):((l.map qF).map List.length).sum+25000 * l.length≤50000 * Val.szL l:=by
 induction l with
 | nil=>simp
 | cons v l ih =>
  have h1:=h v (by simp)
  have h2:=ih fun k hk=>h k (by simp [hk])
  simp only [List.map_cons,List.sum_cons,List.length_cons,Val.szL]; omega
theorem qWD:∀ (l:List Val) (keys:List (List UInt8)),(∀ k∈keys,yV k=true)→(∀ k∈l,(qF k).length+25000≤50000 * Val.sz k)→((wI keys (l.map qF)).map List.length).sum+(wI keys (l.map qF)).length≤50000 * Val.szL l
 | [],keys,_,_=>by cases keys <;> simp [wI]
 | v::l,[],_,_=>by simp [wI]
 | v::l,key::keys,hk,h=>by
  have h1:=h v (by simp)
  have h2:=qWD l keys (fun k hk'=>hk k (by simp [hk'])) fun k hk=>h k (by simp [hk])
  have h3:=qQR key
  have h4:=(vW (hk key (by simp))).2
  rw [List.map_cons,qJY]
  simp only [List.map_cons,List.sum_cons,List.length_cons,Val.szL,List.length_append,List.length_nil]; omega
theorem qLU (v:Val):zU v=true→(qF v).length+25000≤50000 * Val.sz v:=by
 induction v using Val.induct with
 | h v ih =>
  intro hm
  rw [qGL]
  have ihk:∀ k∈v.kids,(qF k).length+25000≤50000 * Val.sz k:=fun k hk=>ih k hk (vJ hm hk)
  by_cases h8:v.kind=8
  ·rw [zFX h8]
   have:(qCN v.code).length≤2:=by unfold qCN; split <;> simp
   simp; omega
  obtain ⟨_,_,hc⟩:=uD hm h8
  rcases hc with ⟨k,_⟩ | ⟨k,_⟩ | ⟨k,_⟩ | ⟨k,h1,_⟩ | ⟨k,_,h2,_⟩ | ⟨k,h1,h2,h3⟩ | ⟨k,h1,h2,h3,h4⟩
  ·rw [qTH k]; simp [kC]; omega
  ·rw [qTG k]; simp [wU]; omega
  ·rw [qTF k]; simp [kM]; omega
  ·rw [qTE k]; have:=qXA h1; omega
  ·rw [qTD k]; have:=qQR v.text; have:=(vW h2).2; omega
  ·rw [qTC k]
   have:=qSO v.kids ihk
   have:=qOH (v.kids.map qF)
   simp only [List.length_append,List.length_cons,List.length_nil,List.length_map] at this ⊢
   omega
  rw [qNT k]
  unfold yZ at h4
  simp only [Bool.and_eq_true,List.all_eq_true] at h4
  have:=qWD v.kids v.keys h4.1 ihk
  have:=qOH (wI v.keys (v.kids.map qF))
  simp only [List.length_append,List.length_cons,List.length_nil] at this ⊢
  omega
mutual
def qAB (c:Int):Val→Prop
 | .mk k _ _ _ _ vs e=>(k=8→e=c)∧qBG c vs
def qBG (c:Int):List Val→Prop
 | []=>True
 | v::vs=>qAB c v∧qBG c vs
end
theorem qEY (c:Int):∀ l,qBG c l↔∀ v∈l,qAB c v
 | []=>by simp [qBG]
 | v::vs=>by simp [qBG,qEY c vs]
theorem qHA (c:Int) (v:Val):qAB c v↔(v.kind=8→v.code=c)∧∀ k∈v.kids,qAB c k:=by cases v; simp only [qAB,qEY,Val.kind,Val.kids,Val.code]
theorem qZV {c:Int} (v:Val):zU v=true→Val.sz v≤10000→qAB c v→(xU v=true→qPH G c)→Prn G v:=by
 induction v using Val.induct with
 | h v ih =>
  intro hm hs hc hI
  have hl:=qLU v hm
  have hc':=(qHA c v).1 hc
  have hk1:∀ k∈v.kids,Prn G k:=fun k hk=>ih k hk (vJ hm hk) (by have:=Val.sz_kid hk; omega) (hc'.2 k hk) fun hp=>hI (by
   rw [uR]; simp only [Bool.or_eq_true,List.any_eq_true]; exact .inr ⟨k,hk,hp⟩)
  by_cases h8:v.kind=8
  ·have hcode:=hc'.1 h8
   refine .mk (fun _=>by rw [hcode]; exact hI (by rw [uR]; simp [h8])) (fun h=>by omega) (fun h=>by omega) (fun h=>by omega) ?_ (by omega) hk1
   exact qTS (by omega)
  obtain ⟨_,hkl,hcs⟩:=uD hm h8
  refine .mk (fun h=>absurd h h8) (fun h=>qVU hm h) (fun h => ?_) (fun h => ?_) (by omega) (by omega) hk1
  ·rcases hcs with ⟨k,_⟩ | ⟨k,_⟩ | ⟨k,_⟩ | ⟨k,h1,_⟩ | ⟨k,_,h2,_⟩ | ⟨k,h1,h2,h3⟩ | ⟨k,h1,h2,h3,h4⟩
   ·omega
   ·omega
   ·omega
   ·omega
   ·exact ⟨(vW h2).1,by have:=(vW h2).2; omega⟩
   ·omega
   omega
  rcases hcs with ⟨k,_⟩ | ⟨k,_⟩ | ⟨k,_⟩ | ⟨k,h1,_⟩ | ⟨k,_,h2,_⟩ | ⟨k,h1,h2,h3⟩ | ⟨k,h1,h2,h3,h4⟩
  ·omega
  ·omega
  ·omega
  ·omega
  ·omega
  ·omega
  unfold yZ at h4
  simp only [Bool.and_eq_true,List.all_eq_true] at h4
  exact ⟨h3,fun key hk=>⟨(vW (h4.1 key hk)).1,by have:=(vW (h4.1 key hk)).2; omega⟩⟩
theorem qUG (c:Int) (v:Val):xU v=false→qAB c v:=by
 induction v using Val.induct with
 | h v ih =>
  intro hp
  rw [qHA]
  exact ⟨fun h=>absurd h (qED hp),fun k hk=>ih k hk (qEE hp hk)⟩
theorem qGO {v:Val} (hm:zU v=true) (hp:xU v=false) (hs:Val.sz v≤10000):AFn Tryz.prog G 22 [v.enc] (.str (qF v)) :=
 qWZ v (qZV (c:=0) v hm hs (qUG 0 v hp) fun h=>by rw [hp] at h; cases h)
end Go.Proofs.YtlmedakhioiahaaGreatDoor
