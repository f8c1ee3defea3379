import Derived.Test.YtgcbapchinideaaGreatDoorSCallL
import Derived.Test.YtgcbapchinideaaGreatDoorSAlikeE
namespace Go.Proofs.YtgcbapchinideaaGreatDoor
open Sy Go
set_option maxRecDepth 100000
set_option maxHeartbeats 4000000
set_option linter.all false
variable {G:qR}
mutual
def Wid:Val->Prop
 | .mk _ _ _ _ _ vs _=>vs.length<=1000000/\zRE vs
def zRE:List Val->Prop
 | []=>True
 | v::l=>Wid v/\zRE l
end
theorem zCU:∀ l,zRE l↔∀ k∈l,Wid k
 | []=>by simp[zRE]
 | v::l=>by simp[zRE,zCU l]
theorem vR (v:Val):Wid v↔v.kids.length<=1000000/\∀ k∈v.kids,Wid k:=by cases v;simp only[Wid,zCU,Val.kids_mk]
theorem qOB (v:Val):zX v=true->Wid v :=
 Val.induct (p:=fun v=>zX v=true->Wid v) (fun v ih h=>(vR v).2 ⟨by have:=qLR h;omega,fun k hk=>ih k hk (jJ h hk)⟩) v
theorem qVJ (c:Int) (a:Val):Wid a->∀ b,Wid b->AFn Tryz.prog G 18 [a.enc,b.enc,.int .u64 c] (.bool (uT c a b)) :=
 Val.induct (p:=fun a=>Wid a->∀ b,Wid b->AFn Tryz.prog G 18 [a.enc,b.enc,.int .u64 c] (.bool (uT c a b)))
  (fun a ih ha b hb=>zGC a b c ((vR a).1 ha).1 ((vR b).1 hb).1 fun x hx y hy=>ih x hx (((vR a).1 ha).2 x hx) y (((vR b).1 hb).2 y hy)) a
theorem qCJ {v:Val} (h:v.kids=[]):Wid v:=(vR v).2 ⟨by rw[h];simp,fun k hk=>by rw[h]at hk;cases hk⟩
theorem qOM (s:List UInt8) (m:Int):Wid (wW s m):=by unfold wW;split <;> exact qCJ rfl
theorem zGM (r:Dc × Int) (m:Int):Wid (vH r m):=by unfold vH;split <;> exact qCJ rfl
theorem qFH {l:List Val} (h:∀ k∈l,Wid k) (m:Int):Wid (yE l m):=by
 unfold yE;split
 ·exact qCJ rfl
 exact(vR _).2 ⟨by show l.length<=1000000;omega,h⟩
theorem zGL:∀ (ks:List (List UInt8)) (l:List Val),(∀ x∈l,Wid x)->∀ p∈List.zipWith kN ks l,Wid p
 | [],_,_,p,hp=>by simp at hp
 | k::ks,[],_,p,hp=>by simp at hp
 | k::ks,x::l,h2,p,hp=>by
  rw[List.zipWith_cons_cons]at hp
  rcases List.mem_cons.1 hp with rfl|hp
  ·refine(vR _).2 ⟨by simp[kN],fun y hy => ?_⟩
   rcases List.mem_cons.1 hy with rfl|hy
   ·exact qOM k 0
   rw[List.mem_singleton.1 hy];exact h2 x (by simp)
  exact zGL ks l (fun x hx=>h2 x (by simp[hx])) p hp
theorem zCM (b:Val->Val->Bool):∀ (l:List Val) (x:Val),Wid x->(∀ k∈l,Wid k)->Wid (qGM b x l)
 | [],x,hx,_=>hx
 | v::l,x,hx,h=>by
  simp only[qGM]
  exact zCM b l _ (by split;exact h v (by simp);exact hx) fun k hk=>h k (by simp[hk])
theorem qVC {n:Nat} (hn:n<25) (arg:List UInt8) {v:Val} (h:Wid v):Wid (uI n arg v):=by
 rw[qXO hn]
 generalize mC n v=m
 have hk:=((vR v).1 h).2
 have hf:Wid (qQ 40 m):=qCJ rfl
 have ite:∀ (k:Int) (x:Val),Wid x->Wid (if v.kind=k then x else qQ 40 m):=fun k x h=>by
  split
  ·exact h
  exact hf
 have hb:∀ b:Val->Val->Bool,Wid (qBM b v.kids m):=fun b=>by
  unfold qBM
  generalize v.kids=l at *
  cases l with
  | nil=>exact qCJ rfl
  | cons x l =>
   have:=zCM b l x (hk x (by simp)) fun k h=>hk k (by simp[h])
   rw[if_neg (by simp)]
   exact(vR (qEV (qGM b x l) m)).2 ((vR (qGM b x l)).1 this)
 rcases zTS hn with h|h|h|h|h|h|h|h|h|h|h|h|h|h|h|h|h|h|h|h|h|h|h|h|h
 all_goals subst h
 all_goals first
  | exact ite 6 _ (qFH (fun k h=>hk k (qDP.1 h)) m)
  | exact ite 6 _ (qFH (fun k h=>hk k (qDP.1 (zMQ h))) m)
  | exact ite 6 _ (qFH (fun k h=>hk k (List.mem_reverse.1 h)) m)
  | exact ite 7 _ (qFH (zGL _ _ hk) m)
  | exact ite 6 _ (hb _)
  | skip
 all_goals simp only[qHY,qNW,qQM,zEF,qSK,qKA,vZ,zEX,qSZ,qFT,qFG,qFB]
 all_goals repeat' split
 all_goals first
  | exact qOM _ _
  | exact zGM _ _
  | exact qCJ rfl
  | skip
 all_goals
  refine qFH (fun k hk => ?_) m
  obtain⟨s,hs,rfl⟩:=List.mem_map.1 hk
  first
   | exact qOM _ _
   | exact zGM _ _
end Go.Proofs.YtgcbapchinideaaGreatDoor
