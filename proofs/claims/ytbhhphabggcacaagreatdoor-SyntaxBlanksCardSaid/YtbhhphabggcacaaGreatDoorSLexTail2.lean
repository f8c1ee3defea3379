import Derived.Test.YtbhhphabggcacaaGreatDoorSLexTail
import Derived.Test.YtbhhphabggcacaaGreatDoorSUnqTail
namespace Go.Proofs.YtbhhphabggcacaaGreatDoor
open Sy Go
set_option maxRecDepth 100000
set_option linter.unusedSimpArgs false
set_option linter.unusedVariables false
theorem qNV (r t:List UInt8):((qO r).2.2=0∧qO (r++9::t)=qO r)∨((qO r).2.2≠0∧(qO (r++9::t)).2.2≠0):=by
 cases r with
 | nil=>exact .inr ⟨by simp [qO],by simp [qO]⟩
 | cons b r =>
  by_cases hb:b=34
  ·subst hb
   have e1:qO (34::r)=yC (r.length+1) r 1 []:=by simp [qO]
   have e2:qO ((34::r)++9::t)=yC ((r++9::t).length+1) (r++9::t) 1 []:=by simp [qO]
   rw [e1,e2]
   by_cases h6:(yC (r.length+1) r 1 []).2.2=6
   ·exact .inr ⟨by rw [h6]; decide,qHM r.length _ r 1 [] t _ (Nat.le_refl _) (by omega) h6⟩
   have h:=(qGE (r.length+1) r (9::t) 1 [] h6 ((r++9::t).length+1) (by simp)).1
   by_cases h0:(yC (r.length+1) r 1 []).2.2=0
   ·exact .inl ⟨h0,h⟩
   exact .inr ⟨h0,by rw [h]; exact h0⟩
  have e1:qO (b::r)=([],0,6):=by simp [qO,hb]
  have e2:qO ((b::r)++9::t)=([],0,6):=by simp [qO,hb]
  rw [e1,e2]
  exact .inr ⟨by decide,by decide⟩
theorem zAR {q:List UInt8} (hq:q≠[]) (t:List UInt8):kI (q++9::t)=kI q:=by
 have hc:(9:UInt8)∈xU:=by decide
 have hd:=qGZ hq
 unfold kI
 simp only
 rw [qMJ hc hq,qLK hc hq]
 generalize (wM q).1=k
 generalize (wM q).2=d at *
 rw [List.drop_append_of_le_length hd]
 generalize q.drop d=r
 have hn:=qKJ r
 rw [qAP (zNA _ hc),xT (qWK _ hc),xT (qLI _ hc),qKO hc,qPI hc,qBE r _ hn]
 rcases qNV r t with ⟨h1,h2⟩ | ⟨h1,h2⟩
 ·rw [h2]
 rw [if_pos h1,if_pos h2]
theorem qNW {r:List UInt8} (h:(qO r).2.2=0) (t:List UInt8):qO (r++t)=qO r:=by
 cases r with
 | nil=>exact absurd h (by decide)
 | cons b r =>
  by_cases hb:b=34
  ·subst hb
   have e1:qO (34::r)=yC (r.length+1) r 1 []:=by simp [qO]
   have e2:qO ((34::r)++t)=yC ((r++t).length+1) (r++t) 1 []:=by simp [qO]
   rw [e1] at h ⊢
   rw [e2]
   exact (qGE (r.length+1) r t 1 [] (by rw [h]; decide) ((r++t).length+1) (by simp)).1
  have e1:qO (b::r)=([],0,6):=by simp [qO,hb]
  rw [e1] at h; exact absurd h (by decide)
theorem qPH {c:UInt8} (hc:c∈xU) {q:List UInt8} (hq:q≠[]) (h0:(kI q).2≠0) (t:List UInt8):kI (q++c::t)=kI q:=by
 have hd:=qGZ hq
 unfold kI at h0 ⊢
 simp only at h0 ⊢
 rw [qMJ hc hq,qLK hc hq]
 generalize (wM q).1=k at *
 generalize (wM q).2=d at *
 rw [List.drop_append_of_le_length hd]
 generalize q.drop d=r at *
 have hn:=qKJ r
 rw [qAP (zNA _ hc),xT (qWK _ hc),xT (qLI _ hc),qKO hc,qPI hc,qBE r _ hn]
 by_cases hu:(qO r).2.2=0
 ·rw [qNW hu]
 by_cases hp:qY r [34]=true∧k≠2
 ·rw [if_pos hp,if_pos hu] at h0; exact absurd rfl h0
 rw [if_neg hp,if_neg hp]
end Go.Proofs.YtbhhphabggcacaaGreatDoor
