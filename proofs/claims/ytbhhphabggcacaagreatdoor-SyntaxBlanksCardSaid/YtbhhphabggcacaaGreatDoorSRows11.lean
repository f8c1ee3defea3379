import Derived.Test.YtbhhphabggcacaaGreatDoorSTreeP
import Derived.Test.YtbhhphabggcacaaGreatDoorSShown11
import Derived.Test.YtbhhphabggcacaaGreatDoorM3
namespace Go.Proofs.YtbhhphabggcacaaGreatDoor
open Sy Go
set_option maxRecDepth 100000
set_option maxHeartbeats 4000000
set_option linter.unusedSimpArgs false
set_option linter.unusedVariables false
variable {G:qS}
theorem qZR:∀ (l:List Int) (a b:Int),l.Pairwise (· < ·)→(∀ k∈l,a≤k∧k<b)→l.length≤(b-a).toNat
 | [],a,b,_,_=>by simp
 | c::l,a,b,h,hm=>by
  have hc:=hm c (by simp)
  have:=qZR l (c+1) b (List.pairwise_cons.1 h).2 (fun k hk=>⟨by have:=(List.pairwise_cons.1 h).1 k hk; omega,(hm k (by simp [hk])).2⟩)
  simp only [List.length_cons]; omega
theorem zED {i:Nat} {x:Nd} (h:qRF i x) (hi:i≤1000):x.keys.length≤1000000∧x.kids.length≤1000000:=by
 have h1:=qZR x.kids 0 i h.2.1 h.1
 rcases zHN h.2.2 with h2 | h2 <;> omega
theorem qLN {s:List UInt8} (h:(yG s).2=0):1≤(yG s).1.length∧(yG s).1.length≤400∧(∀ (i:Nat) x,(yG s).1[i]?=some x→qRF i x)∧∀ j:Int,(qHA (yG s).1).count j=if 0≤j∧j+1<((yG s).1.length:Nat) then 1 else 0:=by
 unfold yG at h ⊢
 by_cases c:(qBJ s).2=0
 ·rw [if_pos c] at h ⊢
  obtain ⟨t,h1,h2,h3⟩:=qSZ h
  have hl:(vN (qBJ s).1).1.length=t.size:=by rw [h1,Tr.flat_len]
  have hp:=Tr.size_pos t
  refine ⟨by omega,by omega,fun i x hx => ?_,fun j => ?_⟩
  ·rw [h1] at hx
   have:=Tr.nodes t 0 h2 i x hx
   rwa [Nat.zero_add] at this
  rw [hl,h1,Tr.count]
  have e:((0:Nat):Int)≤j∧j+1<((0:Nat):Int)+t.size↔0≤j∧j+1<((t.size:Nat):Int):=by omega
  by_cases d:0≤j∧j+1<((t.size:Nat):Int)
  ·rw [if_pos d,if_pos (e.2 d)]
  rw [if_neg d,if_neg fun x=>d (e.1 x)]
 rw [if_neg c] at h; exact absurd h c
end Go.Proofs.YtbhhphabggcacaaGreatDoor
