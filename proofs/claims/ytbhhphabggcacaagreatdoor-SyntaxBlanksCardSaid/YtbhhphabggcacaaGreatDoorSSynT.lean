import Derived.Test.YtbhhphabggcacaaGreatDoorK2
import Derived.Test.YtbhhphabggcacaaGreatDoorSLexC
namespace Go.Proofs.YtbhhphabggcacaaGreatDoor
open Sy Go
set_option maxRecDepth 100000
set_option linter.unusedSimpArgs false
set_option linter.unusedVariables false
variable {G:qS}
theorem qZQ {s:List UInt8} (h:s.all qF=true):0≤(kX s).1∧(kX s).1≤9223372036854775807:=by
 have hneg:∀ c r,s=c::r→c.toNat≠45:=fun c r e hc=>by
  rw [e,List.all_cons,Bool.and_eq_true] at h
  have:=(qIK _).1 h.1
  omega
 unfold kX
 rcases hA:Lib.atoiAll s with v | _ | _
 ·simp only
  unfold Lib.atoiAll at hA
  cases s with
  | nil=>cases hA
  | cons c r =>
   have hc:=hneg c r rfl
   simp only at hA
   generalize (if c.toNat=43∨c.toNat=45 then r else c::r)=m at hA
   rcases hm:Lib.parseMag m with u | _ | _
   ·rw [hm] at hA
    simp only [hc,not_false_eq_true,true_and,false_and,if_false] at hA
    split at hA
    ·cases hA
    cases hA; omega
   ·rw [hm] at hA; cases hA
   rw [hm] at hA; cases hA
 ·exact ⟨by simp,by simp⟩
 simp only [Lib.atoiSat]
 rw [if_neg (by
  cases s with
  | nil=>simp
  | cons c r=>simp only [List.head?_cons,Option.map_some,Option.some.injEq]; exact hneg c r rfl)]
 exact ⟨by omega,by omega⟩
theorem qEE {t:Tok} (h:t.num=⟨false,[],0⟩):okT t:=by
 unfold okT; rw [h]; exact qYS
theorem qJJ {s:List UInt8} (h:(jL s).2=0):yO (jL s).1=true:=by
 rw [← zDY] at h ⊢; exact qXV h
theorem zHT {d:Dc} (h:yO d=true) (k p:Int) (t:List UInt8):okT ⟨k,p,t,d⟩:=by
 have h1:=qIW h
 unfold yO at h
 simp only [Bool.and_eq_true] at h
 exact ⟨by simp only; omega,qZQ h.1.1⟩
theorem zHQ {s:List UInt8} (hs:s≠[]):okT (kI s).1:=by
 rw [qRB (s:=s) (k:=(wM s).1) (d:=(wM s).2) rfl rfl]
 split
 ·split <;> exact qEE rfl
 split
 ·split <;> exact qEE rfl
 split
 ·split
  ·exact qEE rfl
  rename_i h; exact zHT (qJJ (by simpa using h)) _ _ _
 exact qEE rfl
theorem qYY:∀ (n a:Nat) (r:List UInt8) (l:List Tok),wS n a r=some l→∀ t∈l,okT t
 | 0,a,r,l,h=>by simp [wS] at h
 | n+1,a,r,l,h=>by
  simp only [wS] at h
  split at h
  ·cases h; intro t ht; cases ht
  rename_i hne
  split at h
  ·cases h
  obtain ⟨l',h1,rfl⟩:=Option.map_eq_some_iff.1 h
  intro t ht
  rcases List.mem_cons.1 ht with rfl | ht
  ·exact zHQ hne
  exact qYY n _ _ _ h1 t ht
theorem zIC (s:List UInt8):(∀ t∈(qBJ s).1,okT t)∧(qBJ s).1.length≤600:=by
 unfold qBJ
 split
 ·exact ⟨(fun t ht=>by cases ht),by simp⟩
 cases hR:wS (s.length+1) 0 s with
 | none=>exact ⟨(fun t ht=>by cases ht),by simp⟩
 | some l =>
  simp only
  split
  ·exact ⟨(fun t ht=>by cases ht),by simp⟩
  exact ⟨qYY _ _ _ _ hR,by simp only; omega⟩
def yG (s:List UInt8):List Nd × Int:=if (qBJ s).2=0 then vN (qBJ s).1 else ([],(qBJ s).2)
theorem qAJ (hG:U8 G) (hE:PE G) (s:List UInt8):AFn Tryz.prog G 7 [.str s] (.tup [.sl 8 ((yG s).1.map Nd.enc),.int .i64 (yG s).2]):=by
 obtain ⟨h1,h2⟩:=zIC s
 have:=qTB (G:=G) hE s (qBJ s).1 (qBJ s).2 (zBD hG s) h1 (by omega)
 unfold yG
 by_cases h:(qBJ s).2=0
 ·rw [if_pos h,if_pos h] at this; rw [if_pos h]; exact this
 rw [if_neg h,if_neg h] at this; rw [if_neg h]; exact this
end Go.Proofs.YtbhhphabggcacaaGreatDoor
