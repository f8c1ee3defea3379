import Derived.Test.YtbhhphabggcacaaGreatDoorSSynAll
import Derived.Test.YtbhhphabggcacaaGreatDoorSLexC
namespace Go.Proofs.YtbhhphabggcacaaGreatDoor
open Sy Go
set_option maxRecDepth 100000
set_option linter.unusedSimpArgs false
set_option linter.unusedVariables false
variable {G:qM}
theorem qXM {s:List UInt8} (h:s.all qI=true):0≤(kW s).1∧(kW s).1≤9223372036854775807:=by
 have hneg:∀ c r,s=c::r→c.toNat≠45:=fun c r e hc=>by
  rw [e,List.all_cons,Bool.and_eq_true] at h
  have:=(qRN _).1 h.1
  omega
 unfold kW
 rcases hA:Lib.atoiAll s with v | _ | _
 ·simp only
  unfold Lib.atoiAll at hA
  cases s with
  | nil=>cases hA
  | cons c r =>
   have hc:=hneg c r rfl
   simp only at hA
   generalize (if c.toNat=43∨c.toNat=45 then r else c::r)=m at hA
   rcases hm:Lib.parseMag m with u | _ | _
   ·rw [hm] at hA
    simp only [hc,not_false_eq_true,true_and,false_and,if_false] at hA
    split at hA
    ·cases hA
    cases hA; omega
   ·rw [hm] at hA; cases hA
   rw [hm] at hA; cases hA
 ·exact ⟨by simp,by simp⟩
 simp only [Lib.atoiSat]
 rw [if_neg (by
  cases s with
  | nil=>simp
  | cons c r=>simp only [List.head?_cons,Option.map_some,Option.some.injEq]; exact hneg c r rfl)]
 exact ⟨by omega,by omega⟩
theorem qAS {t:Tok} (h:t.num=⟨false,[],0⟩):okT t:=by
 unfold okT; rw [h]; exact qPT
theorem qLU {s:List UInt8} (h:(jQ s).2=0):vM (jQ s).1=true:=by
 rw [← qTG] at h ⊢; exact qOZ h
theorem qWL {d:Dc} (h:vM d=true) (k p:Int) (t:List UInt8):okT ⟨k,p,t,d⟩:=by
 have h1:=qIX h
 unfold vM at h
 simp only [Bool.and_eq_true] at h
 exact ⟨by simp only; omega,qXM h.1.1⟩
theorem qWI {s:List UInt8} (hs:s≠[]):okT (qLW s).1:=by
 rw [qNZ (s:=s) (k:=(jI s).1) (d:=(jI s).2) rfl rfl]
 split
 ·split <;> exact qAS rfl
 split
 ·split <;> exact qAS rfl
 split
 ·split
  ·exact qAS rfl
  rename_i h; exact qWL (qLU (by simpa using h)) _ _ _
 exact qAS rfl
theorem qPY:∀ (n a:Nat) (r:List UInt8) (l:List Tok),qCO n a r=some l→∀ t∈l,okT t
 | 0,a,r,l,h=>by simp [qCO] at h
 | n+1,a,r,l,h=>by
  simp only [qCO] at h
  split at h
  ·cases h; intro t ht; cases ht
  rename_i hne
  split at h
  ·cases h
  obtain ⟨l',h1,rfl⟩:=Option.map_eq_some_iff.1 h
  intro t ht
  rcases List.mem_cons.1 ht with rfl | ht
  ·exact qWI hne
  exact qPY n _ _ _ h1 t ht
theorem qWQ (s:List UInt8):(∀ t∈(qBR s).1,okT t)∧(qBR s).1.length≤600:=by
 unfold qBR
 split
 ·exact ⟨(fun t ht=>by cases ht),by simp⟩
 cases hR:qCO (s.length+1) 0 s with
 | none=>exact ⟨(fun t ht=>by cases ht),by simp⟩
 | some l =>
  simp only
  split
  ·exact ⟨(fun t ht=>by cases ht),by simp⟩
  exact ⟨qPY _ _ _ _ hR,by simp only; omega⟩
def qEO (s:List UInt8):List Nd × Int:=if (qBR s).2=0 then qLE (qBR s).1 else ([],(qBR s).2)
theorem qPJ (hG:U8 G) (hE:PE G) (s:List UInt8):AFn Tryz.prog G 7 [.str s] (.tup [.sl 8 ((qEO s).1.map Nd.enc),.int .i64 (qEO s).2]):=by
 obtain ⟨h1,h2⟩:=qWQ s
 have:=qLD (G:=G) hE s (qBR s).1 (qBR s).2 (qRK hG s) h1 (by omega)
 unfold qEO
 by_cases h:(qBR s).2=0
 ·rw [if_pos h,if_pos h] at this; rw [if_pos h]; exact this
 rw [if_neg h,if_neg h] at this; rw [if_neg h]; exact this
end Go.Proofs.YtbhhphabggcacaaGreatDoor
