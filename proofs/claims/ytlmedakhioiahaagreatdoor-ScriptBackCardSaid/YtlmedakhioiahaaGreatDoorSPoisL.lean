import Derived.Test.YtlmedakhioiahaaGreatDoorSBackL
namespace Go.Proofs.YtlmedakhioiahaaGreatDoor
open Sy Go
set_option linter.unusedSimpArgs false
set_option linter.unusedVariables false
set_option maxRecDepth 100000
theorem qQQ {st:RS} (h:st.bad=true):(qB st).1.bad=true:=by
 unfold qB yW
 split
 ·exact h
 split
 ·exact h
 rfl
theorem qTO {st:RS} (h:st.bad=true):(wZ st).1.bad=true:=by unfold wZ; simp [h]
theorem qYI {st:RS} (h:st.bad=true):(wK st).1.bad=true:=by
 unfold wK
 split
 ·exact h
 split
 ·exact h
 split
 ·exact h
 split
 ·exact qQQ h
 split
 ·exact qTO h
 rfl
theorem qBY {n:Nat} {st:RS} {d many:Nat} {vs:List Val} (h:st.bad=true):(wM n st d many vs).1.bad=true:=by
 cases n with
 | zero=>simp only [wM]
 | succ n=>simp only [wM]; rw [if_pos h]; exact h
theorem qBX {n:Nat} {st:RS} {d many:Nat} {ks:List (List UInt8)} {vs:List Val} (h:st.bad=true):(zZ n st d many ks vs).1.bad=true:=by
 cases n with
 | zero=>simp only [zZ]
 | succ n=>simp only [zZ]; rw [if_pos h]; exact h
theorem zCP {n:Nat} {st:RS} {d:Nat} (h:st.bad=true):(qN n st d).1.bad=true:=by
 cases n with
 | zero=>simp only [qN]
 | succ n =>
  have he:(qQ st d).bad=true:=h
  have hd:(qT (qQ st d) 1).bad=true:=h
  simp only [qN]
  split
  ·split
   ·rw [qAR]; exact hd
   exact qBY (by rw [qAR]; exact hd)
  split
  ·split
   ·rw [qAR]; exact hd
   exact qBX (by rw [qAR]; exact hd)
  exact qYI he
theorem yO {c:UInt8} {many:Nat} {st:RS} (h:st.bad=true):(wF c many st).1=true∧(wF c many st).2.bad=true:=by
 unfold wF
 simp only [h,if_true]
 exact ⟨trivial,trivial⟩
theorem qMB {n:Nat} {st:RS} {d many:Nat} {vs:List Val} (h:(qN n st d).1.bad=true):(wM (n+1) st d many vs).1.bad=true:=by
 by_cases hb:st.bad=true
 ·exact qBY hb
 simp only [wM]
 rw [if_neg hb,if_pos (yO h).1]
 exact (yO h).2
end Go.Proofs.YtlmedakhioiahaaGreatDoor
