import Derived.Test.YtgcbapchinideaaGreatDoorSPrint
namespace Go.Proofs.YtgcbapchinideaaGreatDoor
open Sy Go
set_option linter.unusedSimpArgs false
set_option linter.unusedVariables false
variable {G:qJ}
def qJO (G:qJ) (c:Int):Prop:=AFn Tryz.prog G 116 [.int .i64 c] (.str (uW c))∧0≤c∧c≤99
inductive Prn (G:qJ):Val→Prop
 | mk {v : Val} (h8 : v.kind = 8 → qJO G v.code) (h4 : v.kind = 4 → yT v.num = true) (h5 : v.kind = 5 → Lib.validD v.text = true ∧ v.text.length ≤ 1000000000) (h7 : v.kind = 7 → v.keys.length = v.kids.length ∧ ∀ key ∈ v.keys, Lib.validD key = true ∧ key.length ≤ 1000000000)
   (hn:v.kids.length≤1000000) (hb:(qS v).length≤1000000000) (ih:∀ k∈v.kids,Prn G k):Prn G v
theorem qQO (v:Val) (h:Prn G v):AFn Tryz.prog G 81 [v.enc] (.str (qS v)):=by
 induction h with
 | mk h8 h4 h5 h7 hn hb _ ih=>exact qNF _ (fun h=>⟨(h8 h).1,by have:=h8 h; unfold qJO at this; omega,by have:=h8 h; unfold qJO at this; omega⟩) (fun h=>qMR _ (h4 h)) (fun h=>qMO _ (h5 h).1 (h5 h).2) (fun h=>⟨(h7 h).1,fun key hk=>qMO key ((h7 h).2 key hk).1 ((h7 h).2 key hk).2⟩) hn hb ih
theorem zAV (b:UInt8):(qb b).length≤6:=by
 unfold qb; (repeat' split) <;> simp
theorem qEQ (s:List UInt8):(zM s).length≤6 * s.length+2:=by
 have:∀ s:List UInt8,(wQ s).length≤6 * s.length:=by
  intro s
  induction s with
  | nil=>simp [wQ]
  | cons b s ih =>
   have h:=zAV b
   show (qb b++wQ s).length≤_
   rw [List.length_append,List.length_cons]; omega
 have:=this s
 unfold zM
 simp; omega
theorem qIW:∀ l:List (List UInt8),(Lib.join l [44]).length≤(l.map List.length).sum+l.length
 | []=>by simp [Lib.join,List.intercalate]
 | [x]=>by rw [Lib.join_one]; simp
 | x::y::r=>by
  rw [qFG]
  have:=qIW (y::r)
  simp only [List.length_append,List.map_cons,List.sum_cons,List.length_cons,List.length_nil] at this ⊢
  omega
theorem qQP {d:Dc} (h:yT d=true):(vE d).length≤130:=by
 have hb:=qHY h
 unfold vE vI xJ
 split <;> split <;> simp <;> omega
end Go.Proofs.YtgcbapchinideaaGreatDoor
