import Derived.Test.YtlmedakhioiahaaGreatDoorSPrint
namespace Go.Proofs.YtlmedakhioiahaaGreatDoor
open Sy Go
set_option linter.unusedSimpArgs false
set_option linter.unusedVariables false
variable {G:qO}
def qEZ (G:qO) (c:Int):Prop:=AFn Tryz.prog G 34 [.int .i64 c] (.str (uL c))∧0≤c∧c≤99
inductive Prn (G:qO):Val→Prop
 | mk {v : Val} (h8 : v.kind = 8 → qEZ G v.code) (h4 : v.kind = 4 → wM v.num = true) (h5 : v.kind = 5 → Lib.validD v.text = true ∧ v.text.length ≤ 1000000000) (h7 : v.kind = 7 → v.keys.length = v.kids.length ∧ ∀ key ∈ v.keys, Lib.validD key = true ∧ key.length ≤ 1000000000)
   (hn:v.kids.length≤1000000) (hb:(qR v).length≤1000000000) (ih:∀ k∈v.kids,Prn G k):Prn G v
theorem qYX (v:Val) (h:Prn G v):AFn Tryz.prog G 22 [v.enc] (.str (qR v)):=by
 induction h with
 | mk h8 h4 h5 h7 hn hb _ ih=>exact qUW _ (fun h=>⟨(h8 h).1,by have:=h8 h; unfold qEZ at this; omega,by have:=h8 h; unfold qEZ at this; omega⟩) (fun h=>qIO _ (h4 h)) (fun h=>qUB _ (h5 h).1 (h5 h).2) (fun h=>⟨(h7 h).1,fun key hk=>qUB key ((h7 h).2 key hk).1 ((h7 h).2 key hk).2⟩) hn hb ih
theorem zLV (b:UInt8):(qb b).length≤6:=by
 unfold qb; (repeat' split) <;> simp
theorem qSF (s:List UInt8):(wG s).length≤6 * s.length+2:=by
 have:∀ s:List UInt8,(kH s).length≤6 * s.length:=by
  intro s
  induction s with
  | nil=>simp [kH]
  | cons b s ih =>
   have h:=zLV b
   show (qb b++kH s).length≤_
   rw [List.length_append,List.length_cons]; omega
 have:=this s
 unfold wG
 simp; omega
theorem qPU:∀ l:List (List UInt8),(Lib.join l [44]).length≤(l.map List.length).sum+l.length
 | []=>by simp [Lib.join,List.intercalate]
 | [x]=>by rw [Lib.join_one]; simp
 | x::y::r=>by
  rw [vX]
  have:=qPU (y::r)
  simp only [List.length_append,List.map_cons,List.sum_cons,List.length_cons,List.length_nil] at this ⊢
  omega
theorem qYY {d:Dc} (h:wM d=true):(yW d).length≤130:=by
 have hb:=qDK h
 unfold yW kR zL
 split <;> split <;> simp <;> omega
end Go.Proofs.YtlmedakhioiahaaGreatDoor
