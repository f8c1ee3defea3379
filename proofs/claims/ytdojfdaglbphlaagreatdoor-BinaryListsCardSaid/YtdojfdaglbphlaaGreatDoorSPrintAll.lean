import Derived.Test.YtdojfdaglbphlaaGreatDoorSPrint
namespace Go.Proofs.YtdojfdaglbphlaaGreatDoor
open Sy Go
set_option linter.unusedSimpArgs false
set_option linter.unusedVariables false
variable {G : qQ}
def qPN (G : qQ) (c : Int) : Prop := AFn Tryz.prog G 71 [.int .i64 c] (.str (qGM c)) ∧ 0 ≤ c ∧ c ≤ 99
inductive Prn (G : qQ) : Val → Prop
 | mk {v : Val} (h8 : v.kind = 8 → qPN G v.code) (h4 : v.kind = 4 → zP v.num = true) (h5 : v.kind = 5 → Lib.validD v.text = true ∧ v.text.length ≤ 1000000000) (h7 : v.kind = 7 → v.keys.length = v.kids.length ∧ ∀ key ∈ v.keys, Lib.validD key = true ∧ key.length ≤ 1000000000)
   (hn : v.kids.length ≤ 1000000) (hb : (zQ v).length ≤ 1000000000) (ih : ∀ k ∈ v.kids, Prn G k) : Prn G v
theorem zWI (b : UInt8) : (qb b).length ≤ 6 := by
 unfold qb; (repeat' split) <;> simp
theorem qXK (s : List UInt8) : (kP s).length ≤ 6 * s.length + 2 := by
 have : ∀ s : List UInt8, (uK s).length ≤ 6 * s.length := by
  intro s
  induction s with
  | nil => simp [uK]
  | cons b s ih =>
   have h := zWI b
   show (qb b ++ uK s).length ≤ _
   rw [List.length_append, List.length_cons]; omega
 have := this s
 unfold kP
 simp; omega
theorem qUV : ∀ l : List (List UInt8), (Lib.join l [44]).length ≤ (l.map List.length).sum + l.length
 | [] => by simp [Lib.join, List.intercalate]
 | [x] => by rw [Lib.join_one]; simp
 | x :: y :: r => by
  rw [qDP]
  have := qUV (y :: r)
  simp only [List.length_append, List.map_cons, List.sum_cons, List.length_cons, List.length_nil] at this ⊢
  omega
theorem zGJ {d : Dc} (h : zP d = true) : (qEB d).length ≤ 130 := by
 have hb := qSQ h
 unfold qEB qCL zA
 split <;> split <;> simp <;> omega
end Go.Proofs.YtdojfdaglbphlaaGreatDoor
