import Derived.Test.YtdlejiiiifhiiaaDoorSDecBack
/-
  PLAIN: how a decimal is parsed, by what is left; one that was printed is parsed as it was.
-/
namespace Go.Proofs.YtdlejiiiifhiiaaDoor
open Sy Go
set_option linter.unusedSimpArgs false
set_option linter.unusedVariables false
def valI (D : List UInt8) : Nat := D.foldl (fun n c => n * 10 + (c.toNat - 48)) 0
def signL (t : List UInt8) : List UInt8 := if t.head? = some 45 ∨ t.head? = some 43 then t.drop 1 else t
def expL (s : List UInt8) : Option Int := match s with
  | [] => some 0
  | b :: t => if b ≠ 101 ∧ b ≠ 69 then none
    else if (signL t).dropWhile isDig ≠ [] ∨ ((signL t).takeWhile isDig).length < 1 ∨ 2 < ((signL t).takeWhile isDig).length then none
    else some (if t.head? = some 45 then - (valI ((signL t).takeWhile isDig) : Int) else valI ((signL t).takeWhile isDig))
def negL (s : List UInt8) : Bool := decide (s.head? = some 45)
def bodyL (s : List UInt8) : List UInt8 := if s.head? = some 45 then s.drop 1 else s
/-- Behind the whole part: the digits behind the point, and what is left; none: a point without digits. -/
def fracL (r : List UInt8) : Option (List UInt8 × List UInt8) :=
  if r.head? = some 46 then (if (r.drop 1).takeWhile isDig = [] then none else some ((r.drop 1).takeWhile isDig, (r.drop 1).dropWhile isDig)) else some ([], r)
def endL (neg : Bool) (W P : List UInt8) : Option Int → Dc × Int
  | none => badDc
  | some up => if W = [] ∨ (1 < W.length ∧ W.head? = some 48) then badDc else lastM neg (W ++ P) (P.length - up)
def ParseL (s : List UInt8) : Dc × Int := match fracL ((bodyL s).dropWhile isDig) with
  | none => badDc
  | some (P, r) => endL (negL s) ((bodyL s).takeWhile isDig) P (expL r)
theorem tw_of {W F : List UInt8} (hW : W.all isDig = true) (hF : ∀ b, F.head? = some b → isDig b = false) : (W ++ F).takeWhile isDig = W ∧ (W ++ F).dropWhile isDig = F := by
  induction W with
  | nil =>
    cases F with
    | nil => exact ⟨rfl, rfl⟩
    | cons b F => have := hF b rfl; simp [List.takeWhile_cons, List.dropWhile_cons, this]
  | cons b W ih =>
    simp only [List.all_cons, Bool.and_eq_true] at hW
    obtain ⟨h1, h2⟩ := ih hW.2
    simp [List.takeWhile_cons, List.dropWhile_cons, hW.1, h1, h2]
theorem parseL_form (ng : Bool) (W R : List UInt8) (hW : W.all isDig = true) (hR : R.all isDig = true) (h0 : W ≠ []) (h1 : W.length = 1 ∨ byteAt W 0 ≠ 48) :
    ParseL ((if ng = true then [45] else []) ++ (W ++ if R = [] then [] else 46 :: R)) = NormM ng (W ++ R) R.length := by
  generalize hF : (if R = [] then [] else 46 :: R) = F
  generalize hs : ((if ng = true then [45] else []) ++ (W ++ F)) = s
  obtain ⟨w0, W', rfl⟩ : ∃ w0 W', W = w0 :: W' := by cases W with
    | nil => exact absurd rfl h0
    | cons a W => exact ⟨a, W, rfl⟩
  have hw0 : isDig w0 = true := by simp only [List.all_cons, Bool.and_eq_true] at hW; exact hW.1
  have hw1 : w0 ≠ 45 := by rintro rfl; revert hw0; decide
  have hb : bodyL s = (w0 :: W') ++ F ∧ negL s = ng := by
    rw [← hs]
    cases ng with
    | true => simp [bodyL, negL]
    | false => simp [bodyL, negL, hw1]
  have hFh : ∀ b, F.head? = some b → isDig b = false := by
    rw [← hF]; split
    · simp
    · intro b hb; simp at hb; subst hb; decide
  obtain ⟨t1, t2⟩ := tw_of hW hFh
  have hfr : fracL F = some (R, []) := by
    rw [← hF]
    split
    · rename_i hR0; subst hR0; rfl
    · rename_i hR0
      obtain ⟨t3, t4⟩ := tw_of (W := R) (F := []) hR (by simp)
      rw [List.append_nil] at t3 t4
      unfold fracL
      simp only [List.head?_cons, if_true, List.drop_succ_cons, List.drop_zero, t3, t4]
      rw [if_neg hR0]
  unfold ParseL
  rw [hb.1, hb.2, t1, t2, hfr]
  simp only [expL, endL]
  rw [if_neg (by
    rintro (h | ⟨h, h'⟩)
    · cases h
    · rcases h1 with h1 | h1
      · omega
      · simp at h'; subst h'; exact h1 rfl)]
  unfold lastM
  rw [if_neg (by omega)]
  simp
theorem parseL_print {d : Dc} (h : dcMay d = true) : ParseL (PrintM d) = (d, 0) := by
  obtain ⟨W, R, hp, hW, hR, h0, h1, hn⟩ := print_form h
  rw [hp, parseL_form d.neg W R hW hR h0 h1, hn]
end Go.Proofs.YtdlejiiiifhiiaaDoor
