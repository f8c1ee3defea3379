import Derived.Test.YtdojfdaglbphlaaGreatDoorK1
namespace Go.Proofs.YtdojfdaglbphlaaGreatDoor
open Sy Go
set_option linter.unusedSimpArgs false
set_option linter.unusedVariables false
theorem is_lit (b : UInt8) (n : Nat) (hn : n < 256) : ((b.toNat : Int) = (n : Int)) ↔ b = UInt8.ofNat n := by
 constructor
 ·intro e; exact UInt8.toNat_inj.1 (by rw [UInt8.toNat_ofNat']; omega)
 ·rintro rfl; rw [UInt8.toNat_ofNat']; omega
theorem runM_len (s : List UInt8) (k : Nat) : runM s k = ((s.drop k).takeWhile isDig).length := rfl
theorem split_dig (l : List UInt8) : l = l.takeWhile isDig ++ l.dropWhile isDig := (List.takeWhile_append_dropWhile).symm
theorem upM_val (s : List UInt8) (k : Nat) : ∀ i, i ≤ runM s k → upM s k i = (valI ((s.drop k).take i) : Int)
 | 0, _ => by simp [upM, valI]
 | i + 1, h => by
  have hd := runM_digit (s := s) (k := k) (i := i) (by omega)
  have hg : (s.drop k)[i]? = some (s.getD (k + i) 0) := by
   rw [List.getElem?_drop, List.getD_eq_getElem?_getD]
   have : k + i < s.length := hd.1
   simp [List.getElem?_eq_getElem this]
  rw [upM, upM_val s k i (by omega), List.take_add_one, hg]
  simp only [Option.toList_some, valI, List.foldl_append, List.foldl_cons, List.foldl_nil]
  have hb : byteAt s (k + i) = ((s.getD (k + i) 0).toNat : Int) := rfl
  omega
theorem drop_cons {s : List UInt8} {k : Nat} {b : UInt8} {t : List UInt8} (h : s.drop k = b :: t) : s.drop (k + 1) = t := by
 rw [← List.drop_drop, h]; rfl
theorem sign_drop {s : List UInt8} {k : Nat} : s.drop (signM s k) = signL (s.drop k) ∧ (k < s.length ∧ byteAt s k = 45 ↔ (s.drop k).head? = some 45) := by
 cases h : s.drop k with
 | nil =>
  have : ¬ k < s.length := by have := List.drop_eq_nil_iff.1 h; omega
  refine ⟨?_, by simp; omega⟩
  unfold signM signL
  rw [if_neg (by omega), h]; simp
 | cons b t =>
  obtain ⟨h1, h2⟩ := byteAt_drop h
  have e45 : byteAt s k = 45 ↔ b = 45 := by rw [h2]; exact is_lit b 45 (by decide)
  have e43 : byteAt s k = 43 ↔ b = 43 := by rw [h2]; exact is_lit b 43 (by decide)
  refine ⟨?_, by simp [h1, e45]⟩
  unfold signM signL
  simp only [h1, e45, e43, true_and, List.head?_cons, Option.some.injEq, List.drop_succ_cons, List.drop_zero]
  split
  ·exact drop_cons h
  ·exact h
theorem rest_eq (s : List UInt8) (k : Nat) (hk : k ≤ s.length) (neg : Bool) (digits : List UInt8) (scale : Nat) :
  restM s neg digits scale (part3 s k) = match expL (s.drop k) with
   | none => badDc
   | some up => lastM neg digits (scale - up) := by
 cases h : s.drop k with
 | nil =>
  have : ¬ k < s.length := by have := List.drop_eq_nil_iff.1 h; omega
  simp only [part3, expL]
  rw [if_neg (by omega)]
  simp only [restM]
  rw [if_pos (by omega)]
 | cons b t =>
  obtain ⟨h1, h2⟩ := byteAt_drop h
  have e1 : byteAt s k = 101 ↔ b = 101 := by rw [h2]; exact is_lit b 101 (by decide)
  have e2 : byteAt s k = 69 ↔ b = 69 := by rw [h2]; exact is_lit b 69 (by decide)
  simp only [part3, expL, h1, true_and, e1, e2]
  by_cases hb : b = 101 ∨ b = 69
  ·rw [if_pos hb, if_neg (show ¬ (b ≠ 101 ∧ b ≠ 69) from fun h => by rcases hb with hb | hb; exact h.1 hb; exact h.2 hb)]
   obtain ⟨sd, sh⟩ := sign_drop (s := s) (k := k + 1)
   rw [drop_cons h] at sd sh
   have hrun := runM_len s (signM s (k + 1))
   have hup := upM_val s (signM s (k + 1)) _ (Nat.le_refl _)
   rw [sd] at hrun hup
   have hsp := split_dig (signL t)
   have hlen : (s.drop (signM s (k + 1))).length = (signL t).length := by rw [sd]
   rw [List.length_drop] at hlen
   have hl2 := congrArg List.length hsp
   rw [List.length_append, ← hrun] at hl2
   generalize signM s (k + 1) = sg at *
   have htk : (signL t).take (runM s sg) = (signL t).takeWhile isDig := by
    conv => lhs; rw [hsp, hrun]
    exact List.take_left
   rw [htk] at hup
   rw [hup, ← hrun]
   by_cases hD : runM s sg < 1 ∨ 2 < runM s sg
   ·rw [if_pos hD, if_pos (.inr hD)]
    rfl
   ·rw [if_neg hD]
    by_cases hE : (signL t).dropWhile isDig = []
    ·rw [if_neg (show ¬ ((signL t).dropWhile isDig ≠ [] ∨ runM s sg < 1 ∨ 2 < runM s sg) from fun h => h.elim (fun h => h hE) hD)]
     rw [hE, List.length_nil] at hl2
     simp only [restM]
     rw [if_pos (show sg + runM s sg = s.length by omega)]
     simp only [sh]
    ·rw [if_pos (show (signL t).dropWhile isDig ≠ [] ∨ runM s sg < 1 ∨ 2 < runM s sg from .inl hE)]
     have := List.length_pos_iff.2 hE
     simp only [restM]
     rw [if_neg (show ¬ sg + runM s sg = s.length by omega)]
  ·rw [if_neg hb, if_pos (show b ≠ 101 ∧ b ≠ 69 from by simp only [not_or] at hb; exact hb)]
   simp only [restM]
   rw [if_neg (by omega)]
theorem tail_eq (s : List UInt8) (k : Nat) (hk : k ≤ s.length) (neg : Bool) (dg : List UInt8) :
  tailM s neg (part2 s k dg) = match fracL (s.drop k) with
   | none => badDc
   | some (P, r) => (match expL r with
    | none => badDc
    | some up => lastM neg (dg ++ P) (P.length - up)) := by
 cases h : s.drop k with
 | nil =>
  have : ¬ k < s.length := by have := List.drop_eq_nil_iff.1 h; omega
  simp only [part2, fracL]
  rw [if_neg (by omega), if_neg (by simp)]
  simp only [tailM]
  rw [rest_eq s k hk, h]
  simp
 | cons b t =>
  obtain ⟨h1, h2⟩ := byteAt_drop h
  have e1 : byteAt s k = 46 ↔ b = 46 := by rw [h2]; exact is_lit b 46 (by decide)
  simp only [part2, fracL, h1, true_and, e1, List.head?_cons, Option.some.injEq, List.drop_succ_cons, List.drop_zero]
  by_cases hb : b = 46
  ·rw [if_pos hb, if_pos hb]
   have hd := drop_cons h
   have hrun := runM_len s (k + 1)
   rw [hd] at hrun
   have hsp := split_dig t
   have hin := runM_in s (k + 1) (by omega)
   by_cases hP : t.takeWhile isDig = []
   ·rw [if_pos hP, if_pos (by rw [hrun, hP]; rfl)]
    rfl
   ·rw [if_neg hP, if_neg (by rw [hrun]; have := List.length_pos_iff.2 hP; omega)]
    simp only [tailM]
    rw [rest_eq s _ hin]
    have hd2 : s.drop (k + 1 + runM s (k + 1)) = t.dropWhile isDig := by
     rw [← List.drop_drop, hd, hrun]
     conv => lhs; arg 2; rw [hsp]
     exact List.drop_left
    have ht2 : (s.take (k + 1 + runM s (k + 1))).drop (k + 1) = t.takeWhile isDig := by
     rw [List.drop_take, hd, show k + 1 + runM s (k + 1) - (k + 1) = (t.takeWhile isDig).length by omega]
     conv => lhs; arg 2; rw [hsp]
     exact List.take_left
    rw [hd2, ht2, hrun]
  ·rw [if_neg hb, if_neg hb]
   simp only [tailM]
   rw [rest_eq s k hk, h]
   simp
theorem parse_eq (s : List UInt8) : ParseM s = ParseL s := by
 have hb : bodyL s = s.drop (a0M s) ∧ negL s = negM s ∧ a0M s ≤ s.length := by
  cases s with
  | nil => exact ⟨rfl, rfl, by decide⟩
  | cons b t =>
   have : negM (b :: t) = decide (b = 45) := by
    unfold negM
    rw [show byteAt (b :: t) 0 = (b.toNat : Int) from rfl]
    rw [Bool.eq_iff_iff]
    simp
    exact is_lit b 45 (by decide)
   refine ⟨?_, by unfold negL; rw [this]; simp, by unfold a0M; split <;> simp⟩
   unfold bodyL a0M
   rw [this]
   by_cases hb : b = 45
   ·simp [hb]
   ·simp [hb]
 obtain ⟨h1, h2, h3⟩ := hb
 unfold ParseM ParseL
 rw [h1, h2]
 have hrun := runM_len s (a0M s)
 have hin := runM_in s (a0M s) h3
 have hsp := split_dig (s.drop (a0M s))
 have ht2 : (s.take (a0M s + runM s (a0M s))).drop (a0M s) = (s.drop (a0M s)).takeWhile isDig := by
  rw [List.drop_take, show a0M s + runM s (a0M s) - a0M s = ((s.drop (a0M s)).takeWhile isDig).length by omega]
  conv => lhs; arg 2; rw [hsp]
  exact List.take_left
 have hd2 : s.drop (a0M s + runM s (a0M s)) = (s.drop (a0M s)).dropWhile isDig := by
  rw [← List.drop_drop, hrun]
  conv => lhs; arg 2; rw [hsp]
  exact List.drop_left
 rw [tail_eq s _ hin, ht2, hd2]
 generalize hW : (s.drop (a0M s)).takeWhile isDig = W at *
 have hc : (runM s (a0M s) = 0 ∨ (1 < runM s (a0M s) ∧ byteAt s (a0M s) = 48)) ↔ (W = [] ∨ (1 < W.length ∧ W.head? = some 48)) := by
  rw [hrun]
  cases W with
  | nil => simp
  | cons b W =>
   have e : s.drop (a0M s) = b :: (W ++ (s.drop (a0M s)).dropWhile isDig) := hsp
   obtain ⟨q1, q2⟩ := byteAt_drop e
   rw [q2]
   simp
   intro _
   exact is_lit b 48 (by decide)
 by_cases hC : W = [] ∨ (1 < W.length ∧ W.head? = some 48)
 ·rw [if_pos (hc.2 hC)]
  cases fracL ((s.drop (a0M s)).dropWhile isDig) with
  | none => rfl
  | some q =>
   obtain ⟨P, r⟩ := q
   simp only
   cases expL r with
   | none => rfl
   | some up => simp only [endL]; rw [if_pos hC]
 ·rw [if_neg (fun h => hC (hc.1 h))]
  cases fracL ((s.drop (a0M s)).dropWhile isDig) with
  | none => rfl
  | some q =>
   obtain ⟨P, r⟩ := q
   simp only
   cases expL r with
   | none => rfl
   | some up => simp only [endL]; rw [if_neg hC]
end Go.Proofs.YtdojfdaglbphlaaGreatDoor
