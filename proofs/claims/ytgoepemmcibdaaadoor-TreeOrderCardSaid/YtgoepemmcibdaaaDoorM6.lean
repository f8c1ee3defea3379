import Derived.Test.YtgoepemmcibdaaaDoorM5
namespace Go.Proofs.YtgoepemmcibdaaaDoor
open Sy Go
set_option maxRecDepth 100000
set_option maxHeartbeats 4000000
set_option linter.unusedSimpArgs false
set_option linter.unusedVariables false
variable {G : Glob}

def negM (s : List UInt8) : Bool := decide (0 < s.length) && decide (byteAt s 0 = 45)
def part2 (s : List UInt8) (k : Nat) (digits : List UInt8) : Option (Nat × List UInt8 × Nat) :=
  if k < s.length ∧ byteAt s k = 46 then (if runM s (k + 1) = 0 then none else some (k + 1 + runM s (k + 1), digits ++ (s.take (k + 1 + runM s (k + 1))).drop (k + 1), runM s (k + 1))) else some (k, digits, 0)
def upM (s : List UInt8) (k : Nat) : Nat → Int
  | 0 => 0
  | i + 1 => 10 * upM s k i + (byteAt s (k + i) - 48)
def signM (s : List UInt8) (k : Nat) : Nat := if k < s.length ∧ (byteAt s k = 45 ∨ byteAt s k = 43) then k + 1 else k
def part3 (s : List UInt8) (k : Nat) : Option (Nat × Int) :=
  if k < s.length ∧ (byteAt s k = 101 ∨ byteAt s k = 69) then
    (if runM s (signM s (k + 1)) < 1 ∨ 2 < runM s (signM s (k + 1)) then none
     else some (signM s (k + 1) + runM s (signM s (k + 1)), if k + 1 < s.length ∧ byteAt s (k + 1) = 45 then - upM s (signM s (k + 1)) (runM s (signM s (k + 1))) else upM s (signM s (k + 1)) (runM s (signM s (k + 1)))))
  else some (k, 0)
def badDc : Dc × Int := (⟨false, [], 0⟩, 4)
def lastM (neg : Bool) (digits : List UInt8) (sc : Int) : Dc × Int := if sc < 0 then NormM neg (digits ++ zerosM (-sc).toNat) 0 else NormM neg digits sc.toNat
def restM (s : List UInt8) (neg : Bool) (digits : List UInt8) (scale : Nat) : Option (Nat × Int) → Dc × Int
  | none => badDc
  | some (k, up) => if k = s.length then lastM neg digits (scale - up) else badDc
def tailM (s : List UInt8) (neg : Bool) : Option (Nat × List UInt8 × Nat) → Dc × Int
  | none => badDc
  | some (k, digits, scale) => restM s neg digits scale (part3 s k)
def a0M (s : List UInt8) : Nat := if negM s = true then 1 else 0
def ParseM (s : List UInt8) : Dc × Int :=
  if runM s (a0M s) = 0 ∨ (1 < runM s (a0M s) ∧ byteAt s (a0M s) = 48) then badDc
  else tailM s (negM s) (part2 s (a0M s + runM s (a0M s)) ((s.take (a0M s + runM s (a0M s))).drop (a0M s)))
theorem runM_in (s : List UInt8) (k : Nat) (h : k ≤ s.length) : k + runM s k ≤ s.length := by
  unfold runM
  have := (List.takeWhile_sublist (l := s.drop k) fun b : UInt8 => digitM b.toNat).length_le
  simp at this; omega
theorem runM_pos {s : List UInt8} {k : Nat} (h : 0 < runM s k) : k < s.length := ((runM_lt (Nat.zero_le _)).1 h).1
theorem runM_digit {s : List UInt8} {k i : Nat} (h : i < runM s k) : k + i < s.length ∧ 48 ≤ byteAt s (k + i) ∧ byteAt s (k + i) ≤ 57 := by
  have := (runM_lt (Nat.le_of_lt h)).1 h
  simpa [digitM] using this
theorem upM_range {s : List UInt8} {k : Nat} : ∀ {i : Nat}, i ≤ 2 → i ≤ runM s k → 0 ≤ upM s k i ∧ upM s k i ≤ 99 ∧ (i ≤ 1 → upM s k i ≤ 9)
  | 0, _, _ => by simp [upM]
  | 1, _, h => by have := runM_digit (s := s) (k := k) (i := 0) (by omega); simp [upM] at this ⊢; omega
  | 2, _, h => by
    have h1 := runM_digit (s := s) (k := k) (i := 0) (by omega)
    have h2 := runM_digit (s := s) (k := k) (i := 1) (by omega)
    simp [upM] at h1 h2 ⊢; omega
theorem a0M_le (s : List UInt8) : a0M s ≤ 1 := by unfold a0M; split <;> omega
theorem Parse_ev (s : List UInt8) (hs : s.length ≤ 100000) : AFn Tryd.prog G 14 [.str s] (.tup [(ParseM s).1.enc, .int .i64 (ParseM s).2]) := by
  refine AFn.introU tok Tryd.func14 (by kernel_rfl) rfl rfl ?_
  simp only [Tryd.f14, enumA, List.map_cons, List.map_nil]
  have hrun := fun k hk => run_ev (G := G) s k (by omega) hk
  have hix : ∀ k : Nat, k < s.length → s[k]? = some (s.getD k 0) := fun k h => byteAt_get h
  refine AW.seqRegionO [] ?_
  refine AOpsO.one tok [0, 2] (by intro C; conv => lhs; simp) (by first | with_reducible exact True.intro | omega | simp | (simp; omega) | (simp +contextual; omega)) rfl ?_
  refine AOpsO.one tok [0, 2] (by intro C; conv => lhs; simp) (by first | with_reducible exact True.intro | omega | simp | (simp; omega) | (simp +contextual; omega)) rfl ?_
  refine AOpsO.nil ?_
  refine AW.seqRegionO [] ?_
  refine AOpsO.one tok [0, 2, 4] (by intro C; conv => lhs; simp) (by first | with_reducible exact True.intro | omega | simp | (simp; omega) | (simp +contextual; omega)) rfl ?_
  refine AOpsO.nil ?_
  refine AW.seqRegionO [.int .u8 (byteAt s 0)] ?_
  refine AOpsO.one tok [0, 2, 4, 12] (by intro C; conv => lhs; simp) (by first | with_reducible exact True.intro | (first | exact fun h => ⟨h, by omega, _, hix 0 (by omega), rfl⟩ | exact fun h => ⟨h, _, hix 0 (by omega), rfl⟩ | simp; done) | omega | simp | (simp; omega) | (simp +contextual; omega)) rfl ?_
  refine AOpsO.one tok [0, 2, 4, 13] (by intro C; conv => lhs; simp) (by first | with_reducible exact True.intro | (first | exact fun h => ⟨h, by omega, _, hix 0 (by omega), rfl⟩ | exact fun h => ⟨h, _, hix 0 (by omega), rfl⟩ | simp; done) | omega | simp | (simp; omega) | (simp +contextual; omega)) rfl ?_
  refine AOpsO.one tok [0, 2, 4, 14] (by intro C; conv => lhs; simp) (by first | with_reducible exact True.intro | (first | exact fun h => ⟨h, by omega, _, hix 0 (by omega), rfl⟩ | exact fun h => ⟨h, _, hix 0 (by omega), rfl⟩ | simp; done) | omega | simp | (simp; omega) | (simp +contextual; omega)) rfl ?_
  refine AOpsO.one tok [0, 2, 4, 15] (by intro C; conv => lhs; simp) (by first | with_reducible exact True.intro | (first | exact fun h => ⟨h, by omega, _, hix 0 (by omega), rfl⟩ | exact fun h => ⟨h, _, hix 0 (by omega), rfl⟩ | simp; done) | omega | simp | (simp; omega) | (simp +contextual; omega)) rfl ?_
  refine AOpsO.oneIf tok [0, 2, 4, 15, 16] 15 (by intro C; conv => lhs; simp) (by first | with_reducible exact True.intro | (first | exact fun h => ⟨h, by omega, _, hix 0 (by omega), rfl⟩ | exact fun h => ⟨h, _, hix 0 (by omega), rfl⟩ | simp; done) | omega | simp | (simp; omega) | (simp +contextual; omega)) rfl rfl ?_
  refine AOpsO.oneIf tok [0, 2, 4, 15, 17] 15 (by intro C; conv => lhs; simp) (by first | with_reducible exact True.intro | (first | exact fun h => ⟨h, by omega, _, hix 0 (by omega), rfl⟩ | exact fun h => ⟨h, _, hix 0 (by omega), rfl⟩ | simp; done) | omega | simp | (simp; omega) | (simp +contextual; omega)) rfl rfl ?_
  refine AOpsO.oneIf tok [0, 2, 4, 15, 18] 15 (by intro C; conv => lhs; simp) (by first | with_reducible exact True.intro | (first | exact fun h => ⟨h, by omega, _, hix 0 (by omega), rfl⟩ | exact fun h => ⟨h, _, hix 0 (by omega), rfl⟩ | simp; done) | omega | simp | (simp; omega) | (simp +contextual; omega)) rfl rfl ?_
  refine AOpsO.one tok [0, 2, 4, 19] (by intro C; conv => lhs; simp) (by first | with_reducible exact True.intro | (first | exact fun h => ⟨h, by omega, _, hix 0 (by omega), rfl⟩ | exact fun h => ⟨h, _, hix 0 (by omega), rfl⟩ | simp; done) | omega | simp | (simp; omega) | (simp +contextual; omega)) rfl ?_
  refine AOpsO.one tok [0, 2, 4, 5] (by intro C; conv => lhs; simp) (by first | with_reducible exact True.intro | (first | exact fun h => ⟨h, by omega, _, hix 0 (by omega), rfl⟩ | exact fun h => ⟨h, _, hix 0 (by omega), rfl⟩ | simp; done) | omega | simp | (simp; omega) | (simp +contextual; omega)) rfl ?_
  refine AOpsO.nil ?_
  refine AW.join (α := Unit) (fun _ => True) (fun a => ⟨upds 175 [(0, .p (.str s)), (2, .ptr 2 0), (4, .p (.int .i64 (a0M s))), (5, .p (.bool (negM s)))], [], [(2, .vars 24 [.p (.bool false), .p (.str []), .p (.int .i64 0)])], 0⟩) ?_ ?_
  ·
    refine AW.seqRegionO [] ?_
    refine AOpsO.one tok [0, 2, 4, 5, 20] (by intro C; conv => lhs; simp) (by first | with_reducible exact True.intro | omega | simp | (simp; omega) | (simp +contextual; omega)) rfl ?_
    refine AOpsO.nil ?_
    refine AW.cond (c := .tmp 20) (by conv => lhs; simp) trivial ?_ ?_
    · intro h20
      try simp at h20
      refine AW.regionO [] ?_
      refine AOpsO.one tok [0, 2, 4, 5] (by intro C; conv => lhs; simp) (by first | with_reducible exact True.intro | omega | simp | (simp; omega) | (simp +contextual; omega)) rfl ?_
      refine AOpsO.nil ?_
      exact ⟨(), trivial, upds_le (by simp [a0M, negM, h20]), rfl, by simp [a0M, negM, h20], by simp [a0M, negM, h20]⟩
    · intro h20
      try simp at h20
      have hneg : negM s = false := by
        rw [← Bool.not_eq_true]; intro h; simp only [negM, Bool.and_eq_true, decide_eq_true_eq] at h; exact h20 h.1 h.2
      have hneg0 := hneg
      have ha00 : a0M s = 0 := by simp [a0M, hneg]
      simp only [negM] at hneg0
      refine AW.skip ?_
      exact ⟨(), trivial, upds_le (by simp [ha00, hneg0, hneg]), rfl, by simp [ha00, hneg0, hneg], by simp [ha00, hneg0, hneg]⟩
  ·
    rintro a hI
    have ha0 := a0M_le s
    have hn0 := runM_le s (a0M s)
    have hp0 := runM_pos (s := s) (k := a0M s)
    have hin0 := runM_in s (a0M s)
    refine AW.seqRegionO [.nilp, .int .i64 (runM s (a0M s))] ?_
    refine AOpsO.one tok [0, 2, 4, 5, 21] (by intro C; conv => lhs; simp) (by first | with_reducible exact True.intro | (simp [hrun (a0M s) (by have := a0M_le s; omega)]; done) | omega | simp | (simp; omega) | (simp +contextual; omega)) rfl ?_
    refine AOpsO.one tok [0, 2, 4, 5, 21, 22] (by intro C; conv => lhs; simp) (by first | with_reducible exact True.intro | (simp [hrun (a0M s) (by have := a0M_le s; omega)]; done) | omega | simp | (simp; omega) | (simp +contextual; omega)) rfl ?_
    refine AOpsO.one tok [0, 2, 4, 5, 23] (by intro C; conv => lhs; simp) (by first | with_reducible exact True.intro | (simp [hrun (a0M s) (by have := a0M_le s; omega)]; done) | omega | simp | (simp; omega) | (simp +contextual; omega)) rfl ?_
    refine AOpsO.one tok [0, 2, 4, 5, 6] (by intro C; conv => lhs; simp) (by first | with_reducible exact True.intro | (simp [hrun (a0M s) (by have := a0M_le s; omega)]; done) | omega | simp | (simp; omega) | (simp +contextual; omega)) rfl ?_
    refine AOpsO.nil ?_
    refine AW.seq ?_
    refine AW.seqRegionO [.int .u8 (byteAt s (a0M s))] ?_
    refine AOpsO.one tok [0, 2, 4, 5, 6, 24] (by intro C; conv => lhs; simp) (by first | with_reducible exact True.intro | (first | exact fun h1 h2 => ⟨⟨h1, h2⟩, _, hix (a0M s) (hp0 (by omega)), rfl⟩ | exact fun h1 => ⟨h1, fun h2 => ⟨h1, h2⟩⟩ | simp; done) | omega | simp | (simp; omega) | (simp +contextual; omega)) rfl ?_
    refine AOpsO.one tok [0, 2, 4, 5, 6, 25] (by intro C; conv => lhs; simp) (by first | with_reducible exact True.intro | (first | exact fun h1 h2 => ⟨⟨h1, h2⟩, _, hix (a0M s) (hp0 (by omega)), rfl⟩ | exact fun h1 => ⟨h1, fun h2 => ⟨h1, h2⟩⟩ | simp; done) | omega | simp | (simp; omega) | (simp +contextual; omega)) rfl ?_
    refine AOpsO.one tok [0, 2, 4, 5, 6, 26] (by intro C; conv => lhs; simp) (by first | with_reducible exact True.intro | (first | exact fun h1 h2 => ⟨⟨h1, h2⟩, _, hix (a0M s) (hp0 (by omega)), rfl⟩ | exact fun h1 => ⟨h1, fun h2 => ⟨h1, h2⟩⟩ | simp; done) | omega | simp | (simp; omega) | (simp +contextual; omega)) rfl ?_
    refine AOpsO.oneIf tok [0, 2, 4, 5, 6, 26, 27] 26 (by intro C; conv => lhs; simp) (by first | with_reducible exact True.intro | (first | exact fun h1 h2 => ⟨⟨h1, h2⟩, _, hix (a0M s) (hp0 (by omega)), rfl⟩ | exact fun h1 => ⟨h1, fun h2 => ⟨h1, h2⟩⟩ | simp; done) | omega | simp | (simp; omega) | (simp +contextual; omega)) rfl rfl ?_
    refine AOpsO.oneIf tok [0, 2, 4, 5, 6, 26, 28] 26 (by intro C; conv => lhs; simp) (by first | with_reducible exact True.intro | (first | exact fun h1 h2 => ⟨⟨h1, h2⟩, _, hix (a0M s) (hp0 (by omega)), rfl⟩ | exact fun h1 => ⟨h1, fun h2 => ⟨h1, h2⟩⟩ | simp; done) | omega | simp | (simp; omega) | (simp +contextual; omega)) rfl rfl ?_
    refine AOpsO.oneIf tok [0, 2, 4, 5, 6, 26, 29] 26 (by intro C; conv => lhs; simp) (by first | with_reducible exact True.intro | (first | exact fun h1 h2 => ⟨⟨h1, h2⟩, _, hix (a0M s) (hp0 (by omega)), rfl⟩ | exact fun h1 => ⟨h1, fun h2 => ⟨h1, h2⟩⟩ | simp; done) | omega | simp | (simp; omega) | (simp +contextual; omega)) rfl rfl ?_
    refine AOpsO.oneIf tok [0, 2, 4, 5, 6, 26, 29, 30] 29 (by intro C; conv => lhs; simp) (by first | with_reducible exact True.intro | (first | exact fun h1 h2 => ⟨⟨h1, h2⟩, _, hix (a0M s) (hp0 (by omega)), rfl⟩ | exact fun h1 => ⟨h1, fun h2 => ⟨h1, h2⟩⟩ | simp; done) | omega | simp | (simp; omega) | (simp +contextual; omega)) rfl rfl ?_
    refine AOpsO.oneIf tok [0, 2, 4, 5, 6, 26, 29, 30, 31] 29 (by intro C; conv => lhs; simp) (by first | with_reducible exact True.intro | (first | exact fun h1 h2 => ⟨⟨h1, h2⟩, _, hix (a0M s) (hp0 (by omega)), rfl⟩ | exact fun h1 => ⟨h1, fun h2 => ⟨h1, h2⟩⟩ | simp; done) | omega | simp | (simp; omega) | (simp +contextual; omega)) rfl rfl ?_
    refine AOpsO.oneIf tok [0, 2, 4, 5, 6, 26, 29, 32] 29 (by intro C; conv => lhs; simp) (by first | with_reducible exact True.intro | (first | exact fun h1 h2 => ⟨⟨h1, h2⟩, _, hix (a0M s) (hp0 (by omega)), rfl⟩ | exact fun h1 => ⟨h1, fun h2 => ⟨h1, h2⟩⟩ | simp; done) | omega | simp | (simp; omega) | (simp +contextual; omega)) rfl rfl ?_
    refine AOpsO.oneIf tok [0, 2, 4, 5, 6, 26, 29, 33] 29 (by intro C; conv => lhs; simp) (by first | with_reducible exact True.intro | (first | exact fun h1 h2 => ⟨⟨h1, h2⟩, _, hix (a0M s) (hp0 (by omega)), rfl⟩ | exact fun h1 => ⟨h1, fun h2 => ⟨h1, h2⟩⟩ | simp; done) | omega | simp | (simp; omega) | (simp +contextual; omega)) rfl rfl ?_
    refine AOpsO.oneIf tok [0, 2, 4, 5, 6, 26, 34] 26 (by intro C; conv => lhs; simp) (by first | with_reducible exact True.intro | (first | exact fun h1 h2 => ⟨⟨h1, h2⟩, _, hix (a0M s) (hp0 (by omega)), rfl⟩ | exact fun h1 => ⟨h1, fun h2 => ⟨h1, h2⟩⟩ | simp; done) | omega | simp | (simp; omega) | (simp +contextual; omega)) rfl rfl ?_
    refine AOpsO.one tok [0, 2, 4, 5, 6, 35] (by intro C; conv => lhs; simp) (by first | with_reducible exact True.intro | (first | exact fun h1 h2 => ⟨⟨h1, h2⟩, _, hix (a0M s) (hp0 (by omega)), rfl⟩ | exact fun h1 => ⟨h1, fun h2 => ⟨h1, h2⟩⟩ | simp; done) | omega | simp | (simp; omega) | (simp +contextual; omega)) rfl ?_
    refine AOpsO.nil ?_
    refine AW.cond (c := .tmp 35) (by conv => lhs; simp) trivial ?_ ?_
    · intro h35
      try simp at h35
      have hP : ParseM s = badDc := by unfold ParseM; rw [if_pos (by omega)]
      refine AW.seqRegionO [] ?_
      refine AOpsO.one tok [2, 36] (by intro C; conv => lhs; simp) (by first | with_reducible exact True.intro | omega | simp | (simp; omega) | (simp +contextual; omega)) rfl ?_
      refine AOpsO.one tok [2] (by intro C; conv => lhs; simp) (by first | with_reducible exact True.intro | omega | simp | (simp; omega) | (simp +contextual; omega)) rfl ?_
      refine AOpsO.one tok [2, 3] (by intro C; conv => lhs; simp) (by first | with_reducible exact True.intro | omega | simp | (simp; omega) | (simp +contextual; omega)) rfl ?_
      refine AOpsO.nil ?_
      exact AW.ret ⟨.inr rfl, _, _, by (conv => lhs; simp), trivial, by simp [hP, badDc]⟩
    · intro h35
      try simp at h35
      have hP : ParseM s = tailM s (negM s) (part2 s (a0M s + runM s (a0M s)) ((s.take (a0M s + runM s (a0M s))).drop (a0M s))) := by unfold ParseM; rw [if_neg (by omega)]
      rw [hP]
      have hin := hin0 (by have := hp0 (by omega); omega)
      generalize hdg : (s.take (a0M s + runM s (a0M s))).drop (a0M s) = dg0
      have hdgl : dg0.length ≤ s.length := by rw [← hdg]; simp; omega
      obtain ⟨k1, hk1⟩ : ∃ k1, k1 = a0M s + runM s (a0M s) := ⟨_, rfl⟩
      rw [← hk1] at hin hdg ⊢
      refine AW.skip ?_
      refine AW.seqRegionO [] ?_
      refine AOpsO.one tok [0, 2, 4, 5, 6, 37] (by intro C; conv => lhs; simp) (by first | with_reducible exact True.intro | (omega; done) | omega | simp | (simp; omega) | (simp +contextual; omega)) rfl ?_
      refine AOpsO.one tok [0, 2, 4, 5, 6, 37, 38] (by intro C; conv => lhs; simp) (by first | with_reducible exact True.intro | (omega; done) | omega | simp | (simp; omega) | (simp +contextual; omega)) rfl ?_
      refine AOpsO.one tok [0, 2, 4, 5, 6, 37, 38, 39] (by intro C; conv => lhs; simp) (by first | with_reducible exact True.intro | (omega; done) | omega | simp | (simp; omega) | (simp +contextual; omega)) rfl ?_
      refine AOpsO.one tok [0, 2, 4, 5, 6, 37, 38, 39, 40] (by intro C; conv => lhs; simp) (by first | with_reducible exact True.intro | (omega; done) | omega | simp | (simp; omega) | (simp +contextual; omega)) rfl ?_
      refine AOpsO.one tok [0, 2, 4, 5, 6, 37, 38, 41] (by intro C; conv => lhs; simp) (by first | with_reducible exact True.intro | (omega; done) | omega | simp | (simp; omega) | (simp +contextual; omega)) rfl ?_
      refine AOpsO.one tok [0, 2, 4, 5, 6, 42] (by intro C; conv => lhs; simp) (by first | with_reducible exact True.intro | (omega; done) | omega | simp | (simp; omega) | (simp +contextual; omega)) rfl ?_
      refine AOpsO.one tok [0, 2, 4, 5, 6, 7] (by intro C; conv => lhs; simp) (by first | with_reducible exact True.intro | (omega; done) | omega | simp | (simp; omega) | (simp +contextual; omega)) rfl ?_
      refine AOpsO.nil ?_
      refine AW.seqRegionO [] ?_
      refine AOpsO.one tok [0, 2, 5, 6, 7, 43] (by intro C; conv => lhs; simp) (by first | with_reducible exact True.intro | omega | simp | (simp; omega) | (simp +contextual; omega)) rfl ?_
      refine AOpsO.one tok [0, 2, 5, 7, 43, 44] (by intro C; conv => lhs; simp) (by first | with_reducible exact True.intro | omega | simp | (simp; omega) | (simp +contextual; omega)) rfl ?_
      refine AOpsO.one tok [0, 2, 5, 7, 45] (by intro C; conv => lhs; simp) (by first | with_reducible exact True.intro | omega | simp | (simp; omega) | (simp +contextual; omega)) rfl ?_
      refine AOpsO.one tok [0, 2, 4, 5, 7] (by intro C; conv => lhs; simp) (by first | with_reducible exact True.intro | omega | simp | (simp; omega) | (simp +contextual; omega)) rfl ?_
      refine AOpsO.nil ?_
      rw [show ((a0M s : Int) + (runM s (a0M s) : Nat)) = (k1 : Nat) by omega]
      refine AW.seqRegionO [] ?_
      refine AOpsO.one tok [0, 2, 4, 5, 7, 8] (by intro C; conv => lhs; simp) (by first | with_reducible exact True.intro | omega | simp | (simp; omega) | (simp +contextual; omega)) rfl ?_
      refine AOpsO.nil ?_
      refine AW.join (α := Nat × List UInt8 × Nat) (fun a => part2 s k1 dg0 = some a ∧ a.1 ≤ s.length ∧ a.2.1.length ≤ 200000 ∧ a.2.2 ≤ s.length) (fun a => ⟨upds 175 [(0, .p (.str s)), (2, .ptr 2 0), (4, .p (.int .i64 a.1)), (5, .p (.bool (negM s))), (7, .p (.str a.2.1)), (8, .p (.int .i64 a.2.2))], [], [(2, .vars 24 [.p (.bool false), .p (.str []), .p (.int .i64 0)])], 0⟩) ?_ ?_
      ·
        have hr1 := runM_in s (k1 + 1)
        refine AW.seqRegionO [.int .u8 (byteAt s k1)] ?_
        refine AOpsO.one tok [0, 2, 4, 5, 7, 8, 46] (by intro C; conv => lhs; simp) (by first | with_reducible exact True.intro | (first | exact fun h => ⟨h, _, hix k1 (by omega), rfl⟩ | simp; done) | omega | simp | (simp; omega) | (simp +contextual; omega)) rfl ?_
        refine AOpsO.one tok [0, 2, 4, 5, 7, 8, 46, 47] (by intro C; conv => lhs; simp) (by first | with_reducible exact True.intro | (first | exact fun h => ⟨h, _, hix k1 (by omega), rfl⟩ | simp; done) | omega | simp | (simp; omega) | (simp +contextual; omega)) rfl ?_
        refine AOpsO.one tok [0, 2, 4, 5, 7, 8, 46, 48] (by intro C; conv => lhs; simp) (by first | with_reducible exact True.intro | (first | exact fun h => ⟨h, _, hix k1 (by omega), rfl⟩ | simp; done) | omega | simp | (simp; omega) | (simp +contextual; omega)) rfl ?_
        refine AOpsO.one tok [0, 2, 4, 5, 7, 8, 49] (by intro C; conv => lhs; simp) (by first | with_reducible exact True.intro | (first | exact fun h => ⟨h, _, hix k1 (by omega), rfl⟩ | simp; done) | omega | simp | (simp; omega) | (simp +contextual; omega)) rfl ?_
        refine AOpsO.one tok [0, 2, 4, 5, 7, 8, 50] (by intro C; conv => lhs; simp) (by first | with_reducible exact True.intro | (first | exact fun h => ⟨h, _, hix k1 (by omega), rfl⟩ | simp; done) | omega | simp | (simp; omega) | (simp +contextual; omega)) rfl ?_
        refine AOpsO.oneIf tok [0, 2, 4, 5, 7, 8, 50, 51] 50 (by intro C; conv => lhs; simp) (by first | with_reducible exact True.intro | (first | exact fun h => ⟨h, _, hix k1 (by omega), rfl⟩ | simp; done) | omega | simp | (simp; omega) | (simp +contextual; omega)) rfl rfl ?_
        refine AOpsO.oneIf tok [0, 2, 4, 5, 7, 8, 50, 51, 52] 50 (by intro C; conv => lhs; simp) (by first | with_reducible exact True.intro | (first | exact fun h => ⟨h, _, hix k1 (by omega), rfl⟩ | simp; done) | omega | simp | (simp; omega) | (simp +contextual; omega)) rfl rfl ?_
        refine AOpsO.oneIf tok [0, 2, 4, 5, 7, 8, 50, 53] 50 (by intro C; conv => lhs; simp) (by first | with_reducible exact True.intro | (first | exact fun h => ⟨h, _, hix k1 (by omega), rfl⟩ | simp; done) | omega | simp | (simp; omega) | (simp +contextual; omega)) rfl rfl ?_
        refine AOpsO.oneIf tok [0, 2, 4, 5, 7, 8, 50, 54] 50 (by intro C; conv => lhs; simp) (by first | with_reducible exact True.intro | (first | exact fun h => ⟨h, _, hix k1 (by omega), rfl⟩ | simp; done) | omega | simp | (simp; omega) | (simp +contextual; omega)) rfl rfl ?_
        refine AOpsO.one tok [0, 2, 4, 5, 7, 8, 55] (by intro C; conv => lhs; simp) (by first | with_reducible exact True.intro | (first | exact fun h => ⟨h, _, hix k1 (by omega), rfl⟩ | simp; done) | omega | simp | (simp; omega) | (simp +contextual; omega)) rfl ?_
        refine AOpsO.nil ?_
        refine AW.cond (c := .tmp 55) (by conv => lhs; simp) trivial ?_ ?_
        · intro h55
          try simp at h55
          refine AW.seqRegionO [.nilp, .int .i64 (runM s (k1 + 1))] ?_
          refine AOpsO.one tok [0, 2, 4, 5, 7, 56] (by intro C; conv => lhs; simp) (by first | with_reducible exact True.intro | (first | omega | exact hrun (k1 + 1) (by omega); done) | omega | simp | (simp; omega) | (simp +contextual; omega)) rfl ?_
          refine AOpsO.one tok [0, 2, 4, 5, 7, 56, 57] (by intro C; conv => lhs; simp) (by first | with_reducible exact True.intro | (first | omega | exact hrun (k1 + 1) (by omega); done) | omega | simp | (simp; omega) | (simp +contextual; omega)) rfl ?_
          refine AOpsO.one tok [0, 2, 4, 5, 7, 56, 58] (by intro C; conv => lhs; simp) (by first | with_reducible exact True.intro | (first | omega | exact hrun (k1 + 1) (by omega); done) | omega | simp | (simp; omega) | (simp +contextual; omega)) rfl ?_
          refine AOpsO.one tok [0, 2, 4, 5, 7, 59] (by intro C; conv => lhs; simp) (by first | with_reducible exact True.intro | (first | omega | exact hrun (k1 + 1) (by omega); done) | omega | simp | (simp; omega) | (simp +contextual; omega)) rfl ?_
          refine AOpsO.one tok [0, 2, 4, 5, 7, 8] (by intro C; conv => lhs; simp) (by first | with_reducible exact True.intro | (first | omega | exact hrun (k1 + 1) (by omega); done) | omega | simp | (simp; omega) | (simp +contextual; omega)) rfl ?_
          refine AOpsO.nil ?_
          refine AW.seq ?_
          refine AW.seqRegionO [] ?_
          refine AOpsO.one tok [0, 2, 4, 5, 7, 8, 60] (by intro C; conv => lhs; simp) (by first | with_reducible exact True.intro | omega | simp | (simp; omega) | (simp +contextual; omega)) rfl ?_
          refine AOpsO.one tok [0, 2, 4, 5, 7, 8, 61] (by intro C; conv => lhs; simp) (by first | with_reducible exact True.intro | omega | simp | (simp; omega) | (simp +contextual; omega)) rfl ?_
          refine AOpsO.nil ?_
          refine AW.cond (c := .tmp 61) (by conv => lhs; simp) trivial ?_ ?_
          · intro h61
            try simp at h61
            have hP2 : part2 s k1 dg0 = none := by simp [part2, h55.1, h55.2, h61]
            refine AW.seqRegionO [] ?_
            refine AOpsO.one tok [2, 62] (by intro C; conv => lhs; simp) (by first | with_reducible exact True.intro | omega | simp | (simp; omega) | (simp +contextual; omega)) rfl ?_
            refine AOpsO.one tok [2] (by intro C; conv => lhs; simp) (by first | with_reducible exact True.intro | omega | simp | (simp; omega) | (simp +contextual; omega)) rfl ?_
            refine AOpsO.one tok [2, 3] (by intro C; conv => lhs; simp) (by first | with_reducible exact True.intro | omega | simp | (simp; omega) | (simp +contextual; omega)) rfl ?_
            refine AOpsO.nil ?_
            exact AW.ret ⟨.inr rfl, _, _, by (conv => lhs; simp), trivial, by simp [hP2, tailM, badDc]⟩
          · intro h61
            try simp at h61
            refine AW.skip ?_
            refine AW.seqRegionO [] ?_
            refine AOpsO.one tok [0, 2, 4, 5, 8, 63] (by intro C; conv => lhs; simp) (by first | with_reducible exact True.intro | omega | simp | (simp; omega) | (simp +contextual; omega)) rfl ?_
            refine AOpsO.one tok [0, 2, 4, 5, 8, 63, 64] (by intro C; conv => lhs; simp) (by first | with_reducible exact True.intro | omega | simp | (simp; omega) | (simp +contextual; omega)) rfl ?_
            refine AOpsO.one tok [0, 2, 4, 5, 8, 63, 64, 65] (by intro C; conv => lhs; simp) (by first | with_reducible exact True.intro | omega | simp | (simp; omega) | (simp +contextual; omega)) rfl ?_
            refine AOpsO.one tok [0, 2, 4, 5, 8, 63, 64, 66] (by intro C; conv => lhs; simp) (by first | with_reducible exact True.intro | omega | simp | (simp; omega) | (simp +contextual; omega)) rfl ?_
            refine AOpsO.one tok [0, 2, 4, 5, 8, 63, 64, 66, 67] (by intro C; conv => lhs; simp) (by first | with_reducible exact True.intro | omega | simp | (simp; omega) | (simp +contextual; omega)) rfl ?_
            refine AOpsO.one tok [0, 2, 4, 5, 8, 63, 64, 66, 68] (by intro C; conv => lhs; simp) (by first | with_reducible exact True.intro | omega | simp | (simp; omega) | (simp +contextual; omega)) rfl ?_
            refine AOpsO.one tok [0, 2, 4, 5, 8, 63, 64, 66, 68, 69] (by intro C; conv => lhs; simp) (by first | with_reducible exact True.intro | omega | simp | (simp; omega) | (simp +contextual; omega)) rfl ?_
            refine AOpsO.one tok [0, 2, 4, 5, 8, 63, 64, 66, 70] (by intro C; conv => lhs; simp) (by first | with_reducible exact True.intro | omega | simp | (simp; omega) | (simp +contextual; omega)) rfl ?_
            refine AOpsO.one tok [0, 2, 4, 5, 8, 63, 71] (by intro C; conv => lhs; simp) (by first | with_reducible exact True.intro | omega | simp | (simp; omega) | (simp +contextual; omega)) rfl ?_
            refine AOpsO.one tok [0, 2, 4, 5, 8, 72] (by intro C; conv => lhs; simp) (by first | with_reducible exact True.intro | omega | simp | (simp; omega) | (simp +contextual; omega)) rfl ?_
            refine AOpsO.one tok [0, 2, 4, 5, 7, 8] (by intro C; conv => lhs; simp) (by first | with_reducible exact True.intro | omega | simp | (simp; omega) | (simp +contextual; omega)) rfl ?_
            refine AOpsO.nil ?_
            refine AW.regionO [] ?_
            refine AOpsO.one tok [0, 2, 5, 7, 8, 73] (by intro C; conv => lhs; simp) (by first | with_reducible exact True.intro | omega | simp | (simp; omega) | (simp +contextual; omega)) rfl ?_
            refine AOpsO.one tok [0, 2, 5, 7, 8, 74] (by intro C; conv => lhs; simp) (by first | with_reducible exact True.intro | omega | simp | (simp; omega) | (simp +contextual; omega)) rfl ?_
            refine AOpsO.one tok [0, 2, 5, 7, 8, 74, 75] (by intro C; conv => lhs; simp) (by first | with_reducible exact True.intro | omega | simp | (simp; omega) | (simp +contextual; omega)) rfl ?_
            refine AOpsO.one tok [0, 2, 5, 7, 8, 76] (by intro C; conv => lhs; simp) (by first | with_reducible exact True.intro | omega | simp | (simp; omega) | (simp +contextual; omega)) rfl ?_
            refine AOpsO.one tok [0, 2, 4, 5, 7, 8] (by intro C; conv => lhs; simp) (by first | with_reducible exact True.intro | omega | simp | (simp; omega) | (simp +contextual; omega)) rfl ?_
            refine AOpsO.nil ?_
            exact ⟨(k1 + 1 + runM s (k1 + 1), dg0 ++ (s.take (k1 + 1 + runM s (k1 + 1))).drop (k1 + 1), runM s (k1 + 1)), ⟨by simp [part2, h55.1, h55.2, h61], hr1 (by omega), by simp; omega, by have := hr1 (by omega); show runM s (k1 + 1) ≤ s.length; omega⟩, upds_le (by simp [hdg, show ((k1 : Int) + 1 + (runM s (k1 + 1) : Nat)).toNat = k1 + 1 + runM s (k1 + 1) from by omega]), rfl, by simp [hdg, show ((k1 : Int) + 1 + (runM s (k1 + 1) : Nat)).toNat = k1 + 1 + runM s (k1 + 1) from by omega], by simp [hdg, show ((k1 : Int) + 1 + (runM s (k1 + 1) : Nat)).toNat = k1 + 1 + runM s (k1 + 1) from by omega]⟩
        · intro h55
          try simp at h55
          refine AW.skip ?_
          exact ⟨(k1, dg0, 0), ⟨by simp only [part2]; rw [if_neg (by intro h; exact h55 h.1 h.2)], hin, by show dg0.length ≤ 200000; omega, by simp⟩, upds_le (by simp [hdg]), rfl, by simp [hdg], by simp [hdg]⟩
      ·
        rintro ⟨k, digits, scale⟩ ⟨hp2, hk, hdl, hsc⟩
        simp only at hk hdl hsc
        have hT : tailM s (negM s) (part2 s k1 dg0) = restM s (negM s) digits scale (part3 s k) := by rw [hp2]; rfl
        rw [hT]
        have hix1 : (k : Int) + 1 < s.length → s[((k : Int) + 1).toNat]? = some (s.getD (k + 1) 0) := fun h => by rw [show ((k : Int) + 1).toNat = k + 1 by omega]; exact hix (k + 1) (by omega)
        refine AW.seqRegionO [] ?_
        refine AOpsO.one tok [0, 2, 4, 5, 7, 8, 9] (by intro C; conv => lhs; simp) (by first | with_reducible exact True.intro | omega | simp | (simp; omega) | (simp +contextual; omega)) rfl ?_
        refine AOpsO.nil ?_
        refine AW.join (α := Nat × Int) (fun b => part3 s k = some b ∧ b.1 ≤ 300000 ∧ -99 ≤ b.2 ∧ b.2 ≤ 99) (fun b => ⟨upds 175 [(0, .p (.str s)), (2, .ptr 2 0), (4, .p (.int .i64 b.1)), (5, .p (.bool (negM s))), (7, .p (.str digits)), (8, .p (.int .i64 scale)), (9, .p (.int .i64 b.2))], [], [(2, .vars 24 [.p (.bool false), .p (.str []), .p (.int .i64 0)])], 0⟩) ?_ ?_
        ·
          refine AW.seqRegionO [.int .u8 (byteAt s k), .int .u8 (byteAt s k)] ?_
          refine AOpsO.one tok [0, 2, 4, 5, 7, 8, 9, 77] (by intro C; conv => lhs; simp) (by first | with_reducible exact True.intro | (((repeat' (first | with_reducible apply And.intro | intro _)) <;> first | omega | assumption | contradiction | exact ⟨_, hix _ (by omega), rfl⟩ | simp_all); done) | omega | simp | (simp; omega) | (simp +contextual; omega)) rfl ?_
          refine AOpsO.one tok [0, 2, 4, 5, 7, 8, 9, 77, 78] (by intro C; conv => lhs; simp) (by first | with_reducible exact True.intro | (((repeat' (first | with_reducible apply And.intro | intro _)) <;> first | omega | assumption | contradiction | exact ⟨_, hix _ (by omega), rfl⟩ | simp_all); done) | omega | simp | (simp; omega) | (simp +contextual; omega)) rfl ?_
          refine AOpsO.one tok [0, 2, 4, 5, 7, 8, 9, 77, 79] (by intro C; conv => lhs; simp) (by first | with_reducible exact True.intro | (((repeat' (first | with_reducible apply And.intro | intro _)) <;> first | omega | assumption | contradiction | exact ⟨_, hix _ (by omega), rfl⟩ | simp_all); done) | omega | simp | (simp; omega) | (simp +contextual; omega)) rfl ?_
          refine AOpsO.one tok [0, 2, 4, 5, 7, 8, 9, 80] (by intro C; conv => lhs; simp) (by first | with_reducible exact True.intro | (((repeat' (first | with_reducible apply And.intro | intro _)) <;> first | omega | assumption | contradiction | exact ⟨_, hix _ (by omega), rfl⟩ | simp_all); done) | omega | simp | (simp; omega) | (simp +contextual; omega)) rfl ?_
          refine AOpsO.one tok [0, 2, 4, 5, 7, 8, 9, 81] (by intro C; conv => lhs; simp) (by first | with_reducible exact True.intro | (((repeat' (first | with_reducible apply And.intro | intro _)) <;> first | omega | assumption | contradiction | exact ⟨_, hix _ (by omega), rfl⟩ | simp_all); done) | omega | simp | (simp; omega) | (simp +contextual; omega)) rfl ?_
          refine AOpsO.oneIf tok [0, 2, 4, 5, 7, 8, 9, 81, 82] 81 (by intro C; conv => lhs; simp) (by first | with_reducible exact True.intro | (((repeat' (first | with_reducible apply And.intro | intro _)) <;> first | omega | assumption | contradiction | exact ⟨_, hix _ (by omega), rfl⟩ | simp_all); done) | omega | simp | (simp; omega) | (simp +contextual; omega)) rfl rfl ?_
          refine AOpsO.oneIf tok [0, 2, 4, 5, 7, 8, 9, 81, 82, 83] 81 (by intro C; conv => lhs; simp) (by first | with_reducible exact True.intro | (((repeat' (first | with_reducible apply And.intro | intro _)) <;> first | omega | assumption | contradiction | exact ⟨_, hix _ (by omega), rfl⟩ | simp_all); done) | omega | simp | (simp; omega) | (simp +contextual; omega)) rfl rfl ?_
          refine AOpsO.oneIf tok [0, 2, 4, 5, 7, 8, 9, 81, 84] 81 (by intro C; conv => lhs; simp) (by first | with_reducible exact True.intro | (((repeat' (first | with_reducible apply And.intro | intro _)) <;> first | omega | assumption | contradiction | exact ⟨_, hix _ (by omega), rfl⟩ | simp_all); done) | omega | simp | (simp; omega) | (simp +contextual; omega)) rfl rfl ?_
          refine AOpsO.oneIf tok [0, 2, 4, 5, 7, 8, 9, 81, 85] 81 (by intro C; conv => lhs; simp) (by first | with_reducible exact True.intro | (((repeat' (first | with_reducible apply And.intro | intro _)) <;> first | omega | assumption | contradiction | exact ⟨_, hix _ (by omega), rfl⟩ | simp_all); done) | omega | simp | (simp; omega) | (simp +contextual; omega)) rfl rfl ?_
          refine AOpsO.oneIf tok [0, 2, 4, 5, 7, 8, 9, 81, 86] 81 (by intro C; conv => lhs; simp) (by first | with_reducible exact True.intro | (((repeat' (first | with_reducible apply And.intro | intro _)) <;> first | omega | assumption | contradiction | exact ⟨_, hix _ (by omega), rfl⟩ | simp_all); done) | omega | simp | (simp; omega) | (simp +contextual; omega)) rfl rfl ?_
          refine AOpsO.oneIf tok [0, 2, 4, 5, 7, 8, 9, 81, 86, 87] 86 (by intro C; conv => lhs; simp) (by first | with_reducible exact True.intro | (((repeat' (first | with_reducible apply And.intro | intro _)) <;> first | omega | assumption | contradiction | exact ⟨_, hix _ (by omega), rfl⟩ | simp_all); done) | omega | simp | (simp; omega) | (simp +contextual; omega)) rfl rfl ?_
          refine AOpsO.oneIf tok [0, 2, 4, 5, 7, 8, 9, 81, 86, 87, 88] 86 (by intro C; conv => lhs; simp) (by first | with_reducible exact True.intro | (((repeat' (first | with_reducible apply And.intro | intro _)) <;> first | omega | assumption | contradiction | exact ⟨_, hix _ (by omega), rfl⟩ | simp_all); done) | omega | simp | (simp; omega) | (simp +contextual; omega)) rfl rfl ?_
          refine AOpsO.oneIf tok [0, 2, 4, 5, 7, 8, 9, 81, 86, 89] 86 (by intro C; conv => lhs; simp) (by first | with_reducible exact True.intro | (((repeat' (first | with_reducible apply And.intro | intro _)) <;> first | omega | assumption | contradiction | exact ⟨_, hix _ (by omega), rfl⟩ | simp_all); done) | omega | simp | (simp; omega) | (simp +contextual; omega)) rfl rfl ?_
          refine AOpsO.oneIf tok [0, 2, 4, 5, 7, 8, 9, 81, 86, 90] 86 (by intro C; conv => lhs; simp) (by first | with_reducible exact True.intro | (((repeat' (first | with_reducible apply And.intro | intro _)) <;> first | omega | assumption | contradiction | exact ⟨_, hix _ (by omega), rfl⟩ | simp_all); done) | omega | simp | (simp; omega) | (simp +contextual; omega)) rfl rfl ?_
          refine AOpsO.oneIf tok [0, 2, 4, 5, 7, 8, 9, 81, 91] 81 (by intro C; conv => lhs; simp) (by first | with_reducible exact True.intro | (((repeat' (first | with_reducible apply And.intro | intro _)) <;> first | omega | assumption | contradiction | exact ⟨_, hix _ (by omega), rfl⟩ | simp_all); done) | omega | simp | (simp; omega) | (simp +contextual; omega)) rfl rfl ?_
          refine AOpsO.one tok [0, 2, 4, 5, 7, 8, 9, 92] (by intro C; conv => lhs; simp) (by first | with_reducible exact True.intro | (((repeat' (first | with_reducible apply And.intro | intro _)) <;> first | omega | assumption | contradiction | exact ⟨_, hix _ (by omega), rfl⟩ | simp_all); done) | omega | simp | (simp; omega) | (simp +contextual; omega)) rfl ?_
          refine AOpsO.nil ?_
          refine AW.cond (c := .tmp 92) (by conv => lhs; simp) trivial ?_ ?_
          · intro h92
            try simp at h92
            refine AW.seqRegionO [] ?_
            refine AOpsO.one tok [0, 2, 5, 7, 8, 9, 93] (by intro C; conv => lhs; simp) (by first | with_reducible exact True.intro | omega | simp | (simp; omega) | (simp +contextual; omega)) rfl ?_
            refine AOpsO.one tok [0, 2, 5, 7, 8, 9, 94] (by intro C; conv => lhs; simp) (by first | with_reducible exact True.intro | omega | simp | (simp; omega) | (simp +contextual; omega)) rfl ?_
            refine AOpsO.one tok [0, 2, 4, 5, 7, 8, 9] (by intro C; conv => lhs; simp) (by first | with_reducible exact True.intro | omega | simp | (simp; omega) | (simp +contextual; omega)) rfl ?_
            refine AOpsO.nil ?_
            refine AW.seqRegionO [.int .u8 (byteAt s (k + 1))] ?_
            refine AOpsO.one tok [0, 2, 4, 5, 7, 8, 9, 95] (by intro C; conv => lhs; simp) (by first | with_reducible exact True.intro | (((repeat' (first | with_reducible apply And.intro | intro _)) <;> first | omega | assumption | contradiction | exact ⟨_, hix _ (by omega), rfl⟩ | simp_all); done) | omega | simp | (simp; omega) | (simp +contextual; omega)) rfl ?_
            refine AOpsO.one tok [0, 2, 4, 5, 7, 8, 9, 95, 96] (by intro C; conv => lhs; simp) (by first | with_reducible exact True.intro | (((repeat' (first | with_reducible apply And.intro | intro _)) <;> first | omega | assumption | contradiction | exact ⟨_, hix _ (by omega), rfl⟩ | simp_all); done) | omega | simp | (simp; omega) | (simp +contextual; omega)) rfl ?_
            refine AOpsO.one tok [0, 2, 4, 5, 7, 8, 9, 95, 97] (by intro C; conv => lhs; simp) (by first | with_reducible exact True.intro | (((repeat' (first | with_reducible apply And.intro | intro _)) <;> first | omega | assumption | contradiction | exact ⟨_, hix _ (by omega), rfl⟩ | simp_all); done) | omega | simp | (simp; omega) | (simp +contextual; omega)) rfl ?_
            refine AOpsO.one tok [0, 2, 4, 5, 7, 8, 9, 98] (by intro C; conv => lhs; simp) (by first | with_reducible exact True.intro | (((repeat' (first | with_reducible apply And.intro | intro _)) <;> first | omega | assumption | contradiction | exact ⟨_, hix _ (by omega), rfl⟩ | simp_all); done) | omega | simp | (simp; omega) | (simp +contextual; omega)) rfl ?_
            refine AOpsO.one tok [0, 2, 4, 5, 7, 8, 9, 99] (by intro C; conv => lhs; simp) (by first | with_reducible exact True.intro | (((repeat' (first | with_reducible apply And.intro | intro _)) <;> first | omega | assumption | contradiction | exact ⟨_, hix _ (by omega), rfl⟩ | simp_all); done) | omega | simp | (simp; omega) | (simp +contextual; omega)) rfl ?_
            refine AOpsO.oneIf tok [0, 2, 4, 5, 7, 8, 9, 99, 100] 99 (by intro C; conv => lhs; simp) (by first | with_reducible exact True.intro | (((repeat' (first | with_reducible apply And.intro | intro _)) <;> first | omega | assumption | contradiction | exact ⟨_, hix _ (by omega), rfl⟩ | simp_all); done) | omega | simp | (simp; omega) | (simp +contextual; omega)) rfl rfl ?_
            refine AOpsO.oneIf tok [0, 2, 4, 5, 7, 8, 9, 99, 100, 101] 99 (by intro C; conv => lhs; simp) (by first | with_reducible exact True.intro | (((repeat' (first | with_reducible apply And.intro | intro _)) <;> first | omega | assumption | contradiction | exact ⟨_, hix _ (by omega), rfl⟩ | simp_all); done) | omega | simp | (simp; omega) | (simp +contextual; omega)) rfl rfl ?_
            refine AOpsO.oneIf tok [0, 2, 4, 5, 7, 8, 9, 99, 102] 99 (by intro C; conv => lhs; simp) (by first | with_reducible exact True.intro | (((repeat' (first | with_reducible apply And.intro | intro _)) <;> first | omega | assumption | contradiction | exact ⟨_, hix _ (by omega), rfl⟩ | simp_all); done) | omega | simp | (simp; omega) | (simp +contextual; omega)) rfl rfl ?_
            refine AOpsO.oneIf tok [0, 2, 4, 5, 7, 8, 9, 99, 103] 99 (by intro C; conv => lhs; simp) (by first | with_reducible exact True.intro | (((repeat' (first | with_reducible apply And.intro | intro _)) <;> first | omega | assumption | contradiction | exact ⟨_, hix _ (by omega), rfl⟩ | simp_all); done) | omega | simp | (simp; omega) | (simp +contextual; omega)) rfl rfl ?_
            refine AOpsO.one tok [0, 2, 4, 5, 7, 8, 9, 104] (by intro C; conv => lhs; simp) (by first | with_reducible exact True.intro | (((repeat' (first | with_reducible apply And.intro | intro _)) <;> first | omega | assumption | contradiction | exact ⟨_, hix _ (by omega), rfl⟩ | simp_all); done) | omega | simp | (simp; omega) | (simp +contextual; omega)) rfl ?_
            refine AOpsO.one tok [0, 2, 4, 5, 7, 8, 9, 10] (by intro C; conv => lhs; simp) (by first | with_reducible exact True.intro | (((repeat' (first | with_reducible apply And.intro | intro _)) <;> first | omega | assumption | contradiction | exact ⟨_, hix _ (by omega), rfl⟩ | simp_all); done) | omega | simp | (simp; omega) | (simp +contextual; omega)) rfl ?_
            refine AOpsO.nil ?_
            refine AW.join (α := Unit) (fun _ => True) (fun a => ⟨upds 175 [(0, .p (.str s)), (2, .ptr 2 0), (4, .p (.int .i64 (signM s (k + 1)))), (5, .p (.bool (negM s))), (7, .p (.str digits)), (8, .p (.int .i64 scale)), (9, .p (.int .i64 0)), (10, .p (.bool (decide (k + 1 < s.length) && decide (byteAt s (k + 1) = 45))))], [], [(2, .vars 24 [.p (.bool false), .p (.str []), .p (.int .i64 0)])], 0⟩) ?_ ?_
            ·
              refine AW.seqRegionO [.int .u8 (byteAt s (k + 1)), .int .u8 (byteAt s (k + 1))] ?_
              refine AOpsO.one tok [0, 2, 4, 5, 7, 8, 9, 10, 105] (by intro C; conv => lhs; simp) (by first | with_reducible exact True.intro | (((repeat' (first | with_reducible apply And.intro | intro _)) <;> first | omega | assumption | contradiction | exact ⟨_, hix _ (by omega), rfl⟩ | simp_all); done) | omega | simp | (simp; omega) | (simp +contextual; omega)) rfl ?_
              refine AOpsO.one tok [0, 2, 4, 5, 7, 8, 9, 10, 105, 106] (by intro C; conv => lhs; simp) (by first | with_reducible exact True.intro | (((repeat' (first | with_reducible apply And.intro | intro _)) <;> first | omega | assumption | contradiction | exact ⟨_, hix _ (by omega), rfl⟩ | simp_all); done) | omega | simp | (simp; omega) | (simp +contextual; omega)) rfl ?_
              refine AOpsO.one tok [0, 2, 4, 5, 7, 8, 9, 10, 105, 107] (by intro C; conv => lhs; simp) (by first | with_reducible exact True.intro | (((repeat' (first | with_reducible apply And.intro | intro _)) <;> first | omega | assumption | contradiction | exact ⟨_, hix _ (by omega), rfl⟩ | simp_all); done) | omega | simp | (simp; omega) | (simp +contextual; omega)) rfl ?_
              refine AOpsO.one tok [0, 2, 4, 5, 7, 8, 9, 10, 108] (by intro C; conv => lhs; simp) (by first | with_reducible exact True.intro | (((repeat' (first | with_reducible apply And.intro | intro _)) <;> first | omega | assumption | contradiction | exact ⟨_, hix _ (by omega), rfl⟩ | simp_all); done) | omega | simp | (simp; omega) | (simp +contextual; omega)) rfl ?_
              refine AOpsO.one tok [0, 2, 4, 5, 7, 8, 9, 10, 109] (by intro C; conv => lhs; simp) (by first | with_reducible exact True.intro | (((repeat' (first | with_reducible apply And.intro | intro _)) <;> first | omega | assumption | contradiction | exact ⟨_, hix _ (by omega), rfl⟩ | simp_all); done) | omega | simp | (simp; omega) | (simp +contextual; omega)) rfl ?_
              refine AOpsO.oneIf tok [0, 2, 4, 5, 7, 8, 9, 10, 109, 110] 109 (by intro C; conv => lhs; simp) (by first | with_reducible exact True.intro | (((repeat' (first | with_reducible apply And.intro | intro _)) <;> first | omega | assumption | contradiction | exact ⟨_, hix _ (by omega), rfl⟩ | simp_all); done) | omega | simp | (simp; omega) | (simp +contextual; omega)) rfl rfl ?_
              refine AOpsO.oneIf tok [0, 2, 4, 5, 7, 8, 9, 10, 109, 110, 111] 109 (by intro C; conv => lhs; simp) (by first | with_reducible exact True.intro | (((repeat' (first | with_reducible apply And.intro | intro _)) <;> first | omega | assumption | contradiction | exact ⟨_, hix _ (by omega), rfl⟩ | simp_all); done) | omega | simp | (simp; omega) | (simp +contextual; omega)) rfl rfl ?_
              refine AOpsO.oneIf tok [0, 2, 4, 5, 7, 8, 9, 10, 109, 112] 109 (by intro C; conv => lhs; simp) (by first | with_reducible exact True.intro | (((repeat' (first | with_reducible apply And.intro | intro _)) <;> first | omega | assumption | contradiction | exact ⟨_, hix _ (by omega), rfl⟩ | simp_all); done) | omega | simp | (simp; omega) | (simp +contextual; omega)) rfl rfl ?_
              refine AOpsO.oneIf tok [0, 2, 4, 5, 7, 8, 9, 10, 109, 113] 109 (by intro C; conv => lhs; simp) (by first | with_reducible exact True.intro | (((repeat' (first | with_reducible apply And.intro | intro _)) <;> first | omega | assumption | contradiction | exact ⟨_, hix _ (by omega), rfl⟩ | simp_all); done) | omega | simp | (simp; omega) | (simp +contextual; omega)) rfl rfl ?_
              refine AOpsO.oneIf tok [0, 2, 4, 5, 7, 8, 9, 10, 109, 114] 109 (by intro C; conv => lhs; simp) (by first | with_reducible exact True.intro | (((repeat' (first | with_reducible apply And.intro | intro _)) <;> first | omega | assumption | contradiction | exact ⟨_, hix _ (by omega), rfl⟩ | simp_all); done) | omega | simp | (simp; omega) | (simp +contextual; omega)) rfl rfl ?_
              refine AOpsO.oneIf tok [0, 2, 4, 5, 7, 8, 9, 10, 109, 114, 115] 114 (by intro C; conv => lhs; simp) (by first | with_reducible exact True.intro | (((repeat' (first | with_reducible apply And.intro | intro _)) <;> first | omega | assumption | contradiction | exact ⟨_, hix _ (by omega), rfl⟩ | simp_all); done) | omega | simp | (simp; omega) | (simp +contextual; omega)) rfl rfl ?_
              refine AOpsO.oneIf tok [0, 2, 4, 5, 7, 8, 9, 10, 109, 114, 115, 116] 114 (by intro C; conv => lhs; simp) (by first | with_reducible exact True.intro | (((repeat' (first | with_reducible apply And.intro | intro _)) <;> first | omega | assumption | contradiction | exact ⟨_, hix _ (by omega), rfl⟩ | simp_all); done) | omega | simp | (simp; omega) | (simp +contextual; omega)) rfl rfl ?_
              refine AOpsO.oneIf tok [0, 2, 4, 5, 7, 8, 9, 10, 109, 114, 117] 114 (by intro C; conv => lhs; simp) (by first | with_reducible exact True.intro | (((repeat' (first | with_reducible apply And.intro | intro _)) <;> first | omega | assumption | contradiction | exact ⟨_, hix _ (by omega), rfl⟩ | simp_all); done) | omega | simp | (simp; omega) | (simp +contextual; omega)) rfl rfl ?_
              refine AOpsO.oneIf tok [0, 2, 4, 5, 7, 8, 9, 10, 109, 114, 118] 114 (by intro C; conv => lhs; simp) (by first | with_reducible exact True.intro | (((repeat' (first | with_reducible apply And.intro | intro _)) <;> first | omega | assumption | contradiction | exact ⟨_, hix _ (by omega), rfl⟩ | simp_all); done) | omega | simp | (simp; omega) | (simp +contextual; omega)) rfl rfl ?_
              refine AOpsO.oneIf tok [0, 2, 4, 5, 7, 8, 9, 10, 109, 119] 109 (by intro C; conv => lhs; simp) (by first | with_reducible exact True.intro | (((repeat' (first | with_reducible apply And.intro | intro _)) <;> first | omega | assumption | contradiction | exact ⟨_, hix _ (by omega), rfl⟩ | simp_all); done) | omega | simp | (simp; omega) | (simp +contextual; omega)) rfl rfl ?_
              refine AOpsO.one tok [0, 2, 4, 5, 7, 8, 9, 10, 120] (by intro C; conv => lhs; simp) (by first | with_reducible exact True.intro | (((repeat' (first | with_reducible apply And.intro | intro _)) <;> first | omega | assumption | contradiction | exact ⟨_, hix _ (by omega), rfl⟩ | simp_all); done) | omega | simp | (simp; omega) | (simp +contextual; omega)) rfl ?_
              refine AOpsO.nil ?_
              refine AW.cond (c := .tmp 120) (by conv => lhs; simp) trivial ?_ ?_
              · intro h120
                try simp at h120
                refine AW.regionO [] ?_
                refine AOpsO.one tok [0, 2, 5, 7, 8, 9, 10, 121] (by intro C; conv => lhs; simp) (by first | with_reducible exact True.intro | omega | simp | (simp; omega) | (simp +contextual; omega)) rfl ?_
                refine AOpsO.one tok [0, 2, 5, 7, 8, 9, 10, 122] (by intro C; conv => lhs; simp) (by first | with_reducible exact True.intro | omega | simp | (simp; omega) | (simp +contextual; omega)) rfl ?_
                refine AOpsO.one tok [0, 2, 4, 5, 7, 8, 9, 10] (by intro C; conv => lhs; simp) (by first | with_reducible exact True.intro | omega | simp | (simp; omega) | (simp +contextual; omega)) rfl ?_
                refine AOpsO.nil ?_
                exact ⟨(), trivial, upds_le (by simp [show signM s (k + 1) = k + 1 + 1 from by (unfold signM; rw [if_pos ⟨by omega, h120.2⟩]), show ((k : Int) + 1 < (s.length : Int)) = (k + 1 < s.length) from propext (by omega)]), rfl, by simp [show signM s (k + 1) = k + 1 + 1 from by (unfold signM; rw [if_pos ⟨by omega, h120.2⟩]), show ((k : Int) + 1 < (s.length : Int)) = (k + 1 < s.length) from propext (by omega)], by simp [show signM s (k + 1) = k + 1 + 1 from by (unfold signM; rw [if_pos ⟨by omega, h120.2⟩]), show ((k : Int) + 1 < (s.length : Int)) = (k + 1 < s.length) from propext (by omega)]⟩
              · intro h120
                try simp at h120
                refine AW.skip ?_
                exact ⟨(), trivial, upds_le (by simp [show signM s (k + 1) = k + 1 from by (unfold signM; rw [if_neg (by intro h; have := h120 (by omega); omega)]), show ((k : Int) + 1 < (s.length : Int)) = (k + 1 < s.length) from propext (by omega)]), rfl, by simp [show signM s (k + 1) = k + 1 from by (unfold signM; rw [if_neg (by intro h; have := h120 (by omega); omega)]), show ((k : Int) + 1 < (s.length : Int)) = (k + 1 < s.length) from propext (by omega)], by simp [show signM s (k + 1) = k + 1 from by (unfold signM; rw [if_neg (by intro h; have := h120 (by omega); omega)]), show ((k : Int) + 1 < (s.length : Int)) = (k + 1 < s.length) from propext (by omega)]⟩
            ·
              rintro a hI
              have hsg : signM s (k + 1) ≤ s.length + 1 := by unfold signM; split <;> omega
              have hin3 := runM_in s (signM s (k + 1))
              have hp3 := runM_pos (s := s) (k := signM s (k + 1))
              have hn3 := runM_le s (signM s (k + 1))
              obtain ⟨k3, hk3⟩ : ∃ k3, k3 = signM s (k + 1) := ⟨_, rfl⟩
              rw [← hk3] at hsg hin3 hp3 hn3 ⊢
              refine AW.seqRegionO [.nilp, .int .i64 (runM s k3)] ?_
              refine AOpsO.one tok [0, 2, 4, 5, 7, 8, 9, 10, 123] (by intro C; conv => lhs; simp) (by first | with_reducible exact True.intro | (exact hrun k3 (by omega); done) | omega | simp | (simp; omega) | (simp +contextual; omega)) rfl ?_
              refine AOpsO.one tok [0, 2, 4, 5, 7, 8, 9, 10, 123, 124] (by intro C; conv => lhs; simp) (by first | with_reducible exact True.intro | (exact hrun k3 (by omega); done) | omega | simp | (simp; omega) | (simp +contextual; omega)) rfl ?_
              refine AOpsO.one tok [0, 2, 4, 5, 7, 8, 9, 10, 125] (by intro C; conv => lhs; simp) (by first | with_reducible exact True.intro | (exact hrun k3 (by omega); done) | omega | simp | (simp; omega) | (simp +contextual; omega)) rfl ?_
              refine AOpsO.one tok [0, 2, 4, 5, 6, 7, 8, 9, 10] (by intro C; conv => lhs; simp) (by first | with_reducible exact True.intro | (exact hrun k3 (by omega); done) | omega | simp | (simp; omega) | (simp +contextual; omega)) rfl ?_
              refine AOpsO.nil ?_
              refine AW.seq ?_
              refine AW.seqRegionO [] ?_
              refine AOpsO.one tok [0, 2, 4, 5, 6, 7, 8, 9, 10, 126] (by intro C; conv => lhs; simp) (by first | with_reducible exact True.intro | omega | simp | (simp; omega) | (simp +contextual; omega)) rfl ?_
              refine AOpsO.one tok [0, 2, 4, 5, 6, 7, 8, 9, 10, 127] (by intro C; conv => lhs; simp) (by first | with_reducible exact True.intro | omega | simp | (simp; omega) | (simp +contextual; omega)) rfl ?_
              refine AOpsO.one tok [0, 2, 4, 5, 6, 7, 8, 9, 10, 128] (by intro C; conv => lhs; simp) (by first | with_reducible exact True.intro | omega | simp | (simp; omega) | (simp +contextual; omega)) rfl ?_
              refine AOpsO.oneIf tok [0, 2, 4, 5, 6, 7, 8, 9, 10, 128, 129] 128 (by intro C; conv => lhs; simp) (by first | with_reducible exact True.intro | omega | simp | (simp; omega) | (simp +contextual; omega)) rfl rfl ?_
              refine AOpsO.oneIf tok [0, 2, 4, 5, 6, 7, 8, 9, 10, 128, 130] 128 (by intro C; conv => lhs; simp) (by first | with_reducible exact True.intro | omega | simp | (simp; omega) | (simp +contextual; omega)) rfl rfl ?_
              refine AOpsO.one tok [0, 2, 4, 5, 6, 7, 8, 9, 10, 131] (by intro C; conv => lhs; simp) (by first | with_reducible exact True.intro | omega | simp | (simp; omega) | (simp +contextual; omega)) rfl ?_
              refine AOpsO.nil ?_
              refine AW.cond (c := .tmp 131) (by conv => lhs; simp) trivial ?_ ?_
              · intro h131
                try simp at h131
                have hP3 : part3 s k = none := by simp only [part3]; rw [if_pos h92, ← hk3, if_pos (by omega)]
                refine AW.seqRegionO [] ?_
                refine AOpsO.one tok [2, 132] (by intro C; conv => lhs; simp) (by first | with_reducible exact True.intro | omega | simp | (simp; omega) | (simp +contextual; omega)) rfl ?_
                refine AOpsO.one tok [2] (by intro C; conv => lhs; simp) (by first | with_reducible exact True.intro | omega | simp | (simp; omega) | (simp +contextual; omega)) rfl ?_
                refine AOpsO.one tok [2, 3] (by intro C; conv => lhs; simp) (by first | with_reducible exact True.intro | omega | simp | (simp; omega) | (simp +contextual; omega)) rfl ?_
                refine AOpsO.nil ?_
                exact AW.ret ⟨.inr rfl, _, _, by (conv => lhs; simp), trivial, by simp [hP3, restM, badDc]⟩
              · intro h131
                try simp at h131
                have hP3 : part3 s k = some (k3 + runM s k3, if k + 1 < s.length ∧ byteAt s (k + 1) = 45 then - upM s k3 (runM s k3) else upM s k3 (runM s k3)) := by simp only [part3]; rw [if_pos h92, ← hk3, if_neg (by omega)]
                have hk3l : k3 < s.length := hp3 (by omega)
                have hdig := fun i => runM_digit (s := s) (k := k3) (i := i)
                refine AW.skip ?_
                refine AW.seq ?_
                refine AW.seqRegionO [] ?_
                refine AOpsO.one tok [0, 2, 4, 5, 6, 7, 8, 9, 10, 11] (by intro C; conv => lhs; simp) (by first | with_reducible exact True.intro | omega | simp | (simp; omega) | (simp +contextual; omega)) rfl ?_
                refine AOpsO.nil ?_
                refine AW.block ?_
                refine AW.loop (α := Nat) (fun i => i ≤ runM s k3) (fun i => ⟨upds 175 [(0, .p (.str s)), (2, .ptr 2 0), (4, .p (.int .i64 k3)), (5, .p (.bool (negM s))), (6, .p (.int .i64 (runM s k3))), (7, .p (.str digits)), (8, .p (.int .i64 scale)), (9, .p (.int .i64 (upM s k3 i))), (10, .p (.bool (decide (k + 1 < s.length) && decide (byteAt s (k + 1) = 45)))), (11, .p (.int .i64 i))], [], [(2, .vars 24 [.p (.bool false), .p (.str []), .p (.int .i64 0)])], 0⟩) (fun i => runM s k3 - i) (0) (by omega) ⟨upds_le (by simp [upM]), rfl, by simp, by simp⟩ ?_
                rintro i hi
                have hup := upM_range (s := s) (k := k3) (i := i) (by omega) hi
                refine AW.seq ?_
                refine AW.seqRegionO [] ?_
                refine AOpsO.one tok [0, 2, 4, 5, 6, 7, 8, 9, 10, 11, 133] (by intro C; conv => lhs; simp) (by first | with_reducible exact True.intro | omega | simp | (simp; omega) | (simp +contextual; omega)) rfl ?_
                refine AOpsO.one tok [0, 2, 4, 5, 6, 7, 8, 9, 10, 11, 133, 134] (by intro C; conv => lhs; simp) (by first | with_reducible exact True.intro | omega | simp | (simp; omega) | (simp +contextual; omega)) rfl ?_
                refine AOpsO.one tok [0, 2, 4, 5, 6, 7, 8, 9, 10, 11, 135] (by intro C; conv => lhs; simp) (by first | with_reducible exact True.intro | omega | simp | (simp; omega) | (simp +contextual; omega)) rfl ?_
                refine AOpsO.nil ?_
                refine AW.cond (c := .tmp 135) (by conv => lhs; simp) trivial ?_ ?_
                · intro h135
                  try simp at h135
                  have hdi := hdig i h135
                  have hw : IntKind.u8.wrap (byteAt s (k3 + i) - 48) = byteAt s (k3 + i) - 48 := by simp [IntKind.wrap, IntKind.bits, IntKind.signed]; omega
                  refine AW.skip ?_
                  refine AW.seq ?_
                  refine AW.block ?_
                  refine AW.regionO [.int .u8 (byteAt s (k3 + i))] ?_
                  refine AOpsO.one tok [0, 2, 4, 5, 6, 7, 8, 10, 11, 138] (by intro C; conv => lhs; simp) (by first | with_reducible exact True.intro | (((repeat' (first | with_reducible apply And.intro | intro _)) <;> first | omega | assumption | contradiction | exact ⟨_, hix _ (by omega), rfl⟩ | (rw [hw]; omega) | simp_all); done) | omega | simp | (simp; omega) | (simp +contextual; omega)) rfl ?_
                  refine AOpsO.one tok [0, 2, 4, 5, 6, 7, 8, 10, 11, 139] (by intro C; conv => lhs; simp) (by first | with_reducible exact True.intro | (((repeat' (first | with_reducible apply And.intro | intro _)) <;> first | omega | assumption | contradiction | exact ⟨_, hix _ (by omega), rfl⟩ | (rw [hw]; omega) | simp_all); done) | omega | simp | (simp; omega) | (simp +contextual; omega)) rfl ?_
                  refine AOpsO.one tok [0, 2, 4, 5, 6, 7, 8, 10, 11, 139, 140] (by intro C; conv => lhs; simp) (by first | with_reducible exact True.intro | (((repeat' (first | with_reducible apply And.intro | intro _)) <;> first | omega | assumption | contradiction | exact ⟨_, hix _ (by omega), rfl⟩ | (rw [hw]; omega) | simp_all); done) | omega | simp | (simp; omega) | (simp +contextual; omega)) rfl ?_
                  refine AOpsO.one tok [0, 2, 4, 5, 6, 7, 8, 10, 11, 139, 140, 141] (by intro C; conv => lhs; simp) (by first | with_reducible exact True.intro | (((repeat' (first | with_reducible apply And.intro | intro _)) <;> first | omega | assumption | contradiction | exact ⟨_, hix _ (by omega), rfl⟩ | (rw [hw]; omega) | simp_all); done) | omega | simp | (simp; omega) | (simp +contextual; omega)) rfl ?_
                  refine AOpsO.one tok [0, 2, 4, 5, 6, 7, 8, 10, 11, 139, 140, 141, 142] (by intro C; conv => lhs; simp) (by first | with_reducible exact True.intro | (((repeat' (first | with_reducible apply And.intro | intro _)) <;> first | omega | assumption | contradiction | exact ⟨_, hix _ (by omega), rfl⟩ | (rw [hw]; omega) | simp_all); done) | omega | simp | (simp; omega) | (simp +contextual; omega)) rfl ?_
                  refine AOpsO.one tok [0, 2, 4, 5, 6, 7, 8, 10, 11, 139, 140, 143] (by intro C; conv => lhs; simp) (by first | with_reducible exact True.intro | (((repeat' (first | with_reducible apply And.intro | intro _)) <;> first | omega | assumption | contradiction | exact ⟨_, hix _ (by omega), rfl⟩ | (rw [hw]; omega) | simp_all); done) | omega | simp | (simp; omega) | (simp +contextual; omega)) rfl ?_
                  refine AOpsO.one tok [0, 2, 4, 5, 6, 7, 8, 10, 11, 139, 144] (by intro C; conv => lhs; simp) (by first | with_reducible exact True.intro | (((repeat' (first | with_reducible apply And.intro | intro _)) <;> first | omega | assumption | contradiction | exact ⟨_, hix _ (by omega), rfl⟩ | (rw [hw]; omega) | simp_all); done) | omega | simp | (simp; omega) | (simp +contextual; omega)) rfl ?_
                  refine AOpsO.one tok [0, 2, 4, 5, 6, 7, 8, 10, 11, 139, 145] (by intro C; conv => lhs; simp) (by first | with_reducible exact True.intro | (((repeat' (first | with_reducible apply And.intro | intro _)) <;> first | omega | assumption | contradiction | exact ⟨_, hix _ (by omega), rfl⟩ | (rw [hw]; omega) | simp_all); done) | omega | simp | (simp; omega) | (simp +contextual; omega)) rfl ?_
                  refine AOpsO.one tok [0, 2, 4, 5, 6, 7, 8, 10, 11, 139, 146] (by intro C; conv => lhs; simp) (by first | with_reducible exact True.intro | (((repeat' (first | with_reducible apply And.intro | intro _)) <;> first | omega | assumption | contradiction | exact ⟨_, hix _ (by omega), rfl⟩ | (rw [hw]; omega) | simp_all); done) | omega | simp | (simp; omega) | (simp +contextual; omega)) rfl ?_
                  refine AOpsO.one tok [0, 2, 4, 5, 6, 7, 8, 10, 11, 147] (by intro C; conv => lhs; simp) (by first | with_reducible exact True.intro | (((repeat' (first | with_reducible apply And.intro | intro _)) <;> first | omega | assumption | contradiction | exact ⟨_, hix _ (by omega), rfl⟩ | (rw [hw]; omega) | simp_all); done) | omega | simp | (simp; omega) | (simp +contextual; omega)) rfl ?_
                  refine AOpsO.one tok [0, 2, 4, 5, 6, 7, 8, 9, 10, 11] (by intro C; conv => lhs; simp) (by first | with_reducible exact True.intro | (((repeat' (first | with_reducible apply And.intro | intro _)) <;> first | omega | assumption | contradiction | exact ⟨_, hix _ (by omega), rfl⟩ | (rw [hw]; omega) | simp_all); done) | omega | simp | (simp; omega) | (simp +contextual; omega)) rfl ?_
                  refine AOpsO.nil ?_
                  refine AW.regionO [] ?_
                  refine AOpsO.one tok [0, 2, 4, 5, 6, 7, 8, 9, 10, 136] (by intro C; conv => lhs; simp) (by first | with_reducible exact True.intro | omega | simp | (simp; omega) | (simp +contextual; omega)) rfl ?_
                  refine AOpsO.one tok [0, 2, 4, 5, 6, 7, 8, 9, 10, 137] (by intro C; conv => lhs; simp) (by first | with_reducible exact True.intro | omega | simp | (simp; omega) | (simp +contextual; omega)) rfl ?_
                  refine AOpsO.one tok [0, 2, 4, 5, 6, 7, 8, 9, 10, 11] (by intro C; conv => lhs; simp) (by first | with_reducible exact True.intro | omega | simp | (simp; omega) | (simp +contextual; omega)) rfl ?_
                  refine AOpsO.nil ?_
                  exact ⟨i + 1, by omega, by omega, upds_le (by simp [upM, hw]), rfl, by simp [upM, hw], by simp [upM, hw]⟩
                · intro h135
                  try simp at h135
                  have hi2 : i = runM s k3 := by omega
                  subst hi2
                  have hup2 := hin3 (by omega)
                  have hw2 : IntKind.i64.wrap (- upM s k3 (runM s k3)) = - upM s k3 (runM s k3) := by simp [IntKind.wrap, IntKind.bits, IntKind.signed]; omega
                  refine AW.exit ?_
                  simp
                  refine AW.seqRegionO [] ?_
                  refine AOpsO.one tok [0, 2, 5, 6, 7, 8, 9, 10, 148] (by intro C; conv => lhs; simp) (by first | with_reducible exact True.intro | omega | simp | (simp; omega) | (simp +contextual; omega)) rfl ?_
                  refine AOpsO.one tok [0, 2, 5, 7, 8, 9, 10, 148, 149] (by intro C; conv => lhs; simp) (by first | with_reducible exact True.intro | omega | simp | (simp; omega) | (simp +contextual; omega)) rfl ?_
                  refine AOpsO.one tok [0, 2, 5, 7, 8, 9, 10, 150] (by intro C; conv => lhs; simp) (by first | with_reducible exact True.intro | omega | simp | (simp; omega) | (simp +contextual; omega)) rfl ?_
                  refine AOpsO.one tok [0, 2, 4, 5, 7, 8, 9, 10] (by intro C; conv => lhs; simp) (by first | with_reducible exact True.intro | omega | simp | (simp; omega) | (simp +contextual; omega)) rfl ?_
                  refine AOpsO.nil ?_
                  refine AW.seqRegionO [] ?_
                  refine AOpsO.one tok [0, 2, 4, 5, 7, 8, 9, 151] (by intro C; conv => lhs; simp) (by first | with_reducible exact True.intro | omega | simp | (simp; omega) | (simp +contextual; omega)) rfl ?_
                  refine AOpsO.nil ?_
                  refine AW.cond (c := .tmp 151) (by conv => lhs; simp) trivial ?_ ?_
                  · intro h151
                    try simp at h151
                    rw [if_pos h151] at hP3
                    refine AW.regionO [] ?_
                    refine AOpsO.one tok [0, 2, 4, 5, 7, 8, 152] (by intro C; conv => lhs; simp) (by first | with_reducible exact True.intro | omega | simp | (simp; omega) | (simp +contextual; omega)) rfl ?_
                    refine AOpsO.one tok [0, 2, 4, 5, 7, 8, 153] (by intro C; conv => lhs; simp) (by first | with_reducible exact True.intro | omega | simp | (simp; omega) | (simp +contextual; omega)) rfl ?_
                    refine AOpsO.one tok [0, 2, 4, 5, 7, 8, 9] (by intro C; conv => lhs; simp) (by first | with_reducible exact True.intro | omega | simp | (simp; omega) | (simp +contextual; omega)) rfl ?_
                    refine AOpsO.nil ?_
                    exact ⟨k3 + runM s k3, - upM s k3 (runM s k3), ⟨hP3, by omega, by omega, by omega⟩, upds_le (by simp [hw2]), rfl, by simp [hw2], by simp [hw2]⟩
                  · intro h151
                    try simp at h151
                    rw [if_neg (by intro h; exact h151 h.1 h.2)] at hP3
                    refine AW.skip ?_
                    exact ⟨k3 + runM s k3, upM s k3 (runM s k3), ⟨hP3, by omega, by omega, by omega⟩, upds_le (by simp), rfl, by simp, by simp⟩
          · intro h92
            try simp at h92
            refine AW.skip ?_
            exact ⟨(k, 0), ⟨by simp only [part3]; rw [if_neg (by intro h; have := h92 h.1; omega)], by show k ≤ 300000; omega, by simp, by simp⟩, upds_le (by simp), rfl, by simp, by simp⟩
        ·
          rintro ⟨k2, up⟩ ⟨hp3, hk2, hu1, hu2⟩
          simp only at hk2 hu1 hu2
          rw [hp3]
          refine AW.seq ?_
          refine AW.seqRegionO [] ?_
          refine AOpsO.one tok [0, 2, 5, 7, 8, 9, 154] (by intro C; conv => lhs; simp) (by first | with_reducible exact True.intro | omega | simp | (simp; omega) | (simp +contextual; omega)) rfl ?_
          refine AOpsO.one tok [2, 5, 7, 8, 9, 154, 155] (by intro C; conv => lhs; simp) (by first | with_reducible exact True.intro | omega | simp | (simp; omega) | (simp +contextual; omega)) rfl ?_
          refine AOpsO.one tok [2, 5, 7, 8, 9, 154, 156] (by intro C; conv => lhs; simp) (by first | with_reducible exact True.intro | omega | simp | (simp; omega) | (simp +contextual; omega)) rfl ?_
          refine AOpsO.one tok [2, 5, 7, 8, 9, 157] (by intro C; conv => lhs; simp) (by first | with_reducible exact True.intro | omega | simp | (simp; omega) | (simp +contextual; omega)) rfl ?_
          refine AOpsO.nil ?_
          refine AW.cond (c := .tmp 157) (by conv => lhs; simp) trivial ?_ ?_
          · intro h157
            try simp at h157
            have hR : restM s (negM s) digits scale (some (k2, up)) = badDc := by simp only [restM]; rw [if_neg (by omega)]
            refine AW.seqRegionO [] ?_
            refine AOpsO.one tok [2, 158] (by intro C; conv => lhs; simp) (by first | with_reducible exact True.intro | omega | simp | (simp; omega) | (simp +contextual; omega)) rfl ?_
            refine AOpsO.one tok [2] (by intro C; conv => lhs; simp) (by first | with_reducible exact True.intro | omega | simp | (simp; omega) | (simp +contextual; omega)) rfl ?_
            refine AOpsO.one tok [2, 3] (by intro C; conv => lhs; simp) (by first | with_reducible exact True.intro | omega | simp | (simp; omega) | (simp +contextual; omega)) rfl ?_
            refine AOpsO.nil ?_
            exact AW.ret ⟨.inr rfl, _, _, by (conv => lhs; simp), trivial, by simp [hR, badDc]⟩
          · intro h157
            try simp at h157
            have hR : restM s (negM s) digits scale (some (k2, up)) = lastM (negM s) digits (scale - up) := by simp only [restM]; rw [if_pos (by omega)]
            rw [hR]
            clear hR hp3
            have hw3 : IntKind.i64.wrap (-((scale : Int) - up)) = -((scale : Int) - up) := by simp [IntKind.wrap, IntKind.bits, IntKind.signed]; omega
            have hz := zeros_ev (G := G) (-((scale : Int) - up)) (by omega)
            have hzl : (zerosM (-((scale : Int) - up)).toNat).length ≤ 300000 := by simp [zerosM]; omega
            refine AW.skip ?_
            refine AW.seqRegionO [] ?_
            refine AOpsO.one tok [2, 5, 7, 9, 159] (by intro C; conv => lhs; simp) (by first | with_reducible exact True.intro | omega | simp | (simp; omega) | (simp +contextual; omega)) rfl ?_
            refine AOpsO.one tok [2, 5, 7, 159, 160] (by intro C; conv => lhs; simp) (by first | with_reducible exact True.intro | omega | simp | (simp; omega) | (simp +contextual; omega)) rfl ?_
            refine AOpsO.one tok [2, 5, 7, 161] (by intro C; conv => lhs; simp) (by first | with_reducible exact True.intro | omega | simp | (simp; omega) | (simp +contextual; omega)) rfl ?_
            refine AOpsO.one tok [2, 5, 7, 8] (by intro C; conv => lhs; simp) (by first | with_reducible exact True.intro | omega | simp | (simp; omega) | (simp +contextual; omega)) rfl ?_
            refine AOpsO.nil ?_
            refine AW.seq ?_
            refine AW.seqRegionO [] ?_
            refine AOpsO.one tok [2, 5, 7, 8, 162] (by intro C; conv => lhs; simp) (by first | with_reducible exact True.intro | omega | simp | (simp; omega) | (simp +contextual; omega)) rfl ?_
            refine AOpsO.one tok [2, 5, 7, 8, 163] (by intro C; conv => lhs; simp) (by first | with_reducible exact True.intro | omega | simp | (simp; omega) | (simp +contextual; omega)) rfl ?_
            refine AOpsO.nil ?_
            refine AW.cond (c := .tmp 163) (by conv => lhs; simp) trivial ?_ ?_
            · intro h163
              try simp at h163
              have hL : lastM (negM s) digits ((scale : Int) - up) = NormM (negM s) (digits ++ zerosM (-((scale : Int) - up)).toNat) 0 := by simp only [lastM]; rw [if_pos (by omega)]
              have hN := Norm_ev (G := G) (negM s) (digits ++ zerosM (-((scale : Int) - up)).toNat) 0 (by simp; omega) (by omega)
              refine AW.seqRegionO [.nilp, .str (zerosM (-((scale : Int) - up)).toNat)] ?_
              refine AOpsO.one tok [2, 5, 8, 164] (by intro C; conv => lhs; simp) (by first | with_reducible exact True.intro | (first | (rw [hw3]; exact hz) | omega; done) | omega | simp | (simp; omega) | (simp +contextual; omega)) rfl ?_
              refine AOpsO.one tok [2, 5, 164, 165] (by intro C; conv => lhs; simp) (by first | with_reducible exact True.intro | (first | (rw [hw3]; exact hz) | omega; done) | omega | simp | (simp; omega) | (simp +contextual; omega)) rfl ?_
              refine AOpsO.one tok [2, 5, 164, 166] (by intro C; conv => lhs; simp) (by first | with_reducible exact True.intro | (first | (rw [hw3]; exact hz) | omega; done) | omega | simp | (simp; omega) | (simp +contextual; omega)) rfl ?_
              refine AOpsO.one tok [2, 5, 164, 167] (by intro C; conv => lhs; simp) (by first | with_reducible exact True.intro | (first | (rw [hw3]; exact hz) | omega; done) | omega | simp | (simp; omega) | (simp +contextual; omega)) rfl ?_
              refine AOpsO.one tok [2, 5, 168] (by intro C; conv => lhs; simp) (by first | with_reducible exact True.intro | (first | (rw [hw3]; exact hz) | omega; done) | omega | simp | (simp; omega) | (simp +contextual; omega)) rfl ?_
              refine AOpsO.one tok [2, 5, 7] (by intro C; conv => lhs; simp) (by first | with_reducible exact True.intro | (first | (rw [hw3]; exact hz) | omega; done) | omega | simp | (simp; omega) | (simp +contextual; omega)) rfl ?_
              refine AOpsO.nil ?_
              refine AW.regionO [] ?_
              refine AOpsO.one tok [2, 5, 7, 8] (by intro C; conv => lhs; simp) (by first | with_reducible exact True.intro | omega | simp | (simp; omega) | (simp +contextual; omega)) rfl ?_
              refine AOpsO.nil ?_
              refine AW.seqRegionO [.nilp, .tup [(NormM (negM s) (digits ++ zerosM (-((scale : Int) - up)).toNat) 0).1.enc, .int .i64 (NormM (negM s) (digits ++ zerosM (-((scale : Int) - up)).toNat) 0).2]] ?_
              refine AOpsO.one tok [2, 7, 8, 169] (by intro C; conv => lhs; simp) (by first | with_reducible exact True.intro | (first | exact hN | simp; done) | omega | simp | (simp; omega) | (simp +contextual; omega)) rfl ?_
              refine AOpsO.one tok [2, 8, 169, 170] (by intro C; conv => lhs; simp) (by first | with_reducible exact True.intro | (first | exact hN | simp; done) | omega | simp | (simp; omega) | (simp +contextual; omega)) rfl ?_
              refine AOpsO.one tok [2, 169, 170, 171] (by intro C; conv => lhs; simp) (by first | with_reducible exact True.intro | (first | exact hN | simp; done) | omega | simp | (simp; omega) | (simp +contextual; omega)) rfl ?_
              refine AOpsO.one tok [2, 172] (by intro C; conv => lhs; simp) (by first | with_reducible exact True.intro | (first | exact hN | simp; done) | omega | simp | (simp; omega) | (simp +contextual; omega)) rfl ?_
              refine AOpsO.one tok [2, 172, 173] (by intro C; conv => lhs; simp) (by first | with_reducible exact True.intro | (first | exact hN | simp; done) | omega | simp | (simp; omega) | (simp +contextual; omega)) rfl ?_
              refine AOpsO.one tok [2, 173, 174] (by intro C; conv => lhs; simp) (by first | with_reducible exact True.intro | (first | exact hN | simp; done) | omega | simp | (simp; omega) | (simp +contextual; omega)) rfl ?_
              refine AOpsO.one tok [2, 174] (by intro C; conv => lhs; simp) (by first | with_reducible exact True.intro | (first | exact hN | simp; done) | omega | simp | (simp; omega) | (simp +contextual; omega)) rfl ?_
              refine AOpsO.one tok [2, 3] (by intro C; conv => lhs; simp) (by first | with_reducible exact True.intro | (first | exact hN | simp; done) | omega | simp | (simp; omega) | (simp +contextual; omega)) rfl ?_
              refine AOpsO.nil ?_
              exact AW.ret ⟨.inr rfl, _, _, by (conv => lhs; simp), trivial, by simp [hL]⟩
            · intro h163
              try simp at h163
              obtain ⟨sc, hsc2⟩ : ∃ sc : Nat, (sc : Int) = (scale : Int) - up := ⟨((scale : Int) - up).toNat, by omega⟩
              have hL : lastM (negM s) digits ((scale : Int) - up) = NormM (negM s) digits sc := by simp only [lastM]; rw [if_neg (by omega), ← hsc2]; rfl
              have hN := Norm_ev (G := G) (negM s) digits sc (by omega) (by omega)
              rw [hsc2] at hN
              refine AW.skip ?_
              refine AW.seqRegionO [.nilp, .tup [(NormM (negM s) digits sc).1.enc, .int .i64 (NormM (negM s) digits sc).2]] ?_
              refine AOpsO.one tok [2, 7, 8, 169] (by intro C; conv => lhs; simp) (by first | with_reducible exact True.intro | (first | exact hN | simp; done) | omega | simp | (simp; omega) | (simp +contextual; omega)) rfl ?_
              refine AOpsO.one tok [2, 8, 169, 170] (by intro C; conv => lhs; simp) (by first | with_reducible exact True.intro | (first | exact hN | simp; done) | omega | simp | (simp; omega) | (simp +contextual; omega)) rfl ?_
              refine AOpsO.one tok [2, 169, 170, 171] (by intro C; conv => lhs; simp) (by first | with_reducible exact True.intro | (first | exact hN | simp; done) | omega | simp | (simp; omega) | (simp +contextual; omega)) rfl ?_
              refine AOpsO.one tok [2, 172] (by intro C; conv => lhs; simp) (by first | with_reducible exact True.intro | (first | exact hN | simp; done) | omega | simp | (simp; omega) | (simp +contextual; omega)) rfl ?_
              refine AOpsO.one tok [2, 172, 173] (by intro C; conv => lhs; simp) (by first | with_reducible exact True.intro | (first | exact hN | simp; done) | omega | simp | (simp; omega) | (simp +contextual; omega)) rfl ?_
              refine AOpsO.one tok [2, 173, 174] (by intro C; conv => lhs; simp) (by first | with_reducible exact True.intro | (first | exact hN | simp; done) | omega | simp | (simp; omega) | (simp +contextual; omega)) rfl ?_
              refine AOpsO.one tok [2, 174] (by intro C; conv => lhs; simp) (by first | with_reducible exact True.intro | (first | exact hN | simp; done) | omega | simp | (simp; omega) | (simp +contextual; omega)) rfl ?_
              refine AOpsO.one tok [2, 3] (by intro C; conv => lhs; simp) (by first | with_reducible exact True.intro | (first | exact hN | simp; done) | omega | simp | (simp; omega) | (simp +contextual; omega)) rfl ?_
              refine AOpsO.nil ?_
              exact AW.ret ⟨.inr rfl, _, _, by (conv => lhs; simp), trivial, by simp [hL]⟩
end Go.Proofs.YtgoepemmcibdaaaDoor
namespace Go.Proofs.YtgoepemmcibdaaaDoor
open Sy Go
set_option maxRecDepth 100000
set_option maxHeartbeats 4000000
set_option linter.unusedSimpArgs false
set_option linter.unusedVariables false
variable {G : Glob}

def shortM (s : List UInt8) : List UInt8 := s.take 100
theorem short_ev (s : List UInt8) : AFn Tryd.prog G 15 [.str s] (.str (shortM s)) := by
  refine AFn.introU tok Tryd.func15 (by kernel_rfl) rfl rfl ?_
  simp only [Tryd.f15, enumA, List.map_cons, List.map_nil]
  refine AW.seqRegionO [] ?_
  refine AOpsO.one tok [0] (by intro C; conv => lhs; simp) (by first | with_reducible exact True.intro | omega | simp | (simp; omega) | (simp +contextual; omega)) rfl ?_
  refine AOpsO.nil ?_
  refine AW.seq ?_
  refine AW.seqRegionO [] ?_
  refine AOpsO.one tok [0, 3] (by intro C; conv => lhs; simp) (by first | with_reducible exact True.intro | omega | simp | (simp; omega) | (simp +contextual; omega)) rfl ?_
  refine AOpsO.one tok [0, 4] (by intro C; conv => lhs; simp) (by first | with_reducible exact True.intro | omega | simp | (simp; omega) | (simp +contextual; omega)) rfl ?_
  refine AOpsO.one tok [0, 5] (by intro C; conv => lhs; simp) (by first | with_reducible exact True.intro | omega | simp | (simp; omega) | (simp +contextual; omega)) rfl ?_
  refine AOpsO.nil ?_
  refine AW.cond (c := .tmp 5) (by conv => lhs; simp) trivial ?_ ?_
  · intro h5
    try simp at h5
    refine AW.seqRegionO [] ?_
    refine AOpsO.one tok [6] (by intro C; conv => lhs; simp) (by first | with_reducible exact True.intro | omega | simp | (simp; omega) | (simp +contextual; omega)) rfl ?_
    refine AOpsO.one tok [7] (by intro C; conv => lhs; simp) (by first | with_reducible exact True.intro | omega | simp | (simp; omega) | (simp +contextual; omega)) rfl ?_
    refine AOpsO.one tok [2] (by intro C; conv => lhs; simp) (by first | with_reducible exact True.intro | omega | simp | (simp; omega) | (simp +contextual; omega)) rfl ?_
    refine AOpsO.nil ?_
    exact AW.ret ⟨.inr rfl, _, _, by (conv => lhs; simp), trivial, by simp [shortM]⟩
  · intro h5
    try simp at h5
    refine AW.skip ?_
    refine AW.seqRegionO [] ?_
    refine AOpsO.one tok [8] (by intro C; conv => lhs; simp) (by first | with_reducible exact True.intro | omega | simp | (simp; omega) | (simp +contextual; omega)) rfl ?_
    refine AOpsO.one tok [2] (by intro C; conv => lhs; simp) (by first | with_reducible exact True.intro | omega | simp | (simp; omega) | (simp +contextual; omega)) rfl ?_
    refine AOpsO.nil ?_
    exact AW.ret ⟨.inr rfl, _, _, by (conv => lhs; simp), trivial, by simp [shortM]; rw [List.take_of_length_le (by omega)]⟩
def wordM (s : List UInt8) : List UInt8 := if validM (shortM s) = true then shortM s else [97]
theorem shortM_len (s : List UInt8) : (shortM s).length ≤ 100 := by simp [shortM]; omega
theorem wordM_len (s : List UInt8) : (wordM s).length ≤ 100 := by
  unfold wordM; split
  · exact shortM_len s
  · simp
theorem word_ev (s : List UInt8) : AFn Tryd.prog G 16 [.str s] (.str (wordM s)) := by
  refine AFn.introU tok Tryd.func16 (by kernel_rfl) rfl rfl ?_
  simp only [Tryd.f16, enumA, List.map_cons, List.map_nil]
  have h1 := short_ev (G := G) s
  have hl := shortM_len s
  have h2 := refValid_ev (G := G) (shortM s) (by omega)
  refine AW.seqRegionO [] ?_
  refine AOpsO.one tok [0] (by intro C; conv => lhs; simp) (by first | with_reducible exact True.intro | omega | simp | (simp; omega) | (simp +contextual; omega)) rfl ?_
  refine AOpsO.nil ?_
  refine AW.seqRegionO [.nilp, .str (shortM s)] ?_
  refine AOpsO.one tok [3] (by intro C; conv => lhs; simp) (by first | with_reducible exact True.intro | (simp [h1]; done) | omega | simp | (simp; omega) | (simp +contextual; omega)) rfl ?_
  refine AOpsO.one tok [4] (by intro C; conv => lhs; simp) (by first | with_reducible exact True.intro | (simp [h1]; done) | omega | simp | (simp; omega) | (simp +contextual; omega)) rfl ?_
  refine AOpsO.one tok [0] (by intro C; conv => lhs; simp) (by first | with_reducible exact True.intro | (simp [h1]; done) | omega | simp | (simp; omega) | (simp +contextual; omega)) rfl ?_
  refine AOpsO.nil ?_
  refine AW.seq ?_
  refine AW.seqRegionO [.nilp, .bool (validM (shortM s))] ?_
  refine AOpsO.one tok [0, 5] (by intro C; conv => lhs; simp) (by first | with_reducible exact True.intro | (simp [h2]; done) | omega | simp | (simp; omega) | (simp +contextual; omega)) rfl ?_
  refine AOpsO.one tok [0, 6] (by intro C; conv => lhs; simp) (by first | with_reducible exact True.intro | (simp [h2]; done) | omega | simp | (simp; omega) | (simp +contextual; omega)) rfl ?_
  refine AOpsO.one tok [0, 7] (by intro C; conv => lhs; simp) (by first | with_reducible exact True.intro | (simp [h2]; done) | omega | simp | (simp; omega) | (simp +contextual; omega)) rfl ?_
  refine AOpsO.nil ?_
  refine AW.cond (c := .tmp 7) (by conv => lhs; simp) trivial ?_ ?_
  · intro h7
    try simp at h7
    refine AW.seqRegionO [] ?_
    refine AOpsO.one tok [2] (by intro C; conv => lhs; simp) (by first | with_reducible exact True.intro | omega | simp | (simp; omega) | (simp +contextual; omega)) rfl ?_
    refine AOpsO.nil ?_
    exact AW.ret ⟨.inr rfl, _, _, by (conv => lhs; simp), trivial, by simp [wordM, h7]⟩
  · intro h7
    try simp at h7
    refine AW.skip ?_
    refine AW.seqRegionO [] ?_
    refine AOpsO.one tok [8] (by intro C; conv => lhs; simp) (by first | with_reducible exact True.intro | omega | simp | (simp; omega) | (simp +contextual; omega)) rfl ?_
    refine AOpsO.one tok [2] (by intro C; conv => lhs; simp) (by first | with_reducible exact True.intro | omega | simp | (simp; omega) | (simp +contextual; omega)) rfl ?_
    refine AOpsO.nil ?_
    exact AW.ret ⟨.inr rfl, _, _, by (conv => lhs; simp), trivial, by simp [wordM, h7]⟩
def kays (n : Nat) : List UInt8 := List.replicate n 107
def namedS (l : List (List UInt8)) (i : Nat) : List UInt8 := if h : i < l.length then wordM l[i] else kays (i - l.length + 1)
def addM (out : List (List UInt8)) (s : List UInt8) : List (List UInt8) := if s ∈ out then out else out ++ [s]
def namedGo (l : List (List UInt8)) (many : Nat) : Nat → Nat → List (List UInt8) → List (List UInt8)
  | 0, _, out => out
  | f + 1, i, out => if out.length < many then namedGo l many f (i + 1) (addM out (namedS l i)) else out
def namedM (l : List (List UInt8)) (many : Nat) : List (List UInt8) := namedGo l many (l.length + many + 1) 0 []
theorem nodup_le {α : Type} [DecidableEq α] : ∀ {l m : List α}, l.Nodup → (∀ x ∈ l, x ∈ m) → l.length ≤ m.length
  | [], m, _, _ => by simp
  | a :: l, m, hn, hs => by
    have ha := hs a (by simp)
    have hn' := List.nodup_cons.1 hn
    have := nodup_le (l := l) (m := m.erase a) hn'.2 fun x hx => (List.mem_erase_of_ne (by rintro rfl; exact hn'.1 hx)).2 (hs x (by simp [hx]))
    rw [List.length_erase_of_mem ha] at this
    have := List.length_pos_of_mem ha
    simp; omega
theorem kays_in {out : List (List UInt8)} {n : Nat} (h : ∀ t, 1 ≤ t → t ≤ n → kays t ∈ out) : n ≤ out.length := by
  have hs : ((List.range n).map fun t => kays (t + 1)).Nodup := by
    unfold List.Nodup
    refine List.Pairwise.map _ (fun a b hab => ?_) List.nodup_range
    intro he; have := congrArg List.length he; simp [kays] at this; exact hab this
  have := nodup_le hs (m := out) (by
    intro x hx; obtain ⟨t, ht, rfl⟩ := List.mem_map.1 hx
    simp at ht; exact h _ (by omega) (by omega))
  simpa using this
theorem namedGo_end {l : List (List UInt8)} {many : Nat} {out : List (List UInt8)} (h : ¬ out.length < many) : ∀ f i, namedGo l many f i out = out
  | 0, _ => rfl
  | f + 1, i => by simp only [namedGo]; rw [if_neg h]
theorem named_ev (l : List (List UInt8)) (many : Nat) (hl : l.length ≤ 140737488351232) (hm : many ≤ 100000) : AFn Tryd.prog G 17 [.sl 1 (l.map PD.str), .int .i64 many] (.sl 1 ((namedM l many).map PD.str)) := by
  refine AFn.introU tok Tryd.func17 (by kernel_rfl) rfl rfl ?_
  simp only [Tryd.f17, enumA, List.map_cons, List.map_nil]
  have hw := fun s => word_ev (G := G) s
  refine AW.seqRegionO [] ?_
  refine AOpsO.one tok [0, 1] (by intro C; conv => lhs; simp) (by first | with_reducible exact True.intro | omega | simp | (simp; omega) | (simp +contextual; omega)) rfl ?_
  refine AOpsO.nil ?_
  refine AW.seqRegionO [] ?_
  refine AOpsO.one tok [0, 1, 11] (by intro C; conv => lhs; simp) (by first | with_reducible exact True.intro | omega | simp | (simp; omega) | (simp +contextual; omega)) rfl ?_
  refine AOpsO.one tok [0, 1, 5] (by intro C; conv => lhs; simp) (by first | with_reducible exact True.intro | omega | simp | (simp; omega) | (simp +contextual; omega)) rfl ?_
  refine AOpsO.nil ?_
  refine AW.seqRegionO [] ?_
  refine AOpsO.one tok [0, 1, 5, 6] (by intro C; conv => lhs; simp) (by first | with_reducible exact True.intro | omega | simp | (simp; omega) | (simp +contextual; omega)) rfl ?_
  refine AOpsO.nil ?_
  refine AW.seq ?_
  refine AW.seqRegionO [] ?_
  refine AOpsO.one tok [0, 1, 5, 6, 7] (by intro C; conv => lhs; simp) (by first | with_reducible exact True.intro | omega | simp | (simp; omega) | (simp +contextual; omega)) rfl ?_
  refine AOpsO.nil ?_
  refine AW.block ?_
  refine AW.loop (α := Nat × List (List UInt8)) (fun a => a.1 ≤ l.length + many ∧ namedM l many = namedGo l many (l.length + many + 1 - a.1) a.1 a.2 ∧ a.2.length ≤ many ∧ (∀ t, 1 ≤ t → t + l.length ≤ a.1 → kays t ∈ a.2)) (fun a => ⟨upds 52 [(0, .p (.sl 1 (l.map PD.str))), (1, .p (.int .i64 many)), (5, .ms 11), (6, .p (.str (kays (a.1 - l.length + 1)))), (7, .p (.int .i64 a.1))], [], [(11, .row 9 1 (a.2.map PD.str))], 0⟩) (fun a => l.length + many - a.1) ((0, [])) ⟨by simp, rfl, by simp, by intro t h1 h2; simp at h2; omega⟩ ⟨upds_le (by simp [kays]), rfl, by simp, by simp⟩ ?_
  rintro ⟨i, out⟩ ⟨hi, hn, ho, hk⟩
  simp only at hi hn ho hk
  have hkl : i - l.length ≤ out.length := kays_in fun t h1 h2 => hk t h1 (by omega)
  refine AW.seq ?_
  refine AW.seqRegionO [] ?_
  refine AOpsO.one tok [0, 1, 5, 6, 7, 12] (by intro C; conv => lhs; simp) (by first | with_reducible exact True.intro | omega | simp | (simp; omega) | (simp +contextual; omega)) rfl ?_
  refine AOpsO.one tok [0, 1, 5, 6, 7, 13] (by intro C; conv => lhs; simp) (by first | with_reducible exact True.intro | omega | simp | (simp; omega) | (simp +contextual; omega)) rfl ?_
  refine AOpsO.one tok [0, 1, 5, 6, 7, 13, 14] (by intro C; conv => lhs; simp) (by first | with_reducible exact True.intro | omega | simp | (simp; omega) | (simp +contextual; omega)) rfl ?_
  refine AOpsO.one tok [0, 1, 5, 6, 7, 15] (by intro C; conv => lhs; simp) (by first | with_reducible exact True.intro | omega | simp | (simp; omega) | (simp +contextual; omega)) rfl ?_
  refine AOpsO.nil ?_
  refine AW.cond (c := .tmp 15) (by conv => lhs; simp) trivial ?_ ?_
  · intro h15
    try simp at h15
    have hstep : namedM l many = namedGo l many (l.length + many + 1 - (i + 1)) (i + 1) (addM out (namedS l i)) := by
      rw [hn, show l.length + many + 1 - i = (l.length + many + 1 - (i + 1)) + 1 by omega]; simp only [namedGo]; rw [if_pos h15]
    refine AW.skip ?_
    refine AW.seq ?_
    refine AW.block ?_
    refine AW.seqRegionO [] ?_
    refine AOpsO.one tok [0, 1, 5, 6, 7, 18] (by intro C; conv => lhs; simp) (by first | with_reducible exact True.intro | omega | simp | (simp; omega) | (simp +contextual; omega)) rfl ?_
    refine AOpsO.one tok [0, 1, 5, 6, 7, 8] (by intro C; conv => lhs; simp) (by first | with_reducible exact True.intro | omega | simp | (simp; omega) | (simp +contextual; omega)) rfl ?_
    refine AOpsO.nil ?_
    refine AW.join (α := Unit) (fun _ => True) (fun a => ⟨upds 52 [(0, .p (.sl 1 (l.map PD.str))), (1, .p (.int .i64 many)), (5, .ms 11), (6, .p (.str (kays (i + 1 - l.length + 1)))), (7, .p (.int .i64 i)), (8, .p (.str (namedS l i)))], [], [(11, .row 9 1 (out.map PD.str))], 0⟩) ?_ ?_
    ·
      refine AW.seqRegionO [] ?_
      refine AOpsO.one tok [0, 1, 5, 6, 7, 8, 19] (by intro C; conv => lhs; simp) (by first | with_reducible exact True.intro | omega | simp | (simp; omega) | (simp +contextual; omega)) rfl ?_
      refine AOpsO.one tok [0, 1, 5, 6, 7, 8, 19, 20] (by intro C; conv => lhs; simp) (by first | with_reducible exact True.intro | omega | simp | (simp; omega) | (simp +contextual; omega)) rfl ?_
      refine AOpsO.one tok [0, 1, 5, 6, 7, 8, 19, 21] (by intro C; conv => lhs; simp) (by first | with_reducible exact True.intro | omega | simp | (simp; omega) | (simp +contextual; omega)) rfl ?_
      refine AOpsO.one tok [0, 1, 5, 6, 7, 8, 22] (by intro C; conv => lhs; simp) (by first | with_reducible exact True.intro | omega | simp | (simp; omega) | (simp +contextual; omega)) rfl ?_
      refine AOpsO.nil ?_
      refine AW.cond (c := .tmp 22) (by conv => lhs; simp) trivial ?_ ?_
      · intro h22
        try simp at h22
        have hs : namedS l i = wordM l[i] := by simp [namedS, h22]
        have hsl := wordM_len l[i]
        refine AW.regionO [.str l[i], .nilp, .str (wordM l[i])] ?_
        refine AOpsO.one tok [0, 1, 5, 6, 7, 23] (by intro C; conv => lhs; simp) (by first | with_reducible exact True.intro | (simp [hw, h22]; done) | omega | simp | (simp; omega) | (simp +contextual; omega)) rfl ?_
        refine AOpsO.one tok [0, 1, 5, 6, 7, 23, 24] (by intro C; conv => lhs; simp) (by first | with_reducible exact True.intro | (simp [hw, h22]; done) | omega | simp | (simp; omega) | (simp +contextual; omega)) rfl ?_
        refine AOpsO.one tok [0, 1, 5, 6, 7, 25] (by intro C; conv => lhs; simp) (by first | with_reducible exact True.intro | (simp [hw, h22]; done) | omega | simp | (simp; omega) | (simp +contextual; omega)) rfl ?_
        refine AOpsO.one tok [0, 1, 5, 6, 7, 26] (by intro C; conv => lhs; simp) (by first | with_reducible exact True.intro | (simp [hw, h22]; done) | omega | simp | (simp; omega) | (simp +contextual; omega)) rfl ?_
        refine AOpsO.one tok [0, 1, 5, 6, 7, 27] (by intro C; conv => lhs; simp) (by first | with_reducible exact True.intro | (simp [hw, h22]; done) | omega | simp | (simp; omega) | (simp +contextual; omega)) rfl ?_
        refine AOpsO.one tok [0, 1, 5, 6, 7, 8] (by intro C; conv => lhs; simp) (by first | with_reducible exact True.intro | (simp [hw, h22]; done) | omega | simp | (simp; omega) | (simp +contextual; omega)) rfl ?_
        refine AOpsO.nil ?_
        exact ⟨(), trivial, upds_le (by simp [hs, show i + 1 - l.length = i - l.length from by omega]), rfl, by simp [hs, show i + 1 - l.length = i - l.length from by omega], by simp [hs, show i + 1 - l.length = i - l.length from by omega]⟩
      · intro h22
        try simp at h22
        have hs : namedS l i = kays (i - l.length + 1) := by simp [namedS]; omega
        refine AW.regionO [] ?_
        refine AOpsO.one tok [0, 1, 5, 7, 8, 28] (by intro C; conv => lhs; simp) (by first | with_reducible exact True.intro | (simp [kays]; omega; done) | omega | simp | (simp; omega) | (simp +contextual; omega)) rfl ?_
        refine AOpsO.one tok [0, 1, 5, 7, 8, 29] (by intro C; conv => lhs; simp) (by first | with_reducible exact True.intro | (simp [kays]; omega; done) | omega | simp | (simp; omega) | (simp +contextual; omega)) rfl ?_
        refine AOpsO.one tok [0, 1, 5, 6, 7, 8] (by intro C; conv => lhs; simp) (by first | with_reducible exact True.intro | (simp [kays]; omega; done) | omega | simp | (simp; omega) | (simp +contextual; omega)) rfl ?_
        refine AOpsO.nil ?_
        exact ⟨(), trivial, upds_le (by simp [hs, show i + 1 - l.length + 1 = i - l.length + 1 + 1 from by omega, kays, List.replicate_succ']), rfl, by simp [hs, show i + 1 - l.length + 1 = i - l.length + 1 + 1 from by omega, kays, List.replicate_succ'], by simp [hs, show i + 1 - l.length + 1 = i - l.length + 1 + 1 from by omega, kays, List.replicate_succ']⟩
    ·
      rintro a hI
      generalize hns : namedS l i = s at *
      have hkay : ∀ t, 1 ≤ t → t + l.length ≤ i + 1 → kays t ∈ addM out s := by
        intro t h1 h2
        by_cases h3 : t + l.length ≤ i
        · have := hk t h1 h3
          unfold addM; split
          · exact this
          · simp [this]
        · have : kays t = s := by rw [← hns]; simp only [namedS]; rw [dif_neg (by omega)]; congr 1; omega
          rw [this]; unfold addM; split
          · assumption
          · simp
      refine AW.seqRegionO [] ?_
      refine AOpsO.one tok [0, 1, 5, 6, 7, 8, 9] (by intro C; conv => lhs; simp) (by first | with_reducible exact True.intro | omega | simp | (simp; omega) | (simp +contextual; omega)) rfl ?_
      refine AOpsO.nil ?_
      refine AW.seq ?_
      refine AW.seqRegionO [] ?_
      refine AOpsO.one tok [0, 1, 5, 6, 7, 8, 9, 10] (by intro C; conv => lhs; simp) (by first | with_reducible exact True.intro | omega | simp | (simp; omega) | (simp +contextual; omega)) rfl ?_
      refine AOpsO.nil ?_
      refine AW.block ?_
      refine AW.loop (α := Nat) (fun k => k ≤ out.length) (fun k => ⟨upds 52 [(0, .p (.sl 1 (l.map PD.str))), (1, .p (.int .i64 many)), (5, .ms 11), (6, .p (.str (kays (i + 1 - l.length + 1)))), (7, .p (.int .i64 i)), (8, .p (.str s)), (9, .p (.bool (decide (s ∈ out.take k)))), (10, .p (.int .i64 k))], [], [(11, .row 9 1 (out.map PD.str))], 0⟩) (fun k => out.length - k) (0) (by omega) ⟨upds_le (by simp), rfl, by simp, by simp⟩ ?_
      rintro k hko
      refine AW.seq ?_
      refine AW.seqRegionO [] ?_
      refine AOpsO.one tok [0, 1, 5, 6, 7, 8, 9, 10, 30] (by intro C; conv => lhs; simp) (by first | with_reducible exact True.intro | omega | simp | (simp; omega) | (simp +contextual; omega)) rfl ?_
      refine AOpsO.one tok [0, 1, 5, 6, 7, 8, 9, 10, 30, 31] (by intro C; conv => lhs; simp) (by first | with_reducible exact True.intro | omega | simp | (simp; omega) | (simp +contextual; omega)) rfl ?_
      refine AOpsO.one tok [0, 1, 5, 6, 7, 8, 9, 10, 30, 32] (by intro C; conv => lhs; simp) (by first | with_reducible exact True.intro | omega | simp | (simp; omega) | (simp +contextual; omega)) rfl ?_
      refine AOpsO.one tok [0, 1, 5, 6, 7, 8, 9, 10, 33] (by intro C; conv => lhs; simp) (by first | with_reducible exact True.intro | omega | simp | (simp; omega) | (simp +contextual; omega)) rfl ?_
      refine AOpsO.nil ?_
      refine AW.cond (c := .tmp 33) (by conv => lhs; simp) trivial ?_ ?_
      · intro h33
        try simp at h33
        have hsn : (decide (s ∈ out.take k) || decide (out[k] = s)) = decide (s ∈ out.take (k + 1)) := by
          rw [List.take_succ_eq_append_getElem h33, Bool.eq_iff_iff]; simp only [Bool.or_eq_true, decide_eq_true_eq, List.mem_append, List.mem_singleton]; exact ⟨fun h => h.imp id Eq.symm, fun h => h.imp id Eq.symm⟩
        refine AW.skip ?_
        refine AW.seq ?_
        refine AW.block ?_
        refine AW.regionO [.str out[k]] ?_
        refine AOpsO.one tok [0, 1, 5, 6, 7, 8, 10, 36] (by intro C; conv => lhs; simp) (by first | with_reducible exact True.intro | (simp [h33]; done) | omega | simp | (simp; omega) | (simp +contextual; omega)) rfl ?_
        refine AOpsO.one tok [0, 1, 5, 6, 7, 8, 10, 37] (by intro C; conv => lhs; simp) (by first | with_reducible exact True.intro | (simp [h33]; done) | omega | simp | (simp; omega) | (simp +contextual; omega)) rfl ?_
        refine AOpsO.oneIf tok [0, 1, 5, 6, 7, 8, 10, 37, 38] 37 (by intro C; conv => lhs; simp) (by first | with_reducible exact True.intro | (simp [h33]; done) | omega | simp | (simp; omega) | (simp +contextual; omega)) rfl rfl ?_
        refine AOpsO.oneIf tok [0, 1, 5, 6, 7, 8, 10, 37, 38, 39] 37 (by intro C; conv => lhs; simp) (by first | with_reducible exact True.intro | (simp [h33]; done) | omega | simp | (simp; omega) | (simp +contextual; omega)) rfl rfl ?_
        refine AOpsO.oneIf tok [0, 1, 5, 6, 7, 8, 10, 37, 40] 37 (by intro C; conv => lhs; simp) (by first | with_reducible exact True.intro | (simp [h33]; done) | omega | simp | (simp; omega) | (simp +contextual; omega)) rfl rfl ?_
        refine AOpsO.oneIf tok [0, 1, 5, 6, 7, 8, 10, 37, 41] 37 (by intro C; conv => lhs; simp) (by first | with_reducible exact True.intro | (simp [h33]; done) | omega | simp | (simp; omega) | (simp +contextual; omega)) rfl rfl ?_
        refine AOpsO.oneIf tok [0, 1, 5, 6, 7, 8, 10, 37, 41, 42] 37 (by intro C; conv => lhs; simp) (by first | with_reducible exact True.intro | (simp [h33]; done) | omega | simp | (simp; omega) | (simp +contextual; omega)) rfl rfl ?_
        refine AOpsO.oneIf tok [0, 1, 5, 6, 7, 8, 10, 37, 43] 37 (by intro C; conv => lhs; simp) (by first | with_reducible exact True.intro | (simp [h33]; done) | omega | simp | (simp; omega) | (simp +contextual; omega)) rfl rfl ?_
        refine AOpsO.one tok [0, 1, 5, 6, 7, 8, 10, 44] (by intro C; conv => lhs; simp) (by first | with_reducible exact True.intro | (simp [h33]; done) | omega | simp | (simp; omega) | (simp +contextual; omega)) rfl ?_
        refine AOpsO.one tok [0, 1, 5, 6, 7, 8, 9, 10] (by intro C; conv => lhs; simp) (by first | with_reducible exact True.intro | (simp [h33]; done) | omega | simp | (simp; omega) | (simp +contextual; omega)) rfl ?_
        refine AOpsO.nil ?_
        refine AW.regionO [] ?_
        refine AOpsO.one tok [0, 1, 5, 6, 7, 8, 9, 34] (by intro C; conv => lhs; simp) (by first | with_reducible exact True.intro | omega | simp | (simp; omega) | (simp +contextual; omega)) rfl ?_
        refine AOpsO.one tok [0, 1, 5, 6, 7, 8, 9, 35] (by intro C; conv => lhs; simp) (by first | with_reducible exact True.intro | omega | simp | (simp; omega) | (simp +contextual; omega)) rfl ?_
        refine AOpsO.one tok [0, 1, 5, 6, 7, 8, 9, 10] (by intro C; conv => lhs; simp) (by first | with_reducible exact True.intro | omega | simp | (simp; omega) | (simp +contextual; omega)) rfl ?_
        refine AOpsO.nil ?_
        exact ⟨k + 1, by omega, by omega, upds_le (by simp [hsn]), rfl, by simp [hsn], by simp [hsn]⟩
      · intro h33
        try simp at h33
        have hkk : k = out.length := by omega
        subst hkk
        simp only [List.take_length]
        refine AW.exit ?_
        simp
        refine AW.seqRegionO [] ?_
        refine AOpsO.one tok [0, 1, 5, 6, 7, 8, 45] (by intro C; conv => lhs; simp) (by first | with_reducible exact True.intro | omega | simp | (simp; omega) | (simp +contextual; omega)) rfl ?_
        refine AOpsO.one tok [0, 1, 5, 6, 7, 8, 46] (by intro C; conv => lhs; simp) (by first | with_reducible exact True.intro | omega | simp | (simp; omega) | (simp +contextual; omega)) rfl ?_
        refine AOpsO.nil ?_
        refine AW.cond (c := .tmp 46) (by conv => lhs; simp) trivial ?_ ?_
        · intro h46
          try simp at h46
          have had : addM out s = out ++ [s] := by unfold addM; rw [if_neg h46]
          rw [had] at hstep hkay
          refine AW.regionO [.str s] ?_
          refine AOpsO.one tok [0, 1, 6, 7, 8, 47] (by intro C; conv => lhs; simp) (by first | with_reducible exact True.intro | omega | simp | (simp; omega) | (simp +contextual; omega)) rfl ?_
          refine AOpsO.one tok [0, 1, 6, 7, 47, 48] (by intro C; conv => lhs; simp) (by first | with_reducible exact True.intro | omega | simp | (simp; omega) | (simp +contextual; omega)) rfl ?_
          refine AOpsO.one tok [0, 1, 6, 7, 47, 49] (by intro C; conv => lhs; simp) (by first | with_reducible exact True.intro | omega | simp | (simp; omega) | (simp +contextual; omega)) rfl ?_
          refine AOpsO.one tok [0, 1, 6, 7, 50] (by intro C; conv => lhs; simp) (by first | with_reducible exact True.intro | omega | simp | (simp; omega) | (simp +contextual; omega)) rfl ?_
          refine AOpsO.one tok [0, 1, 5, 6, 7] (by intro C; conv => lhs; simp) (by first | with_reducible exact True.intro | omega | simp | (simp; omega) | (simp +contextual; omega)) rfl ?_
          refine AOpsO.nil ?_
          refine AW.regionO [] ?_
          refine AOpsO.one tok [0, 1, 5, 6, 16] (by intro C; conv => lhs; simp) (by first | with_reducible exact True.intro | omega | simp | (simp; omega) | (simp +contextual; omega)) rfl ?_
          refine AOpsO.one tok [0, 1, 5, 6, 17] (by intro C; conv => lhs; simp) (by first | with_reducible exact True.intro | omega | simp | (simp; omega) | (simp +contextual; omega)) rfl ?_
          refine AOpsO.one tok [0, 1, 5, 6, 7] (by intro C; conv => lhs; simp) (by first | with_reducible exact True.intro | omega | simp | (simp; omega) | (simp +contextual; omega)) rfl ?_
          refine AOpsO.nil ?_
          exact ⟨i + 1, out ++ [s], ⟨by omega, hstep, by simp; omega, hkay⟩, by omega, upds_le (by simp), rfl, by simp, by simp⟩
        · intro h46
          try simp at h46
          have had : addM out s = out := by unfold addM; rw [if_pos h46]
          rw [had] at hstep hkay
          refine AW.skip ?_
          refine AW.regionO [] ?_
          refine AOpsO.one tok [0, 1, 5, 6, 16] (by intro C; conv => lhs; simp) (by first | with_reducible exact True.intro | omega | simp | (simp; omega) | (simp +contextual; omega)) rfl ?_
          refine AOpsO.one tok [0, 1, 5, 6, 17] (by intro C; conv => lhs; simp) (by first | with_reducible exact True.intro | omega | simp | (simp; omega) | (simp +contextual; omega)) rfl ?_
          refine AOpsO.one tok [0, 1, 5, 6, 7] (by intro C; conv => lhs; simp) (by first | with_reducible exact True.intro | omega | simp | (simp; omega) | (simp +contextual; omega)) rfl ?_
          refine AOpsO.nil ?_
          exact ⟨i + 1, out, ⟨by omega, hstep, by omega, hkay⟩, by omega, upds_le (by simp), rfl, by simp, by simp⟩
  · intro h15
    try simp at h15
    have hn2 : namedM l many = out := by rw [hn]; exact namedGo_end (by omega) _ _
    refine AW.exit ?_
    simp
    refine AW.seqRegionO [] ?_
    refine AOpsO.one tok [51] (by intro C; conv => lhs; simp) (by first | with_reducible exact True.intro | omega | simp | (simp; omega) | (simp +contextual; omega)) rfl ?_
    refine AOpsO.one tok [4] (by intro C; conv => lhs; simp) (by first | with_reducible exact True.intro | omega | simp | (simp; omega) | (simp +contextual; omega)) rfl ?_
    refine AOpsO.nil ?_
    exact AW.ret ⟨.inr rfl, _, _, by (conv => lhs; simp), trivial, by simp [hn2]⟩
end Go.Proofs.YtgoepemmcibdaaaDoor
namespace Go.Proofs.YtgoepemmcibdaaaDoor
open Sy Go
set_option maxRecDepth 100000
set_option maxHeartbeats 4000000
set_option linter.unusedSimpArgs false
set_option linter.unusedVariables false
variable {G : Glob}

@[simp] def Val.cells (v : Val) : List V := [.p (.int .i64 v.kind), .p (.int .u64 v.mask), .p (.bool v.num.neg), .p (.str v.num.digits), .p (.int .i64 v.num.scale), .p (.str v.text), .p (.sl 1 (v.keys.map PD.str)), .p (.sl 9 (v.kids.map Val.enc)), .p (.int .i64 v.code)]
theorem Valid_ev (hG : U8 G) (s : List UInt8) : AFn Tryd.prog G 59 [.str s] (.bool (Lib.validD s)) := by
  refine AFn.introU tok Tryd.func59 (by kernel_rfl) rfl rfl ?_
  simp only [Tryd.f59, enumA, List.map_cons, List.map_nil]
  refine AW.seqRegionO [] ?_
  refine AOpsO.one tok [0] (by intro C; conv => lhs; simp) (by first | with_reducible exact True.intro | omega | simp | (simp; omega) | (simp +contextual; omega)) rfl ?_
  refine AOpsO.nil ?_
  refine AW.seqRegionO [.nilp, .bool (Lib.validD s)] ?_
  refine AOpsO.one tok [3] (by intro C; conv => lhs; simp) (by first | with_reducible exact True.intro | (exact ValidString_ev hG s; done) | omega | simp | (simp; omega) | (simp +contextual; omega)) rfl ?_
  refine AOpsO.one tok [4] (by intro C; conv => lhs; simp) (by first | with_reducible exact True.intro | (exact ValidString_ev hG s; done) | omega | simp | (simp; omega) | (simp +contextual; omega)) rfl ?_
  refine AOpsO.one tok [2] (by intro C; conv => lhs; simp) (by first | with_reducible exact True.intro | (exact ValidString_ev hG s; done) | omega | simp | (simp; omega) | (simp +contextual; omega)) rfl ?_
  refine AOpsO.nil ?_
  exact AW.ret ⟨.inr rfl, _, _, by (conv => lhs; simp), trivial, by simp⟩
def wordT (s : List UInt8) : Bool := decide ((s.length : Int) ≤ 4096) && Lib.validD s
theorem wordT_ev (hG : U8 G) (s : List UInt8) : AFn Tryd.prog G 41 [.str s] (.bool (wordT s)) := by
  refine AFn.introU tok Tryd.func41 (by kernel_rfl) rfl rfl ?_
  simp only [Tryd.f41, enumA, List.map_cons, List.map_nil]
  refine AW.seqRegionO [] ?_
  refine AOpsO.one tok [0] (by intro C; conv => lhs; simp) (by first | with_reducible exact True.intro | omega | simp | (simp; omega) | (simp +contextual; omega)) rfl ?_
  refine AOpsO.nil ?_
  refine AW.seqRegionO [.nilp, .bool (Lib.validD s)] ?_
  refine AOpsO.one tok [0, 3] (by intro C; conv => lhs; simp) (by first | with_reducible exact True.intro | (((repeat' (first | with_reducible apply And.intro | intro _)) <;> first | exact (Valid_ev hG s) | assumption | omega | contradiction | simp_all); done) | omega | simp | (simp; omega) | (simp +contextual; omega)) rfl ?_
  refine AOpsO.one tok [0, 4] (by intro C; conv => lhs; simp) (by first | with_reducible exact True.intro | (((repeat' (first | with_reducible apply And.intro | intro _)) <;> first | exact (Valid_ev hG s) | assumption | omega | contradiction | simp_all); done) | omega | simp | (simp; omega) | (simp +contextual; omega)) rfl ?_
  refine AOpsO.one tok [0, 5] (by intro C; conv => lhs; simp) (by first | with_reducible exact True.intro | (((repeat' (first | with_reducible apply And.intro | intro _)) <;> first | exact (Valid_ev hG s) | assumption | omega | contradiction | simp_all); done) | omega | simp | (simp; omega) | (simp +contextual; omega)) rfl ?_
  refine AOpsO.one tok [0, 6] (by intro C; conv => lhs; simp) (by first | with_reducible exact True.intro | (((repeat' (first | with_reducible apply And.intro | intro _)) <;> first | exact (Valid_ev hG s) | assumption | omega | contradiction | simp_all); done) | omega | simp | (simp; omega) | (simp +contextual; omega)) rfl ?_
  refine AOpsO.oneIf tok [6, 7] 6 (by intro C; conv => lhs; simp) (by first | with_reducible exact True.intro | (((repeat' (first | with_reducible apply And.intro | intro _)) <;> first | exact (Valid_ev hG s) | assumption | omega | contradiction | simp_all); done) | omega | simp | (simp; omega) | (simp +contextual; omega)) rfl rfl ?_
  refine AOpsO.oneIf tok [6, 8] 6 (by intro C; conv => lhs; simp) (by first | with_reducible exact True.intro | (((repeat' (first | with_reducible apply And.intro | intro _)) <;> first | exact (Valid_ev hG s) | assumption | omega | contradiction | simp_all); done) | omega | simp | (simp; omega) | (simp +contextual; omega)) rfl rfl ?_
  refine AOpsO.one tok [9] (by intro C; conv => lhs; simp) (by first | with_reducible exact True.intro | (((repeat' (first | with_reducible apply And.intro | intro _)) <;> first | exact (Valid_ev hG s) | assumption | omega | contradiction | simp_all); done) | omega | simp | (simp; omega) | (simp +contextual; omega)) rfl ?_
  refine AOpsO.one tok [2] (by intro C; conv => lhs; simp) (by first | with_reducible exact True.intro | (((repeat' (first | with_reducible apply And.intro | intro _)) <;> first | exact (Valid_ev hG s) | assumption | omega | contradiction | simp_all); done) | omega | simp | (simp; omega) | (simp +contextual; omega)) rfl ?_
  refine AOpsO.nil ?_
  exact AW.ret ⟨.inr rfl, _, _, by (conv => lhs; simp), trivial, by simp [wordT]⟩
theorem refText_ev (s : List UInt8) : AFn Tryd.prog G 22 [.str s] (.bool (wordT s)) := by
  refine AFn.introU tok Tryd.func22 (by kernel_rfl) rfl rfl ?_
  simp only [Tryd.f22, enumA, List.map_cons, List.map_nil]
  refine AW.seqRegionO [] ?_
  refine AOpsO.one tok [0] (by intro C; conv => lhs; simp) (by first | with_reducible exact True.intro | omega | simp | (simp; omega) | (simp +contextual; omega)) rfl ?_
  refine AOpsO.nil ?_
  refine AW.seqRegionO [.nilp, .bool (Lib.validD s)] ?_
  refine AOpsO.one tok [0, 3] (by intro C; conv => lhs; simp) (by first | with_reducible exact True.intro | (((repeat' (first | with_reducible apply And.intro | intro _)) <;> first | exact (by rw [valid_eq]; exact refValid_ev s (by omega)) | assumption | omega | contradiction | simp_all); done) | omega | simp | (simp; omega) | (simp +contextual; omega)) rfl ?_
  refine AOpsO.one tok [0, 4] (by intro C; conv => lhs; simp) (by first | with_reducible exact True.intro | (((repeat' (first | with_reducible apply And.intro | intro _)) <;> first | exact (by rw [valid_eq]; exact refValid_ev s (by omega)) | assumption | omega | contradiction | simp_all); done) | omega | simp | (simp; omega) | (simp +contextual; omega)) rfl ?_
  refine AOpsO.one tok [0, 5] (by intro C; conv => lhs; simp) (by first | with_reducible exact True.intro | (((repeat' (first | with_reducible apply And.intro | intro _)) <;> first | exact (by rw [valid_eq]; exact refValid_ev s (by omega)) | assumption | omega | contradiction | simp_all); done) | omega | simp | (simp; omega) | (simp +contextual; omega)) rfl ?_
  refine AOpsO.one tok [0, 6] (by intro C; conv => lhs; simp) (by first | with_reducible exact True.intro | (((repeat' (first | with_reducible apply And.intro | intro _)) <;> first | exact (by rw [valid_eq]; exact refValid_ev s (by omega)) | assumption | omega | contradiction | simp_all); done) | omega | simp | (simp; omega) | (simp +contextual; omega)) rfl ?_
  refine AOpsO.oneIf tok [6, 7] 6 (by intro C; conv => lhs; simp) (by first | with_reducible exact True.intro | (((repeat' (first | with_reducible apply And.intro | intro _)) <;> first | exact (by rw [valid_eq]; exact refValid_ev s (by omega)) | assumption | omega | contradiction | simp_all); done) | omega | simp | (simp; omega) | (simp +contextual; omega)) rfl rfl ?_
  refine AOpsO.oneIf tok [6, 8] 6 (by intro C; conv => lhs; simp) (by first | with_reducible exact True.intro | (((repeat' (first | with_reducible apply And.intro | intro _)) <;> first | exact (by rw [valid_eq]; exact refValid_ev s (by omega)) | assumption | omega | contradiction | simp_all); done) | omega | simp | (simp; omega) | (simp +contextual; omega)) rfl rfl ?_
  refine AOpsO.one tok [9] (by intro C; conv => lhs; simp) (by first | with_reducible exact True.intro | (((repeat' (first | with_reducible apply And.intro | intro _)) <;> first | exact (by rw [valid_eq]; exact refValid_ev s (by omega)) | assumption | omega | contradiction | simp_all); done) | omega | simp | (simp; omega) | (simp +contextual; omega)) rfl ?_
  refine AOpsO.one tok [2] (by intro C; conv => lhs; simp) (by first | with_reducible exact True.intro | (((repeat' (first | with_reducible apply And.intro | intro _)) <;> first | exact (by rw [valid_eq]; exact refValid_ev s (by omega)) | assumption | omega | contradiction | simp_all); done) | omega | simp | (simp; omega) | (simp +contextual; omega)) rfl ?_
  refine AOpsO.nil ?_
  exact AW.ret ⟨.inr rfl, _, _, by (conv => lhs; simp), trivial, by simp [wordT]⟩
def keysT (l : List (List UInt8)) : Bool := l.all wordT && decide l.Nodup
theorem keysT_bad {l : List (List UInt8)} {k : Nat} {s : List UInt8} (h : l[k]? = some s) (hb : wordT s = false ∨ s ∈ l.take k) : keysT l = false := by
  unfold keysT
  rcases hb with hb | hb
  · rw [List.all_eq_false.2 ⟨s, List.mem_of_getElem? h, by simp [hb]⟩]; rfl
  · have : ¬ l.Nodup := fun hn => by
      obtain ⟨j, hj, hjs⟩ := List.mem_iff_getElem.1 hb
      have hk := (List.getElem?_eq_some_iff.1 h)
      rw [List.getElem_take] at hjs
      have hjk : j < k := by simp at hj; omega
      exact (List.pairwise_iff_getElem.1 hn) j k (by simp at hj; omega) hk.1 hjk (by rw [hjs, hk.2])
    simp [this]
theorem keysT_take {l : List (List UInt8)} {k : Nat} {s : List UInt8} (h : l[k]? = some s) (h1 : keysT (l.take k) = true) (h2 : wordT s = true) (h3 : s ∉ l.take k) : keysT (l.take (k + 1)) = true := by
  unfold keysT at h1 ⊢
  rw [List.take_add_one, h]
  simp only [Bool.and_eq_true, decide_eq_true_eq] at h1 ⊢
  refine ⟨by rw [List.all_append, h1.1]; simp [h2], ?_⟩
  rw [List.nodup_append]
  exact ⟨h1.2, by simp, by intro a ha b hb; simp at hb; subst hb; rintro rfl; exact h3 ha⟩
theorem keysT_ev (hG : U8 G) (l : List (List UInt8)) : AFn Tryd.prog G 42 [.sl 1 (l.map PD.str)] (.bool (keysT l)) := by
  refine AFn.introU tok Tryd.func42 (by kernel_rfl) rfl rfl ?_
  simp only [Tryd.f42, enumA, List.map_cons, List.map_nil]
  refine AW.seqRegionO [] ?_
  refine AOpsO.one tok [0] (by intro C; conv => lhs; simp) (by first | with_reducible exact True.intro | omega | simp | (simp; omega) | (simp +contextual; omega)) rfl ?_
  refine AOpsO.nil ?_
  refine AW.seqRegionO [] ?_
  refine AOpsO.one tok [0, 6] (by intro C; conv => lhs; simp) (by first | with_reducible exact True.intro | omega | simp | (simp; omega) | (simp +contextual; omega)) rfl ?_
  refine AOpsO.one tok [0, 3] (by intro C; conv => lhs; simp) (by first | with_reducible exact True.intro | omega | simp | (simp; omega) | (simp +contextual; omega)) rfl ?_
  refine AOpsO.nil ?_
  refine AW.seq ?_
  refine AW.seqRegionO [] ?_
  refine AOpsO.one tok [3, 7] (by intro C; conv => lhs; simp) (by first | with_reducible exact True.intro | omega | simp | (simp; omega) | (simp +contextual; omega)) rfl ?_
  refine AOpsO.one tok [3, 7, 8] (by intro C; conv => lhs; simp) (by first | with_reducible exact True.intro | omega | simp | (simp; omega) | (simp +contextual; omega)) rfl ?_
  refine AOpsO.one tok [3, 7, 8, 9] (by intro C; conv => lhs; simp) (by first | with_reducible exact True.intro | omega | simp | (simp; omega) | (simp +contextual; omega)) rfl ?_
  refine AOpsO.nil ?_
  refine AW.block ?_
  refine AW.intFactU (i := 8) rfl (by decide) ?_; intro hlen; simp at hlen
  refine AW.loop (α := Nat) (fun k => k ≤ l.length ∧ keysT (l.take k) = true) (fun k => ⟨upds 24 [(3, .ms 6), (7, .p (.sl 1 (l.map PD.str))), (8, .p (.int .i64 l.length)), (9, .p (.int .i64 k))], [], [(6, .mp (l.take k) (List.replicate k (.p (.bool true))))], 0⟩) (fun k => l.length - k) (0) ⟨by omega, rfl⟩ ⟨upds_le (by simp), rfl, by simp, by simp⟩ ?_
  rintro k ⟨hk, hall⟩
  refine AW.seqRegionO [] ?_
  refine AOpsO.one tok [3, 7, 8, 9, 10] (by intro C; conv => lhs; simp) (by first | with_reducible exact True.intro | omega | simp | (simp; omega) | (simp +contextual; omega)) rfl ?_
  refine AOpsO.nil ?_
  refine AW.seq ?_
  refine AW.cond (c := .tmp 10) (by conv => lhs; simp) trivial ?_ ?_
  · intro h10
    try simp at h10
    obtain ⟨s, hs⟩ : ∃ s, l[k]? = some s := ⟨l[k], by simp [h10]⟩
    have hlt : (l.take k).length = k := by simp; omega
    have hin : ∀ i : Nat, (l.take k)[i]? = some s → (List.replicate k (V.p (.bool true)))[i]? = some (.p (.bool (decide (s ∈ l.take k)))) := by
      intro i hi
      have h1 := (List.getElem?_eq_some_iff.1 hi).1
      rw [decide_eq_true (List.mem_of_getElem? hi), List.getElem?_replicate, if_pos (by rw [hlt] at h1; exact h1)]
    refine AW.skip ?_
    refine AW.seq ?_
    refine AW.block ?_
    refine AW.seqRegionO [.str s] ?_
    refine AOpsO.one tok [3, 7, 8, 9, 11] (by intro C; conv => lhs; simp) (by first | with_reducible exact True.intro | (simp [hs]; done) | omega | simp | (simp; omega) | (simp +contextual; omega)) rfl ?_
    refine AOpsO.one tok [3, 7, 8, 9, 12] (by intro C; conv => lhs; simp) (by first | with_reducible exact True.intro | (simp [hs]; done) | omega | simp | (simp; omega) | (simp +contextual; omega)) rfl ?_
    refine AOpsO.one tok [3, 5, 7, 8, 9] (by intro C; conv => lhs; simp) (by first | with_reducible exact True.intro | (simp [hs]; done) | omega | simp | (simp; omega) | (simp +contextual; omega)) rfl ?_
    refine AOpsO.nil ?_
    refine AW.seq ?_
    refine AW.seqRegionO [.nilp, .bool (wordT s), .bool (decide (s ∈ l.take k))] ?_
    refine AOpsO.one tok [3, 5, 7, 8, 9, 13] (by intro C; conv => lhs; simp) (by first | with_reducible exact True.intro | (((repeat' (first | with_reducible apply And.intro | intro _)) <;> first | exact (wordT_ev hG s) | exact (hin) | assumption | omega | contradiction | simp_all); done) | omega | simp | (simp; omega) | (simp +contextual; omega)) rfl ?_
    refine AOpsO.one tok [3, 5, 7, 8, 9, 14] (by intro C; conv => lhs; simp) (by first | with_reducible exact True.intro | (((repeat' (first | with_reducible apply And.intro | intro _)) <;> first | exact (wordT_ev hG s) | exact (hin) | assumption | omega | contradiction | simp_all); done) | omega | simp | (simp; omega) | (simp +contextual; omega)) rfl ?_
    refine AOpsO.one tok [3, 5, 7, 8, 9, 15] (by intro C; conv => lhs; simp) (by first | with_reducible exact True.intro | (((repeat' (first | with_reducible apply And.intro | intro _)) <;> first | exact (wordT_ev hG s) | exact (hin) | assumption | omega | contradiction | simp_all); done) | omega | simp | (simp; omega) | (simp +contextual; omega)) rfl ?_
    refine AOpsO.one tok [3, 5, 7, 8, 9, 16] (by intro C; conv => lhs; simp) (by first | with_reducible exact True.intro | (((repeat' (first | with_reducible apply And.intro | intro _)) <;> first | exact (wordT_ev hG s) | exact (hin) | assumption | omega | contradiction | simp_all); done) | omega | simp | (simp; omega) | (simp +contextual; omega)) rfl ?_
    refine AOpsO.oneIf tok [3, 5, 7, 8, 9, 16, 17] 16 (by intro C; conv => lhs; simp) (by first | with_reducible exact True.intro | (((repeat' (first | with_reducible apply And.intro | intro _)) <;> first | exact (wordT_ev hG s) | exact (hin) | assumption | omega | contradiction | simp_all); done) | omega | simp | (simp; omega) | (simp +contextual; omega)) rfl rfl ?_
    refine AOpsO.oneIf tok [3, 5, 7, 8, 9, 16, 17, 18] 16 (by intro C; conv => lhs; simp) (by first | with_reducible exact True.intro | (((repeat' (first | with_reducible apply And.intro | intro _)) <;> first | exact (wordT_ev hG s) | exact (hin) | assumption | omega | contradiction | simp_all); done) | omega | simp | (simp; omega) | (simp +contextual; omega)) rfl rfl ?_
    refine AOpsO.oneIf tok [3, 5, 7, 8, 9, 16, 19] 16 (by intro C; conv => lhs; simp) (by first | with_reducible exact True.intro | (((repeat' (first | with_reducible apply And.intro | intro _)) <;> first | exact (wordT_ev hG s) | exact (hin) | assumption | omega | contradiction | simp_all); done) | omega | simp | (simp; omega) | (simp +contextual; omega)) rfl rfl ?_
    refine AOpsO.one tok [3, 5, 7, 8, 9, 20] (by intro C; conv => lhs; simp) (by first | with_reducible exact True.intro | (((repeat' (first | with_reducible apply And.intro | intro _)) <;> first | exact (wordT_ev hG s) | exact (hin) | assumption | omega | contradiction | simp_all); done) | omega | simp | (simp; omega) | (simp +contextual; omega)) rfl ?_
    refine AOpsO.nil ?_
    refine AW.cond (c := .tmp 20) (by conv => lhs; simp) trivial ?_ ?_
    · intro h20
      try simp at h20
      have hb : keysT l = false := keysT_bad hs (by simpa using h20)
      refine AW.seqRegionO [] ?_
      refine AOpsO.one tok [2] (by intro C; conv => lhs; simp) (by first | with_reducible exact True.intro | omega | simp | (simp; omega) | (simp +contextual; omega)) rfl ?_
      refine AOpsO.nil ?_
      exact AW.ret ⟨.inr rfl, _, _, by (conv => lhs; simp), trivial, by simp [hb]⟩
    · intro h20
      try simp at h20
      refine AW.skip ?_
      refine AW.regionO [] ?_
      refine AOpsO.one tok [3, 5, 7, 8, 9, 21] (by intro C; conv => lhs; simp) (by first | with_reducible exact True.intro | (exact h20.2; done) | omega | simp | (simp; omega) | (simp +contextual; omega)) rfl ?_
      refine AOpsO.one tok [3, 7, 8, 9, 21, 22] (by intro C; conv => lhs; simp) (by first | with_reducible exact True.intro | (exact h20.2; done) | omega | simp | (simp; omega) | (simp +contextual; omega)) rfl ?_
      refine AOpsO.one tok [3, 7, 8, 9] (by intro C; conv => lhs; simp) (by first | with_reducible exact True.intro | (exact h20.2; done) | omega | simp | (simp; omega) | (simp +contextual; omega)) rfl ?_
      refine AOpsO.nil ?_
      refine AW.regionO [] ?_
      refine AOpsO.one tok [3, 7, 8, 23] (by intro C; conv => lhs; simp) (by first | with_reducible exact True.intro | omega | simp | (simp; omega) | (simp +contextual; omega)) rfl ?_
      refine AOpsO.one tok [3, 7, 8, 9] (by intro C; conv => lhs; simp) (by first | with_reducible exact True.intro | omega | simp | (simp; omega) | (simp +contextual; omega)) rfl ?_
      refine AOpsO.nil ?_
      exact ⟨k + 1, ⟨by omega, keysT_take hs hall h20.1 h20.2⟩, by omega, upds_le (by simp [show l.take (k + 1) = l.take k ++ [s] from by (rw [List.take_add_one, hs]; rfl), List.replicate_succ']), rfl, by simp [show l.take (k + 1) = l.take k ++ [s] from by (rw [List.take_add_one, hs]; rfl), List.replicate_succ'], by simp [show l.take (k + 1) = l.take k ++ [s] from by (rw [List.take_add_one, hs]; rfl), List.replicate_succ']⟩
  · intro h10
    try simp at h10
    rw [List.take_of_length_le h10] at hall
    refine AW.exit ?_
    simp
    refine AW.seqRegionO [] ?_
    refine AOpsO.one tok [2] (by intro C; conv => lhs; simp) (by first | with_reducible exact True.intro | omega | simp | (simp; omega) | (simp +contextual; omega)) rfl ?_
    refine AOpsO.nil ?_
    exact AW.ret ⟨.inr rfl, _, _, by (conv => lhs; simp), trivial, by simp [hall]⟩
theorem refKeys_ev (l : List (List UInt8)) : AFn Tryd.prog G 23 [.sl 1 (l.map PD.str)] (.bool (keysT l)) := by
  refine AFn.introU tok Tryd.func23 (by kernel_rfl) rfl rfl ?_
  simp only [Tryd.f23, enumA, List.map_cons, List.map_nil]
  refine AW.seqRegionO [] ?_
  refine AOpsO.one tok [0] (by intro C; conv => lhs; simp) (by first | with_reducible exact True.intro | omega | simp | (simp; omega) | (simp +contextual; omega)) rfl ?_
  refine AOpsO.nil ?_
  refine AW.seq ?_
  refine AW.seqRegionO [] ?_
  refine AOpsO.one tok [0, 3] (by intro C; conv => lhs; simp) (by first | with_reducible exact True.intro | omega | simp | (simp; omega) | (simp +contextual; omega)) rfl ?_
  refine AOpsO.nil ?_
  refine AW.block ?_
  refine AW.slFactU (i := 0) rfl (by decide) ?_; intro hlen; simp at hlen
  refine AW.loop (α := Nat) (fun k => k ≤ l.length ∧ keysT (l.take k) = true) (fun k => ⟨upds 31 [(0, .p (.sl 1 (l.map PD.str))), (3, .p (.int .i64 k))], [], [], 0⟩) (fun k => l.length - k) (0) ⟨by omega, rfl⟩ ⟨upds_le (by simp), rfl, by simp, by simp⟩ ?_
  rintro k ⟨hk, hall⟩
  refine AW.seq ?_
  refine AW.seqRegionO [] ?_
  refine AOpsO.one tok [0, 3, 5] (by intro C; conv => lhs; simp) (by first | with_reducible exact True.intro | omega | simp | (simp; omega) | (simp +contextual; omega)) rfl ?_
  refine AOpsO.one tok [0, 3, 5, 6] (by intro C; conv => lhs; simp) (by first | with_reducible exact True.intro | omega | simp | (simp; omega) | (simp +contextual; omega)) rfl ?_
  refine AOpsO.one tok [0, 3, 5, 7] (by intro C; conv => lhs; simp) (by first | with_reducible exact True.intro | omega | simp | (simp; omega) | (simp +contextual; omega)) rfl ?_
  refine AOpsO.one tok [0, 3, 8] (by intro C; conv => lhs; simp) (by first | with_reducible exact True.intro | omega | simp | (simp; omega) | (simp +contextual; omega)) rfl ?_
  refine AOpsO.nil ?_
  refine AW.cond (c := .tmp 8) (by conv => lhs; simp) trivial ?_ ?_
  · intro h8
    try simp at h8
    obtain ⟨s, hs⟩ : ∃ s, l[k]? = some s := ⟨l[k], by simp [h8]⟩
    refine AW.skip ?_
    refine AW.seq ?_
    refine AW.block ?_
    refine AW.seq ?_
    refine AW.seqRegionO [.str s, .nilp, .bool (wordT s)] ?_
    refine AOpsO.one tok [0, 3, 11] (by intro C; conv => lhs; simp) (by first | with_reducible exact True.intro | (((repeat' (first | with_reducible apply And.intro | intro _)) <;> first | exact (refText_ev s) | exact (⟨_, hs, rfl⟩) | assumption | omega | contradiction | simp_all); done) | omega | simp | (simp; omega) | (simp +contextual; omega)) rfl ?_
    refine AOpsO.one tok [0, 3, 11, 12] (by intro C; conv => lhs; simp) (by first | with_reducible exact True.intro | (((repeat' (first | with_reducible apply And.intro | intro _)) <;> first | exact (refText_ev s) | exact (⟨_, hs, rfl⟩) | assumption | omega | contradiction | simp_all); done) | omega | simp | (simp; omega) | (simp +contextual; omega)) rfl ?_
    refine AOpsO.one tok [0, 3, 13] (by intro C; conv => lhs; simp) (by first | with_reducible exact True.intro | (((repeat' (first | with_reducible apply And.intro | intro _)) <;> first | exact (refText_ev s) | exact (⟨_, hs, rfl⟩) | assumption | omega | contradiction | simp_all); done) | omega | simp | (simp; omega) | (simp +contextual; omega)) rfl ?_
    refine AOpsO.one tok [0, 3, 14] (by intro C; conv => lhs; simp) (by first | with_reducible exact True.intro | (((repeat' (first | with_reducible apply And.intro | intro _)) <;> first | exact (refText_ev s) | exact (⟨_, hs, rfl⟩) | assumption | omega | contradiction | simp_all); done) | omega | simp | (simp; omega) | (simp +contextual; omega)) rfl ?_
    refine AOpsO.one tok [0, 3, 15] (by intro C; conv => lhs; simp) (by first | with_reducible exact True.intro | (((repeat' (first | with_reducible apply And.intro | intro _)) <;> first | exact (refText_ev s) | exact (⟨_, hs, rfl⟩) | assumption | omega | contradiction | simp_all); done) | omega | simp | (simp; omega) | (simp +contextual; omega)) rfl ?_
    refine AOpsO.one tok [0, 3, 16] (by intro C; conv => lhs; simp) (by first | with_reducible exact True.intro | (((repeat' (first | with_reducible apply And.intro | intro _)) <;> first | exact (refText_ev s) | exact (⟨_, hs, rfl⟩) | assumption | omega | contradiction | simp_all); done) | omega | simp | (simp; omega) | (simp +contextual; omega)) rfl ?_
    refine AOpsO.nil ?_
    refine AW.cond (c := .tmp 16) (by conv => lhs; simp) trivial ?_ ?_
    · intro h16
      try simp at h16
      have hb : keysT l = false := keysT_bad hs (.inl (by simpa using h16))
      refine AW.seqRegionO [] ?_
      refine AOpsO.one tok [2] (by intro C; conv => lhs; simp) (by first | with_reducible exact True.intro | omega | simp | (simp; omega) | (simp +contextual; omega)) rfl ?_
      refine AOpsO.nil ?_
      exact AW.ret ⟨.inr rfl, _, _, by (conv => lhs; simp), trivial, by simp [hb]⟩
    · intro h16
      try simp at h16
      refine AW.skip ?_
      refine AW.seqRegionO [] ?_
      refine AOpsO.one tok [0, 3, 4] (by intro C; conv => lhs; simp) (by first | with_reducible exact True.intro | omega | simp | (simp; omega) | (simp +contextual; omega)) rfl ?_
      refine AOpsO.nil ?_
      refine AW.block ?_
      refine AW.loop (α := Nat) (fun j => j ≤ k ∧ s ∉ l.take j) (fun j => ⟨upds 31 [(0, .p (.sl 1 (l.map PD.str))), (3, .p (.int .i64 k)), (4, .p (.int .i64 j))], [], [], 0⟩) (fun j => k - j) (0) ⟨by omega, by simp⟩ ⟨upds_le (by simp), rfl, by simp, by simp⟩ ?_
      rintro j ⟨hj, hno⟩
      refine AW.seq ?_
      refine AW.seqRegionO [] ?_
      refine AOpsO.one tok [0, 3, 4, 17] (by intro C; conv => lhs; simp) (by first | with_reducible exact True.intro | omega | simp | (simp; omega) | (simp +contextual; omega)) rfl ?_
      refine AOpsO.one tok [0, 3, 4, 17, 18] (by intro C; conv => lhs; simp) (by first | with_reducible exact True.intro | omega | simp | (simp; omega) | (simp +contextual; omega)) rfl ?_
      refine AOpsO.one tok [0, 3, 4, 19] (by intro C; conv => lhs; simp) (by first | with_reducible exact True.intro | omega | simp | (simp; omega) | (simp +contextual; omega)) rfl ?_
      refine AOpsO.nil ?_
      refine AW.cond (c := .tmp 19) (by conv => lhs; simp) trivial ?_ ?_
      · intro h19
        try simp at h19
        obtain ⟨x, hx⟩ : ∃ x, l[j]? = some x := ⟨l[j], by simp [show j < l.length by omega]⟩
        refine AW.skip ?_
        refine AW.seq ?_
        refine AW.block ?_
        refine AW.seqRunDrawK tok mixed [0, 3, 4, 30] 9 [[0], [4], [22, 23], [24], [0], [3], [26, 27], [28], [25, 29]] [.str x, .str s] [] (by kernel_rfl) (by intro C; conv => lhs; simp) (by simp [hs, hx]) (by simp [Sm.sum, Sm.foot, Sm.tch, Sm.refs]; kernel_rfl) (by intro C; conv => lhs; simp) (by first | with_reducible exact True.intro | omega | simp | (simp; omega) | (simp +contextual; omega)) ?_
        refine AW.cond (c := .tmp 30) (by conv => lhs; simp) trivial ?_ ?_
        · intro h30
          try simp at h30
          have hb : keysT l = false := keysT_bad hs (.inr (by rw [← h30]; exact List.mem_of_getElem? (i := j) (by rw [List.getElem?_take]; simp [h19, hx])))
          refine AW.seqRegionO [] ?_
          refine AOpsO.one tok [2] (by intro C; conv => lhs; simp) (by first | with_reducible exact True.intro | omega | simp | (simp; omega) | (simp +contextual; omega)) rfl ?_
          refine AOpsO.nil ?_
          exact AW.ret ⟨.inr rfl, _, _, by (conv => lhs; simp), trivial, by simp [hb]⟩
        · intro h30
          try simp at h30
          refine AW.skip ?_
          refine AW.regionO [] ?_
          refine AOpsO.one tok [0, 3, 20] (by intro C; conv => lhs; simp) (by first | with_reducible exact True.intro | omega | simp | (simp; omega) | (simp +contextual; omega)) rfl ?_
          refine AOpsO.one tok [0, 3, 21] (by intro C; conv => lhs; simp) (by first | with_reducible exact True.intro | omega | simp | (simp; omega) | (simp +contextual; omega)) rfl ?_
          refine AOpsO.one tok [0, 3, 4] (by intro C; conv => lhs; simp) (by first | with_reducible exact True.intro | omega | simp | (simp; omega) | (simp +contextual; omega)) rfl ?_
          refine AOpsO.nil ?_
          exact ⟨j + 1, ⟨by omega, by rw [List.take_add_one, hx]; simp; exact ⟨hno, fun e => h30 e.symm⟩⟩, by omega, upds_le (by simp), rfl, by simp, by simp⟩
      · intro h19
        try simp at h19
        have hjk : j = k := by omega
        subst hjk
        refine AW.exit ?_
        simp
        refine AW.regionO [] ?_
        refine AOpsO.one tok [0, 9] (by intro C; conv => lhs; simp) (by first | with_reducible exact True.intro | omega | simp | (simp; omega) | (simp +contextual; omega)) rfl ?_
        refine AOpsO.one tok [0, 10] (by intro C; conv => lhs; simp) (by first | with_reducible exact True.intro | omega | simp | (simp; omega) | (simp +contextual; omega)) rfl ?_
        refine AOpsO.one tok [0, 3] (by intro C; conv => lhs; simp) (by first | with_reducible exact True.intro | omega | simp | (simp; omega) | (simp +contextual; omega)) rfl ?_
        refine AOpsO.nil ?_
        exact ⟨j + 1, ⟨by omega, keysT_take hs hall h16 hno⟩, by omega, upds_le (by simp), rfl, by simp, by simp⟩
  · intro h8
    try simp at h8
    rw [List.take_of_length_le h8] at hall
    refine AW.exit ?_
    simp
    refine AW.seqRegionO [] ?_
    refine AOpsO.one tok [2] (by intro C; conv => lhs; simp) (by first | with_reducible exact True.intro | omega | simp | (simp; omega) | (simp +contextual; omega)) rfl ?_
    refine AOpsO.nil ?_
    exact AW.ret ⟨.inr rfl, _, _, by (conv => lhs; simp), trivial, by simp [hall]⟩
end Go.Proofs.YtgoepemmcibdaaaDoor
namespace Go.Proofs.YtgoepemmcibdaaaDoor
open Sy Go
set_option maxRecDepth 100000
set_option maxHeartbeats 4000000
set_option linter.unusedSimpArgs false
set_option linter.unusedVariables false
variable {G : Glob}

def numT (v : Val) : Bool := if v.kind = 4 then dcMay v.num else decide (v.num.neg = false ∧ v.num.digits = [] ∧ v.num.scale = 0)
def textT (v : Val) : Bool := if v.kind = 5 then wordT v.text else decide (v.text = [])
def namedT (v : Val) : Bool := if v.kind = 7 then decide ((v.keys.length : Int) = v.kids.length) && keysT v.keys else decide (v.keys = [])
def kidsT (v : Val) : Bool := decide (v.kids = []) || decide (v.kind = 6) || decide (v.kind = 7)
def codeT (v : Val) : Bool := decide (decide (v.kind = 8) = !decide (v.code = 0))
def partsT (v : Val) : Bool := codeT v && numT v && textT v && namedT v && kidsT v
def boundsT (v : Val) : Bool := decide (1 ≤ v.kind ∧ v.kind ≤ 8 ∧ v.kids.length ≤ 200)
mutual
/-- May a value be? -/
def mayT : Val → Bool
  | .mk k m n t ks vs c => boundsT (.mk k m n t ks vs c) && partsT (.mk k m n t ks vs c) && mayTL vs
def mayTL : List Val → Bool
  | [] => true
  | v :: vs => mayT v && mayTL vs
end
theorem mayTL_all : ∀ l, mayTL l = l.all mayT
  | [] => by simp [mayTL]
  | v :: vs => by simp [mayTL, mayTL_all vs]
theorem mayT_eq (v : Val) : mayT v = (boundsT v && partsT v && v.kids.all mayT) := by
  cases v; simp only [mayT, mayTL_all, Val.kids]
theorem len0 {α : Type} {l : List α} : ((l.length : Int) = 0) = (l = []) := by rw [← List.length_eq_zero_iff]; exact propext (by omega)
theorem partsT_ev (hG : U8 G) (v : Val) : AFn Tryd.prog G 18 [v.enc] (.bool (partsT v)) := by
  refine AFn.introU tok Tryd.func18 (by kernel_rfl) rfl rfl ?_
  simp only [Tryd.f18, enumA, List.map_cons, List.map_nil]
  have hd := dcMay_ev (G := G) v.num
  have hw := wordT_ev hG v.text
  have hk := keysT_ev hG v.keys
  refine AW.seqRegionO [] ?_
  refine AOpsO.one tok [1] (by intro C; conv => lhs; simp) (by first | with_reducible exact True.intro | omega | simp | (simp; omega) | (simp +contextual; omega)) rfl ?_
  refine AOpsO.one tok [1] (by intro C; conv => lhs; simp) (by first | with_reducible exact True.intro | omega | simp | (simp; omega) | (simp +contextual; omega)) rfl ?_
  refine AOpsO.nil ?_
  refine AW.seqRegionO [] ?_
  refine AOpsO.one tok [1, 4] (by intro C; conv => lhs; simp) (by first | with_reducible exact True.intro | omega | simp | (simp; omega) | (simp +contextual; omega)) rfl ?_
  refine AOpsO.one tok [1, 5] (by intro C; conv => lhs; simp) (by first | with_reducible exact True.intro | omega | simp | (simp; omega) | (simp +contextual; omega)) rfl ?_
  refine AOpsO.one tok [1, 6] (by intro C; conv => lhs; simp) (by first | with_reducible exact True.intro | omega | simp | (simp; omega) | (simp +contextual; omega)) rfl ?_
  refine AOpsO.one tok [1, 6, 7] (by intro C; conv => lhs; simp) (by first | with_reducible exact True.intro | omega | simp | (simp; omega) | (simp +contextual; omega)) rfl ?_
  refine AOpsO.one tok [1, 6, 8] (by intro C; conv => lhs; simp) (by first | with_reducible exact True.intro | omega | simp | (simp; omega) | (simp +contextual; omega)) rfl ?_
  refine AOpsO.one tok [1, 6, 9] (by intro C; conv => lhs; simp) (by first | with_reducible exact True.intro | omega | simp | (simp; omega) | (simp +contextual; omega)) rfl ?_
  refine AOpsO.one tok [1, 10] (by intro C; conv => lhs; simp) (by first | with_reducible exact True.intro | omega | simp | (simp; omega) | (simp +contextual; omega)) rfl ?_
  refine AOpsO.one tok [1, 3] (by intro C; conv => lhs; simp) (by first | with_reducible exact True.intro | omega | simp | (simp; omega) | (simp +contextual; omega)) rfl ?_
  refine AOpsO.nil ?_
  refine AW.join (α := Unit) (fun _ => True) (fun a => ⟨upds 83 [(1, .ptr 1 0), (3, .p (.bool (codeT v && numT v)))], [], [(1, .vars 33 v.cells)], 0⟩) ?_ ?_
  ·
    refine AW.seqRegionO [] ?_
    refine AOpsO.one tok [1, 3, 11] (by intro C; conv => lhs; simp) (by first | with_reducible exact True.intro | omega | simp | (simp; omega) | (simp +contextual; omega)) rfl ?_
    refine AOpsO.one tok [1, 3, 12] (by intro C; conv => lhs; simp) (by first | with_reducible exact True.intro | omega | simp | (simp; omega) | (simp +contextual; omega)) rfl ?_
    refine AOpsO.one tok [1, 3, 13] (by intro C; conv => lhs; simp) (by first | with_reducible exact True.intro | omega | simp | (simp; omega) | (simp +contextual; omega)) rfl ?_
    refine AOpsO.nil ?_
    refine AW.cond (c := .tmp 13) (by conv => lhs; simp) trivial ?_ ?_
    · intro h13
      try simp at h13
      refine AW.regionO [.nilp, .bool (dcMay v.num)] ?_
      refine AOpsO.one tok [1, 14] (by intro C; conv => lhs; simp) (by first | with_reducible exact True.intro | (((repeat' (first | with_reducible apply And.intro | intro _)) <;> first | exact (hd) | assumption | omega | contradiction | simp_all); done) | omega | simp | (simp; omega) | (simp +contextual; omega)) rfl ?_
      refine AOpsO.one tok [1, 15] (by intro C; conv => lhs; simp) (by first | with_reducible exact True.intro | (((repeat' (first | with_reducible apply And.intro | intro _)) <;> first | exact (hd) | assumption | omega | contradiction | simp_all); done) | omega | simp | (simp; omega) | (simp +contextual; omega)) rfl ?_
      refine AOpsO.oneIf tok [1, 15, 16] 15 (by intro C; conv => lhs; simp) (by first | with_reducible exact True.intro | (((repeat' (first | with_reducible apply And.intro | intro _)) <;> first | exact (hd) | assumption | omega | contradiction | simp_all); done) | omega | simp | (simp; omega) | (simp +contextual; omega)) rfl rfl ?_
      refine AOpsO.oneIf tok [1, 15, 17] 15 (by intro C; conv => lhs; simp) (by first | with_reducible exact True.intro | (((repeat' (first | with_reducible apply And.intro | intro _)) <;> first | exact (hd) | assumption | omega | contradiction | simp_all); done) | omega | simp | (simp; omega) | (simp +contextual; omega)) rfl rfl ?_
      refine AOpsO.oneIf tok [1, 15, 18] 15 (by intro C; conv => lhs; simp) (by first | with_reducible exact True.intro | (((repeat' (first | with_reducible apply And.intro | intro _)) <;> first | exact (hd) | assumption | omega | contradiction | simp_all); done) | omega | simp | (simp; omega) | (simp +contextual; omega)) rfl rfl ?_
      refine AOpsO.one tok [1, 19] (by intro C; conv => lhs; simp) (by first | with_reducible exact True.intro | (((repeat' (first | with_reducible apply And.intro | intro _)) <;> first | exact (hd) | assumption | omega | contradiction | simp_all); done) | omega | simp | (simp; omega) | (simp +contextual; omega)) rfl ?_
      refine AOpsO.one tok [1, 3] (by intro C; conv => lhs; simp) (by first | with_reducible exact True.intro | (((repeat' (first | with_reducible apply And.intro | intro _)) <;> first | exact (hd) | assumption | omega | contradiction | simp_all); done) | omega | simp | (simp; omega) | (simp +contextual; omega)) rfl ?_
      refine AOpsO.nil ?_
      exact ⟨(), trivial, upds_le (by simp [codeT, numT, h13]), rfl, by simp [codeT, numT, h13], by simp [codeT, numT, h13]⟩
    · intro h13
      try simp at h13
      refine AW.regionO [] ?_
      refine AOpsO.one tok [1, 20] (by intro C; conv => lhs; simp) (by first | with_reducible exact True.intro | omega | simp | (simp; omega) | (simp +contextual; omega)) rfl ?_
      refine AOpsO.one tok [1, 21] (by intro C; conv => lhs; simp) (by first | with_reducible exact True.intro | omega | simp | (simp; omega) | (simp +contextual; omega)) rfl ?_
      refine AOpsO.oneIf tok [1, 21, 22] 21 (by intro C; conv => lhs; simp) (by first | with_reducible exact True.intro | omega | simp | (simp; omega) | (simp +contextual; omega)) rfl rfl ?_
      refine AOpsO.oneIf tok [1, 21, 23] 21 (by intro C; conv => lhs; simp) (by first | with_reducible exact True.intro | omega | simp | (simp; omega) | (simp +contextual; omega)) rfl rfl ?_
      refine AOpsO.oneIf tok [1, 21, 23, 24] 21 (by intro C; conv => lhs; simp) (by first | with_reducible exact True.intro | omega | simp | (simp; omega) | (simp +contextual; omega)) rfl rfl ?_
      refine AOpsO.oneIf tok [1, 21, 25] 21 (by intro C; conv => lhs; simp) (by first | with_reducible exact True.intro | omega | simp | (simp; omega) | (simp +contextual; omega)) rfl rfl ?_
      refine AOpsO.one tok [1, 26] (by intro C; conv => lhs; simp) (by first | with_reducible exact True.intro | omega | simp | (simp; omega) | (simp +contextual; omega)) rfl ?_
      refine AOpsO.one tok [1, 3] (by intro C; conv => lhs; simp) (by first | with_reducible exact True.intro | omega | simp | (simp; omega) | (simp +contextual; omega)) rfl ?_
      refine AOpsO.nil ?_
      exact ⟨(), trivial, upds_le (by simp [codeT, numT, h13]), rfl, by simp [codeT, numT, h13], by simp [codeT, numT, h13]⟩
  ·
    rintro a hI
    refine AW.join (α := Unit) (fun _ => True) (fun a => ⟨upds 83 [(1, .ptr 1 0), (3, .p (.bool (codeT v && numT v && textT v)))], [], [(1, .vars 33 v.cells)], 0⟩) ?_ ?_
    ·
      refine AW.seqRegionO [] ?_
      refine AOpsO.one tok [1, 3, 27] (by intro C; conv => lhs; simp) (by first | with_reducible exact True.intro | omega | simp | (simp; omega) | (simp +contextual; omega)) rfl ?_
      refine AOpsO.one tok [1, 3, 28] (by intro C; conv => lhs; simp) (by first | with_reducible exact True.intro | omega | simp | (simp; omega) | (simp +contextual; omega)) rfl ?_
      refine AOpsO.one tok [1, 3, 29] (by intro C; conv => lhs; simp) (by first | with_reducible exact True.intro | omega | simp | (simp; omega) | (simp +contextual; omega)) rfl ?_
      refine AOpsO.nil ?_
      refine AW.cond (c := .tmp 29) (by conv => lhs; simp) trivial ?_ ?_
      · intro h29
        try simp at h29
        refine AW.regionO [.nilp, .bool (wordT v.text)] ?_
        refine AOpsO.one tok [1, 30] (by intro C; conv => lhs; simp) (by first | with_reducible exact True.intro | (((repeat' (first | with_reducible apply And.intro | intro _)) <;> first | exact (hw) | assumption | omega | contradiction | simp_all); done) | omega | simp | (simp; omega) | (simp +contextual; omega)) rfl ?_
        refine AOpsO.one tok [1, 31] (by intro C; conv => lhs; simp) (by first | with_reducible exact True.intro | (((repeat' (first | with_reducible apply And.intro | intro _)) <;> first | exact (hw) | assumption | omega | contradiction | simp_all); done) | omega | simp | (simp; omega) | (simp +contextual; omega)) rfl ?_
        refine AOpsO.oneIf tok [1, 31, 32] 31 (by intro C; conv => lhs; simp) (by first | with_reducible exact True.intro | (((repeat' (first | with_reducible apply And.intro | intro _)) <;> first | exact (hw) | assumption | omega | contradiction | simp_all); done) | omega | simp | (simp; omega) | (simp +contextual; omega)) rfl rfl ?_
        refine AOpsO.oneIf tok [1, 31, 33] 31 (by intro C; conv => lhs; simp) (by first | with_reducible exact True.intro | (((repeat' (first | with_reducible apply And.intro | intro _)) <;> first | exact (hw) | assumption | omega | contradiction | simp_all); done) | omega | simp | (simp; omega) | (simp +contextual; omega)) rfl rfl ?_
        refine AOpsO.oneIf tok [1, 31, 34] 31 (by intro C; conv => lhs; simp) (by first | with_reducible exact True.intro | (((repeat' (first | with_reducible apply And.intro | intro _)) <;> first | exact (hw) | assumption | omega | contradiction | simp_all); done) | omega | simp | (simp; omega) | (simp +contextual; omega)) rfl rfl ?_
        refine AOpsO.one tok [1, 35] (by intro C; conv => lhs; simp) (by first | with_reducible exact True.intro | (((repeat' (first | with_reducible apply And.intro | intro _)) <;> first | exact (hw) | assumption | omega | contradiction | simp_all); done) | omega | simp | (simp; omega) | (simp +contextual; omega)) rfl ?_
        refine AOpsO.one tok [1, 3] (by intro C; conv => lhs; simp) (by first | with_reducible exact True.intro | (((repeat' (first | with_reducible apply And.intro | intro _)) <;> first | exact (hw) | assumption | omega | contradiction | simp_all); done) | omega | simp | (simp; omega) | (simp +contextual; omega)) rfl ?_
        refine AOpsO.nil ?_
        exact ⟨(), trivial, upds_le (by simp [textT, h29]), rfl, by simp [textT, h29], by simp [textT, h29]⟩
      · intro h29
        try simp at h29
        refine AW.regionO [] ?_
        refine AOpsO.one tok [1, 36] (by intro C; conv => lhs; simp) (by first | with_reducible exact True.intro | omega | simp | (simp; omega) | (simp +contextual; omega)) rfl ?_
        refine AOpsO.one tok [1, 37] (by intro C; conv => lhs; simp) (by first | with_reducible exact True.intro | omega | simp | (simp; omega) | (simp +contextual; omega)) rfl ?_
        refine AOpsO.oneIf tok [1, 37, 38] 37 (by intro C; conv => lhs; simp) (by first | with_reducible exact True.intro | omega | simp | (simp; omega) | (simp +contextual; omega)) rfl rfl ?_
        refine AOpsO.oneIf tok [1, 37, 39] 37 (by intro C; conv => lhs; simp) (by first | with_reducible exact True.intro | omega | simp | (simp; omega) | (simp +contextual; omega)) rfl rfl ?_
        refine AOpsO.oneIf tok [1, 37, 40] 37 (by intro C; conv => lhs; simp) (by first | with_reducible exact True.intro | omega | simp | (simp; omega) | (simp +contextual; omega)) rfl rfl ?_
        refine AOpsO.one tok [1, 41] (by intro C; conv => lhs; simp) (by first | with_reducible exact True.intro | omega | simp | (simp; omega) | (simp +contextual; omega)) rfl ?_
        refine AOpsO.one tok [1, 3] (by intro C; conv => lhs; simp) (by first | with_reducible exact True.intro | omega | simp | (simp; omega) | (simp +contextual; omega)) rfl ?_
        refine AOpsO.nil ?_
        exact ⟨(), trivial, upds_le (by simp [textT, h29]), rfl, by simp [textT, h29], by simp [textT, h29]⟩
    ·
      rintro a hI
      refine AW.seq ?_
      refine AW.seqRegionO [] ?_
      refine AOpsO.one tok [1, 3, 42] (by intro C; conv => lhs; simp) (by first | with_reducible exact True.intro | omega | simp | (simp; omega) | (simp +contextual; omega)) rfl ?_
      refine AOpsO.one tok [1, 3, 43] (by intro C; conv => lhs; simp) (by first | with_reducible exact True.intro | omega | simp | (simp; omega) | (simp +contextual; omega)) rfl ?_
      refine AOpsO.nil ?_
      refine AW.block ?_
      refine AW.seqRegionO [] ?_
      refine AOpsO.one tok [1, 3, 43, 45] (by intro C; conv => lhs; simp) (by first | with_reducible exact True.intro | omega | simp | (simp; omega) | (simp +contextual; omega)) rfl ?_
      refine AOpsO.one tok [1, 3, 43, 44] (by intro C; conv => lhs; simp) (by first | with_reducible exact True.intro | omega | simp | (simp; omega) | (simp +contextual; omega)) rfl ?_
      refine AOpsO.nil ?_
      refine AW.cond (c := .tmp 44) (by conv => lhs; simp) trivial ?_ ?_
      · intro h44
        try simp at h44
        refine AW.seqRegionO [.nilp, .bool (keysT v.keys)] ?_
        refine AOpsO.one tok [1, 46] (by intro C; conv => lhs; simp) (by first | with_reducible exact True.intro | (((repeat' (first | with_reducible apply And.intro | intro _)) <;> first | exact (hk) | assumption | omega | contradiction | simp_all); done) | omega | simp | (simp; omega) | (simp +contextual; omega)) rfl ?_
        refine AOpsO.one tok [1, 47] (by intro C; conv => lhs; simp) (by first | with_reducible exact True.intro | (((repeat' (first | with_reducible apply And.intro | intro _)) <;> first | exact (hk) | assumption | omega | contradiction | simp_all); done) | omega | simp | (simp; omega) | (simp +contextual; omega)) rfl ?_
        refine AOpsO.oneIf tok [1, 47, 48] 47 (by intro C; conv => lhs; simp) (by first | with_reducible exact True.intro | (((repeat' (first | with_reducible apply And.intro | intro _)) <;> first | exact (hk) | assumption | omega | contradiction | simp_all); done) | omega | simp | (simp; omega) | (simp +contextual; omega)) rfl rfl ?_
        refine AOpsO.oneIf tok [1, 47, 49] 47 (by intro C; conv => lhs; simp) (by first | with_reducible exact True.intro | (((repeat' (first | with_reducible apply And.intro | intro _)) <;> first | exact (hk) | assumption | omega | contradiction | simp_all); done) | omega | simp | (simp; omega) | (simp +contextual; omega)) rfl rfl ?_
        refine AOpsO.oneIf tok [1, 47, 50] 47 (by intro C; conv => lhs; simp) (by first | with_reducible exact True.intro | (((repeat' (first | with_reducible apply And.intro | intro _)) <;> first | exact (hk) | assumption | omega | contradiction | simp_all); done) | omega | simp | (simp; omega) | (simp +contextual; omega)) rfl rfl ?_
        refine AOpsO.oneIf tok [1, 47, 50, 51] 47 (by intro C; conv => lhs; simp) (by first | with_reducible exact True.intro | (((repeat' (first | with_reducible apply And.intro | intro _)) <;> first | exact (hk) | assumption | omega | contradiction | simp_all); done) | omega | simp | (simp; omega) | (simp +contextual; omega)) rfl rfl ?_
        refine AOpsO.oneIf tok [1, 47, 50, 52] 47 (by intro C; conv => lhs; simp) (by first | with_reducible exact True.intro | (((repeat' (first | with_reducible apply And.intro | intro _)) <;> first | exact (hk) | assumption | omega | contradiction | simp_all); done) | omega | simp | (simp; omega) | (simp +contextual; omega)) rfl rfl ?_
        refine AOpsO.oneIf tok [1, 47, 50, 53] 47 (by intro C; conv => lhs; simp) (by first | with_reducible exact True.intro | (((repeat' (first | with_reducible apply And.intro | intro _)) <;> first | exact (hk) | assumption | omega | contradiction | simp_all); done) | omega | simp | (simp; omega) | (simp +contextual; omega)) rfl rfl ?_
        refine AOpsO.oneIf tok [1, 47, 54] 47 (by intro C; conv => lhs; simp) (by first | with_reducible exact True.intro | (((repeat' (first | with_reducible apply And.intro | intro _)) <;> first | exact (hk) | assumption | omega | contradiction | simp_all); done) | omega | simp | (simp; omega) | (simp +contextual; omega)) rfl rfl ?_
        refine AOpsO.one tok [1, 55] (by intro C; conv => lhs; simp) (by first | with_reducible exact True.intro | (((repeat' (first | with_reducible apply And.intro | intro _)) <;> first | exact (hk) | assumption | omega | contradiction | simp_all); done) | omega | simp | (simp; omega) | (simp +contextual; omega)) rfl ?_
        refine AOpsO.one tok [1, 56] (by intro C; conv => lhs; simp) (by first | with_reducible exact True.intro | (((repeat' (first | with_reducible apply And.intro | intro _)) <;> first | exact (hk) | assumption | omega | contradiction | simp_all); done) | omega | simp | (simp; omega) | (simp +contextual; omega)) rfl ?_
        refine AOpsO.oneIf tok [56, 57] 56 (by intro C; conv => lhs; simp) (by first | with_reducible exact True.intro | (((repeat' (first | with_reducible apply And.intro | intro _)) <;> first | exact (hk) | assumption | omega | contradiction | simp_all); done) | omega | simp | (simp; omega) | (simp +contextual; omega)) rfl rfl ?_
        refine AOpsO.oneIf tok [56, 58] 56 (by intro C; conv => lhs; simp) (by first | with_reducible exact True.intro | (((repeat' (first | with_reducible apply And.intro | intro _)) <;> first | exact (hk) | assumption | omega | contradiction | simp_all); done) | omega | simp | (simp; omega) | (simp +contextual; omega)) rfl rfl ?_
        refine AOpsO.oneIf tok [56, 59] 56 (by intro C; conv => lhs; simp) (by first | with_reducible exact True.intro | (((repeat' (first | with_reducible apply And.intro | intro _)) <;> first | exact (hk) | assumption | omega | contradiction | simp_all); done) | omega | simp | (simp; omega) | (simp +contextual; omega)) rfl rfl ?_
        refine AOpsO.one tok [60] (by intro C; conv => lhs; simp) (by first | with_reducible exact True.intro | (((repeat' (first | with_reducible apply And.intro | intro _)) <;> first | exact (hk) | assumption | omega | contradiction | simp_all); done) | omega | simp | (simp; omega) | (simp +contextual; omega)) rfl ?_
        refine AOpsO.one tok [2] (by intro C; conv => lhs; simp) (by first | with_reducible exact True.intro | (((repeat' (first | with_reducible apply And.intro | intro _)) <;> first | exact (hk) | assumption | omega | contradiction | simp_all); done) | omega | simp | (simp; omega) | (simp +contextual; omega)) rfl ?_
        refine AOpsO.nil ?_
        exact AW.ret ⟨.inr rfl, _, _, by (conv => lhs; simp), trivial, by simp [partsT, namedT, kidsT, h44, Bool.and_assoc]⟩
      · intro h44
        try simp at h44
        refine AW.seqRegionO [] ?_
        refine AOpsO.one tok [1, 3, 62] (by intro C; conv => lhs; simp) (by first | with_reducible exact True.intro | omega | simp | (simp; omega) | (simp +contextual; omega)) rfl ?_
        refine AOpsO.one tok [1, 3, 61] (by intro C; conv => lhs; simp) (by first | with_reducible exact True.intro | omega | simp | (simp; omega) | (simp +contextual; omega)) rfl ?_
        refine AOpsO.nil ?_
        refine AW.cond (c := .tmp 61) (by conv => lhs; simp) trivial ?_ ?_
        · intro h61
          try simp at h61
          refine AW.seqRegionO [] ?_
          refine AOpsO.one tok [1, 63] (by intro C; conv => lhs; simp) (by first | with_reducible exact True.intro | omega | simp | (simp; omega) | (simp +contextual; omega)) rfl ?_
          refine AOpsO.one tok [1, 64] (by intro C; conv => lhs; simp) (by first | with_reducible exact True.intro | omega | simp | (simp; omega) | (simp +contextual; omega)) rfl ?_
          refine AOpsO.oneIf tok [64, 65] 64 (by intro C; conv => lhs; simp) (by first | with_reducible exact True.intro | omega | simp | (simp; omega) | (simp +contextual; omega)) rfl rfl ?_
          refine AOpsO.oneIf tok [64, 66] 64 (by intro C; conv => lhs; simp) (by first | with_reducible exact True.intro | omega | simp | (simp; omega) | (simp +contextual; omega)) rfl rfl ?_
          refine AOpsO.oneIf tok [64, 67] 64 (by intro C; conv => lhs; simp) (by first | with_reducible exact True.intro | omega | simp | (simp; omega) | (simp +contextual; omega)) rfl rfl ?_
          refine AOpsO.oneIf tok [64, 68] 64 (by intro C; conv => lhs; simp) (by first | with_reducible exact True.intro | omega | simp | (simp; omega) | (simp +contextual; omega)) rfl rfl ?_
          refine AOpsO.one tok [69] (by intro C; conv => lhs; simp) (by first | with_reducible exact True.intro | omega | simp | (simp; omega) | (simp +contextual; omega)) rfl ?_
          refine AOpsO.one tok [2] (by intro C; conv => lhs; simp) (by first | with_reducible exact True.intro | omega | simp | (simp; omega) | (simp +contextual; omega)) rfl ?_
          refine AOpsO.nil ?_
          exact AW.ret ⟨.inr rfl, _, _, by (conv => lhs; simp), trivial, by simp [partsT, namedT, kidsT, h44, h61, len0]⟩
        · intro h61
          try simp at h61
          refine AW.skip ?_
          refine AW.seqRegionO [] ?_
          refine AOpsO.one tok [1, 70] (by intro C; conv => lhs; simp) (by first | with_reducible exact True.intro | omega | simp | (simp; omega) | (simp +contextual; omega)) rfl ?_
          refine AOpsO.one tok [1, 71] (by intro C; conv => lhs; simp) (by first | with_reducible exact True.intro | omega | simp | (simp; omega) | (simp +contextual; omega)) rfl ?_
          refine AOpsO.oneIf tok [1, 71, 72] 71 (by intro C; conv => lhs; simp) (by first | with_reducible exact True.intro | omega | simp | (simp; omega) | (simp +contextual; omega)) rfl rfl ?_
          refine AOpsO.oneIf tok [1, 71, 73] 71 (by intro C; conv => lhs; simp) (by first | with_reducible exact True.intro | omega | simp | (simp; omega) | (simp +contextual; omega)) rfl rfl ?_
          refine AOpsO.oneIf tok [1, 71, 74] 71 (by intro C; conv => lhs; simp) (by first | with_reducible exact True.intro | omega | simp | (simp; omega) | (simp +contextual; omega)) rfl rfl ?_
          refine AOpsO.oneIf tok [1, 71, 75] 71 (by intro C; conv => lhs; simp) (by first | with_reducible exact True.intro | omega | simp | (simp; omega) | (simp +contextual; omega)) rfl rfl ?_
          refine AOpsO.one tok [1, 76] (by intro C; conv => lhs; simp) (by first | with_reducible exact True.intro | omega | simp | (simp; omega) | (simp +contextual; omega)) rfl ?_
          refine AOpsO.one tok [1, 77] (by intro C; conv => lhs; simp) (by first | with_reducible exact True.intro | omega | simp | (simp; omega) | (simp +contextual; omega)) rfl ?_
          refine AOpsO.oneIf tok [77, 78] 77 (by intro C; conv => lhs; simp) (by first | with_reducible exact True.intro | omega | simp | (simp; omega) | (simp +contextual; omega)) rfl rfl ?_
          refine AOpsO.oneIf tok [77, 79] 77 (by intro C; conv => lhs; simp) (by first | with_reducible exact True.intro | omega | simp | (simp; omega) | (simp +contextual; omega)) rfl rfl ?_
          refine AOpsO.oneIf tok [77, 80] 77 (by intro C; conv => lhs; simp) (by first | with_reducible exact True.intro | omega | simp | (simp; omega) | (simp +contextual; omega)) rfl rfl ?_
          refine AOpsO.oneIf tok [77, 81] 77 (by intro C; conv => lhs; simp) (by first | with_reducible exact True.intro | omega | simp | (simp; omega) | (simp +contextual; omega)) rfl rfl ?_
          refine AOpsO.one tok [82] (by intro C; conv => lhs; simp) (by first | with_reducible exact True.intro | omega | simp | (simp; omega) | (simp +contextual; omega)) rfl ?_
          refine AOpsO.one tok [2] (by intro C; conv => lhs; simp) (by first | with_reducible exact True.intro | omega | simp | (simp; omega) | (simp +contextual; omega)) rfl ?_
          refine AOpsO.nil ?_
          exact AW.ret ⟨.inr rfl, _, _, by (conv => lhs; simp), trivial, by simp [partsT, namedT, kidsT, h44, h61, len0]⟩
theorem indexV_ev (l : List Val) (g : FuncId) (p : Val → Bool) (hg : ∀ v ∈ l, AFn Tryd.prog G g [v.enc] (.bool (p v))) : AFn Tryd.prog G 43 [.sl 9 (l.map Val.enc), .fn g] (.int .i64 (match l.findIdx? p with | some i => (i : Int) | none => -1)) := by
  refine AFn.introU tok Tryd.func43 (by kernel_rfl) rfl rfl ?_
  simp only [Tryd.f43, enumA, List.map_cons, List.map_nil]
  refine AW.seqRegionO [] ?_
  refine AOpsO.one tok [0, 1] (by intro C; conv => lhs; simp) (by first | with_reducible exact True.intro | omega | simp | (simp; omega) | (simp +contextual; omega)) rfl ?_
  refine AOpsO.nil ?_
  refine AW.seq ?_
  refine AW.seqRegionO [] ?_
  refine AOpsO.one tok [0, 1, 6] (by intro C; conv => lhs; simp) (by first | with_reducible exact True.intro | omega | simp | (simp; omega) | (simp +contextual; omega)) rfl ?_
  refine AOpsO.one tok [0, 1, 7] (by intro C; conv => lhs; simp) (by first | with_reducible exact True.intro | omega | simp | (simp; omega) | (simp +contextual; omega)) rfl ?_
  refine AOpsO.one tok [0, 1, 7, 8] (by intro C; conv => lhs; simp) (by first | with_reducible exact True.intro | omega | simp | (simp; omega) | (simp +contextual; omega)) rfl ?_
  refine AOpsO.nil ?_
  refine AW.block ?_
  refine AW.intFactU (i := 7) rfl (by decide) ?_; intro hlen; simp at hlen
  refine AW.loop (α := Nat) (fun k => k ≤ l.length ∧ (l.take k).all (fun v => !p v) = true) (fun k => ⟨upds 19 [(0, .p (.sl 9 (l.map Val.enc))), (1, .p (.fn g)), (7, .p (.int .i64 l.length)), (8, .p (.int .i64 k))], [], [], 0⟩) (fun k => l.length - k) (0) ⟨by omega, rfl⟩ ⟨upds_le (by simp), rfl, by simp, by simp⟩ ?_
  rintro k ⟨hk, hall⟩
  refine AW.seqRegionO [] ?_
  refine AOpsO.one tok [0, 1, 7, 8, 9] (by intro C; conv => lhs; simp) (by first | with_reducible exact True.intro | omega | simp | (simp; omega) | (simp +contextual; omega)) rfl ?_
  refine AOpsO.nil ?_
  refine AW.seq ?_
  refine AW.cond (c := .tmp 9) (by conv => lhs; simp) trivial ?_ ?_
  · intro h9
    try simp at h9
    obtain ⟨v, hv⟩ : ∃ v, l[k]? = some v := ⟨l[k], by simp [h9]⟩
    have hgv := hg v (List.mem_of_getElem? hv)
    refine AW.skip ?_
    refine AW.seq ?_
    refine AW.block ?_
    refine AW.seqRegionO [] ?_
    refine AOpsO.one tok [0, 1, 7, 8, 10] (by intro C; conv => lhs; simp) (by first | with_reducible exact True.intro | omega | simp | (simp; omega) | (simp +contextual; omega)) rfl ?_
    refine AOpsO.one tok [0, 1, 5, 7, 8] (by intro C; conv => lhs; simp) (by first | with_reducible exact True.intro | omega | simp | (simp; omega) | (simp +contextual; omega)) rfl ?_
    refine AOpsO.nil ?_
    refine AW.seqRegionO [v.enc, .tup [v.enc], .bool (p v)] ?_
    refine AOpsO.one tok [0, 1, 5, 7, 8, 11] (by intro C; conv => lhs; simp) (by first | with_reducible exact True.intro | (first | (simp [hv]; done) | (simp at hgv ⊢; exact hgv); done) | omega | simp | (simp; omega) | (simp +contextual; omega)) rfl ?_
    refine AOpsO.one tok [0, 1, 5, 7, 8, 11, 12] (by intro C; conv => lhs; simp) (by first | with_reducible exact True.intro | (first | (simp [hv]; done) | (simp at hgv ⊢; exact hgv); done) | omega | simp | (simp; omega) | (simp +contextual; omega)) rfl ?_
    refine AOpsO.one tok [0, 1, 5, 7, 8, 11, 12, 13] (by intro C; conv => lhs; simp) (by first | with_reducible exact True.intro | (first | (simp [hv]; done) | (simp at hgv ⊢; exact hgv); done) | omega | simp | (simp; omega) | (simp +contextual; omega)) rfl ?_
    refine AOpsO.one tok [0, 1, 5, 7, 8, 11, 14] (by intro C; conv => lhs; simp) (by first | with_reducible exact True.intro | (first | (simp [hv]; done) | (simp at hgv ⊢; exact hgv); done) | omega | simp | (simp; omega) | (simp +contextual; omega)) rfl ?_
    refine AOpsO.one tok [0, 1, 5, 7, 8, 11, 15] (by intro C; conv => lhs; simp) (by first | with_reducible exact True.intro | (first | (simp [hv]; done) | (simp at hgv ⊢; exact hgv); done) | omega | simp | (simp; omega) | (simp +contextual; omega)) rfl ?_
    refine AOpsO.one tok [0, 1, 5, 7, 8, 16] (by intro C; conv => lhs; simp) (by first | with_reducible exact True.intro | (first | (simp [hv]; done) | (simp at hgv ⊢; exact hgv); done) | omega | simp | (simp; omega) | (simp +contextual; omega)) rfl ?_
    refine AOpsO.nil ?_
    refine AW.cond (c := .tmp 16) (by conv => lhs; simp) trivial ?_ ?_
    · intro h16
      try simp at h16
      have hf : l.findIdx? p = some k := by
        rw [List.findIdx?_eq_some_iff_getElem]
        have h9' := h9
        refine ⟨h9, ?_, fun j hj => ?_⟩
        · rw [List.getElem?_eq_getElem h9] at hv; cases hv; exact h16
        · have := List.all_eq_true.1 hall (l[j]'(by omega)) (List.mem_iff_getElem.2 ⟨j, by simp; omega, by simp⟩)
          simpa using this
      refine AW.seqRegionO [] ?_
      refine AOpsO.one tok [17] (by intro C; conv => lhs; simp) (by first | with_reducible exact True.intro | omega | simp | (simp; omega) | (simp +contextual; omega)) rfl ?_
      refine AOpsO.one tok [4] (by intro C; conv => lhs; simp) (by first | with_reducible exact True.intro | omega | simp | (simp; omega) | (simp +contextual; omega)) rfl ?_
      refine AOpsO.nil ?_
      exact AW.ret ⟨.inr rfl, _, _, by (conv => lhs; simp), trivial, by simp [hf]⟩
    · intro h16
      try simp at h16
      refine AW.skip ?_
      refine AW.regionO [] ?_
      refine AOpsO.one tok [0, 1, 7, 18] (by intro C; conv => lhs; simp) (by first | with_reducible exact True.intro | omega | simp | (simp; omega) | (simp +contextual; omega)) rfl ?_
      refine AOpsO.one tok [0, 1, 7, 8] (by intro C; conv => lhs; simp) (by first | with_reducible exact True.intro | omega | simp | (simp; omega) | (simp +contextual; omega)) rfl ?_
      refine AOpsO.nil ?_
      exact ⟨k + 1, ⟨by omega, by rw [List.take_add_one, hv, List.all_append, hall]; simpa using h16⟩, by omega, upds_le (by simp), rfl, by simp, by simp⟩
  · intro h9
    try simp at h9
    rw [List.take_of_length_le h9] at hall
    have hf : l.findIdx? p = none := by
      rw [List.findIdx?_eq_none_iff]; intro x hx; simpa using List.all_eq_true.1 hall x hx
    refine AW.exit ?_
    simp
    refine AW.seqRegionO [] ?_
    refine AOpsO.one tok [4] (by intro C; conv => lhs; simp) (by first | with_reducible exact True.intro | omega | simp | (simp; omega) | (simp +contextual; omega)) rfl ?_
    refine AOpsO.nil ?_
    exact AW.ret ⟨.inr rfl, _, _, by (conv => lhs; simp), trivial, by simp [hf]⟩
theorem containsV_ev (l : List Val) (g : FuncId) (p : Val → Bool) (hg : ∀ v ∈ l, AFn Tryd.prog G g [v.enc] (.bool (p v))) : AFn Tryd.prog G 19 [.sl 9 (l.map Val.enc), .fn g] (.bool (l.any p)) := by
  refine AFn.introU tok Tryd.func19 (by kernel_rfl) rfl rfl ?_
  simp only [Tryd.f19, enumA, List.map_cons, List.map_nil]
  have hi := indexV_ev l g p hg
  have ha : l.any p = decide (0 ≤ (match l.findIdx? p with | some i => (i : Int) | none => -1)) := by
    cases h : l.findIdx? p with
    | none => simp; intro x hx; simpa using List.findIdx?_eq_none_iff.1 h x hx
    | some i =>
      obtain ⟨h1, h2, _⟩ := List.findIdx?_eq_some_iff_getElem.1 h
      simp; exact ⟨_, List.getElem_mem h1, h2⟩
  rw [ha]
  generalize (match l.findIdx? p with | some i => (i : Int) | none => -1) = n at *
  refine AW.seqRegionO [] ?_
  refine AOpsO.one tok [0, 1] (by intro C; conv => lhs; simp) (by first | with_reducible exact True.intro | omega | simp | (simp; omega) | (simp +contextual; omega)) rfl ?_
  refine AOpsO.nil ?_
  refine AW.seqRegionO [.nilp, .int .i64 n] ?_
  refine AOpsO.one tok [1, 5] (by intro C; conv => lhs; simp) (by first | with_reducible exact True.intro | (first | exact hi | simp; done) | omega | simp | (simp; omega) | (simp +contextual; omega)) rfl ?_
  refine AOpsO.one tok [5, 6] (by intro C; conv => lhs; simp) (by first | with_reducible exact True.intro | (first | exact hi | simp; done) | omega | simp | (simp; omega) | (simp +contextual; omega)) rfl ?_
  refine AOpsO.one tok [7] (by intro C; conv => lhs; simp) (by first | with_reducible exact True.intro | (first | exact hi | simp; done) | omega | simp | (simp; omega) | (simp +contextual; omega)) rfl ?_
  refine AOpsO.one tok [8] (by intro C; conv => lhs; simp) (by first | with_reducible exact True.intro | (first | exact hi | simp; done) | omega | simp | (simp; omega) | (simp +contextual; omega)) rfl ?_
  refine AOpsO.one tok [4] (by intro C; conv => lhs; simp) (by first | with_reducible exact True.intro | (first | exact hi | simp; done) | omega | simp | (simp; omega) | (simp +contextual; omega)) rfl ?_
  refine AOpsO.nil ?_
  exact AW.ret ⟨.inr rfl, _, _, by (conv => lhs; simp), trivial, by simp⟩
theorem may1_ev (v : Val) (h : AFn Tryd.prog G 8 [v.enc] (.bool (mayT v))) : AFn Tryd.prog G 20 [v.enc] (.bool (!mayT v)) := by
  refine AFn.introU tok Tryd.func20 (by kernel_rfl) rfl rfl ?_
  simp only [Tryd.f20, enumA, List.map_cons, List.map_nil]
  refine AW.seqRegionO [] ?_
  refine AOpsO.one tok [1] (by intro C; conv => lhs; simp) (by first | with_reducible exact True.intro | omega | simp | (simp; omega) | (simp +contextual; omega)) rfl ?_
  refine AOpsO.one tok [1] (by intro C; conv => lhs; simp) (by first | with_reducible exact True.intro | omega | simp | (simp; omega) | (simp +contextual; omega)) rfl ?_
  refine AOpsO.nil ?_
  refine AW.seqRegionO [.nilp, .bool (mayT v)] ?_
  refine AOpsO.one tok [3] (by intro C; conv => lhs; simp) (by first | with_reducible exact True.intro | (first | exact h | (simp at h ⊢; exact h); done) | omega | simp | (simp; omega) | (simp +contextual; omega)) rfl ?_
  refine AOpsO.one tok [4] (by intro C; conv => lhs; simp) (by first | with_reducible exact True.intro | (first | exact h | (simp at h ⊢; exact h); done) | omega | simp | (simp; omega) | (simp +contextual; omega)) rfl ?_
  refine AOpsO.one tok [5] (by intro C; conv => lhs; simp) (by first | with_reducible exact True.intro | (first | exact h | (simp at h ⊢; exact h); done) | omega | simp | (simp; omega) | (simp +contextual; omega)) rfl ?_
  refine AOpsO.one tok [2] (by intro C; conv => lhs; simp) (by first | with_reducible exact True.intro | (first | exact h | (simp at h ⊢; exact h); done) | omega | simp | (simp; omega) | (simp +contextual; omega)) rfl ?_
  refine AOpsO.nil ?_
  exact AW.ret ⟨.inr rfl, _, _, by (conv => lhs; simp), trivial, by simp⟩
theorem mayT_step (hG : U8 G) (v : Val) (ih : ∀ k ∈ v.kids, AFn Tryd.prog G 8 [k.enc] (.bool (mayT k))) : AFn Tryd.prog G 8 [v.enc] (.bool (mayT v)) := by
  refine AFn.introU tok Tryd.func8 (by kernel_rfl) rfl rfl ?_
  simp only [Tryd.f8, enumA, List.map_cons, List.map_nil]
  have hp := partsT_ev hG v
  have hc := containsV_ev (G := G) v.kids 20 (fun k => !mayT k) (fun k hk => may1_ev k (ih k hk))
  have hca : v.kids.any (fun k => !mayT k) = !v.kids.all mayT := by simp [List.all_eq_not_any_not]
  rw [hca] at hc
  rw [mayT_eq]
  refine AW.seqRegionO [] ?_
  refine AOpsO.one tok [1] (by intro C; conv => lhs; simp) (by first | with_reducible exact True.intro | omega | simp | (simp; omega) | (simp +contextual; omega)) rfl ?_
  refine AOpsO.one tok [1] (by intro C; conv => lhs; simp) (by first | with_reducible exact True.intro | omega | simp | (simp; omega) | (simp +contextual; omega)) rfl ?_
  refine AOpsO.nil ?_
  refine AW.seq ?_
  refine AW.seqRegionO [.nilp, .bool (partsT v)] ?_
  refine AOpsO.one tok [1, 3] (by intro C; conv => lhs; simp) (by first | with_reducible exact True.intro | (first | ((repeat' (first | with_reducible apply And.intro | intro _)) <;> first | exact (hp) | assumption | omega | contradiction | simp_all) | (simp at hp ⊢; ((repeat' (first | with_reducible apply And.intro | intro _)) <;> first | exact (hp) | assumption | omega | contradiction | simp_all)); done) | omega | simp | (simp; omega) | (simp +contextual; omega)) rfl ?_
  refine AOpsO.one tok [1, 4] (by intro C; conv => lhs; simp) (by first | with_reducible exact True.intro | (first | ((repeat' (first | with_reducible apply And.intro | intro _)) <;> first | exact (hp) | assumption | omega | contradiction | simp_all) | (simp at hp ⊢; ((repeat' (first | with_reducible apply And.intro | intro _)) <;> first | exact (hp) | assumption | omega | contradiction | simp_all)); done) | omega | simp | (simp; omega) | (simp +contextual; omega)) rfl ?_
  refine AOpsO.one tok [1, 5] (by intro C; conv => lhs; simp) (by first | with_reducible exact True.intro | (first | ((repeat' (first | with_reducible apply And.intro | intro _)) <;> first | exact (hp) | assumption | omega | contradiction | simp_all) | (simp at hp ⊢; ((repeat' (first | with_reducible apply And.intro | intro _)) <;> first | exact (hp) | assumption | omega | contradiction | simp_all)); done) | omega | simp | (simp; omega) | (simp +contextual; omega)) rfl ?_
  refine AOpsO.one tok [1, 6] (by intro C; conv => lhs; simp) (by first | with_reducible exact True.intro | (first | ((repeat' (first | with_reducible apply And.intro | intro _)) <;> first | exact (hp) | assumption | omega | contradiction | simp_all) | (simp at hp ⊢; ((repeat' (first | with_reducible apply And.intro | intro _)) <;> first | exact (hp) | assumption | omega | contradiction | simp_all)); done) | omega | simp | (simp; omega) | (simp +contextual; omega)) rfl ?_
  refine AOpsO.oneIf tok [1, 6, 7] 6 (by intro C; conv => lhs; simp) (by first | with_reducible exact True.intro | (first | ((repeat' (first | with_reducible apply And.intro | intro _)) <;> first | exact (hp) | assumption | omega | contradiction | simp_all) | (simp at hp ⊢; ((repeat' (first | with_reducible apply And.intro | intro _)) <;> first | exact (hp) | assumption | omega | contradiction | simp_all)); done) | omega | simp | (simp; omega) | (simp +contextual; omega)) rfl rfl ?_
  refine AOpsO.oneIf tok [1, 6, 8] 6 (by intro C; conv => lhs; simp) (by first | with_reducible exact True.intro | (first | ((repeat' (first | with_reducible apply And.intro | intro _)) <;> first | exact (hp) | assumption | omega | contradiction | simp_all) | (simp at hp ⊢; ((repeat' (first | with_reducible apply And.intro | intro _)) <;> first | exact (hp) | assumption | omega | contradiction | simp_all)); done) | omega | simp | (simp; omega) | (simp +contextual; omega)) rfl rfl ?_
  refine AOpsO.oneIf tok [1, 6, 9] 6 (by intro C; conv => lhs; simp) (by first | with_reducible exact True.intro | (first | ((repeat' (first | with_reducible apply And.intro | intro _)) <;> first | exact (hp) | assumption | omega | contradiction | simp_all) | (simp at hp ⊢; ((repeat' (first | with_reducible apply And.intro | intro _)) <;> first | exact (hp) | assumption | omega | contradiction | simp_all)); done) | omega | simp | (simp; omega) | (simp +contextual; omega)) rfl rfl ?_
  refine AOpsO.one tok [1, 10] (by intro C; conv => lhs; simp) (by first | with_reducible exact True.intro | (first | ((repeat' (first | with_reducible apply And.intro | intro _)) <;> first | exact (hp) | assumption | omega | contradiction | simp_all) | (simp at hp ⊢; ((repeat' (first | with_reducible apply And.intro | intro _)) <;> first | exact (hp) | assumption | omega | contradiction | simp_all)); done) | omega | simp | (simp; omega) | (simp +contextual; omega)) rfl ?_
  refine AOpsO.one tok [1, 11] (by intro C; conv => lhs; simp) (by first | with_reducible exact True.intro | (first | ((repeat' (first | with_reducible apply And.intro | intro _)) <;> first | exact (hp) | assumption | omega | contradiction | simp_all) | (simp at hp ⊢; ((repeat' (first | with_reducible apply And.intro | intro _)) <;> first | exact (hp) | assumption | omega | contradiction | simp_all)); done) | omega | simp | (simp; omega) | (simp +contextual; omega)) rfl ?_
  refine AOpsO.oneIf tok [1, 11, 12] 11 (by intro C; conv => lhs; simp) (by first | with_reducible exact True.intro | (first | ((repeat' (first | with_reducible apply And.intro | intro _)) <;> first | exact (hp) | assumption | omega | contradiction | simp_all) | (simp at hp ⊢; ((repeat' (first | with_reducible apply And.intro | intro _)) <;> first | exact (hp) | assumption | omega | contradiction | simp_all)); done) | omega | simp | (simp; omega) | (simp +contextual; omega)) rfl rfl ?_
  refine AOpsO.oneIf tok [1, 11, 13] 11 (by intro C; conv => lhs; simp) (by first | with_reducible exact True.intro | (first | ((repeat' (first | with_reducible apply And.intro | intro _)) <;> first | exact (hp) | assumption | omega | contradiction | simp_all) | (simp at hp ⊢; ((repeat' (first | with_reducible apply And.intro | intro _)) <;> first | exact (hp) | assumption | omega | contradiction | simp_all)); done) | omega | simp | (simp; omega) | (simp +contextual; omega)) rfl rfl ?_
  refine AOpsO.oneIf tok [1, 11, 14] 11 (by intro C; conv => lhs; simp) (by first | with_reducible exact True.intro | (first | ((repeat' (first | with_reducible apply And.intro | intro _)) <;> first | exact (hp) | assumption | omega | contradiction | simp_all) | (simp at hp ⊢; ((repeat' (first | with_reducible apply And.intro | intro _)) <;> first | exact (hp) | assumption | omega | contradiction | simp_all)); done) | omega | simp | (simp; omega) | (simp +contextual; omega)) rfl rfl ?_
  refine AOpsO.oneIf tok [1, 11, 15] 11 (by intro C; conv => lhs; simp) (by first | with_reducible exact True.intro | (first | ((repeat' (first | with_reducible apply And.intro | intro _)) <;> first | exact (hp) | assumption | omega | contradiction | simp_all) | (simp at hp ⊢; ((repeat' (first | with_reducible apply And.intro | intro _)) <;> first | exact (hp) | assumption | omega | contradiction | simp_all)); done) | omega | simp | (simp; omega) | (simp +contextual; omega)) rfl rfl ?_
  refine AOpsO.one tok [1, 16] (by intro C; conv => lhs; simp) (by first | with_reducible exact True.intro | (first | ((repeat' (first | with_reducible apply And.intro | intro _)) <;> first | exact (hp) | assumption | omega | contradiction | simp_all) | (simp at hp ⊢; ((repeat' (first | with_reducible apply And.intro | intro _)) <;> first | exact (hp) | assumption | omega | contradiction | simp_all)); done) | omega | simp | (simp; omega) | (simp +contextual; omega)) rfl ?_
  refine AOpsO.one tok [1, 17] (by intro C; conv => lhs; simp) (by first | with_reducible exact True.intro | (first | ((repeat' (first | with_reducible apply And.intro | intro _)) <;> first | exact (hp) | assumption | omega | contradiction | simp_all) | (simp at hp ⊢; ((repeat' (first | with_reducible apply And.intro | intro _)) <;> first | exact (hp) | assumption | omega | contradiction | simp_all)); done) | omega | simp | (simp; omega) | (simp +contextual; omega)) rfl ?_
  refine AOpsO.oneIf tok [1, 17, 18] 17 (by intro C; conv => lhs; simp) (by first | with_reducible exact True.intro | (first | ((repeat' (first | with_reducible apply And.intro | intro _)) <;> first | exact (hp) | assumption | omega | contradiction | simp_all) | (simp at hp ⊢; ((repeat' (first | with_reducible apply And.intro | intro _)) <;> first | exact (hp) | assumption | omega | contradiction | simp_all)); done) | omega | simp | (simp; omega) | (simp +contextual; omega)) rfl rfl ?_
  refine AOpsO.oneIf tok [1, 17, 19] 17 (by intro C; conv => lhs; simp) (by first | with_reducible exact True.intro | (first | ((repeat' (first | with_reducible apply And.intro | intro _)) <;> first | exact (hp) | assumption | omega | contradiction | simp_all) | (simp at hp ⊢; ((repeat' (first | with_reducible apply And.intro | intro _)) <;> first | exact (hp) | assumption | omega | contradiction | simp_all)); done) | omega | simp | (simp; omega) | (simp +contextual; omega)) rfl rfl ?_
  refine AOpsO.oneIf tok [1, 17, 20] 17 (by intro C; conv => lhs; simp) (by first | with_reducible exact True.intro | (first | ((repeat' (first | with_reducible apply And.intro | intro _)) <;> first | exact (hp) | assumption | omega | contradiction | simp_all) | (simp at hp ⊢; ((repeat' (first | with_reducible apply And.intro | intro _)) <;> first | exact (hp) | assumption | omega | contradiction | simp_all)); done) | omega | simp | (simp; omega) | (simp +contextual; omega)) rfl rfl ?_
  refine AOpsO.one tok [1, 21] (by intro C; conv => lhs; simp) (by first | with_reducible exact True.intro | (first | ((repeat' (first | with_reducible apply And.intro | intro _)) <;> first | exact (hp) | assumption | omega | contradiction | simp_all) | (simp at hp ⊢; ((repeat' (first | with_reducible apply And.intro | intro _)) <;> first | exact (hp) | assumption | omega | contradiction | simp_all)); done) | omega | simp | (simp; omega) | (simp +contextual; omega)) rfl ?_
  refine AOpsO.nil ?_
  refine AW.cond (c := .tmp 21) (by conv => lhs; simp) trivial ?_ ?_
  · intro h21
    try simp at h21
    have hno : (boundsT v && partsT v && v.kids.all mayT) = false := by
      rcases h21 with h | h
      · have : boundsT v = false := by simp [boundsT]; omega
        rw [this]; rfl
      · rw [h]; simp
    rw [hno]
    refine AW.seqRegionO [] ?_
    refine AOpsO.one tok [2] (by intro C; conv => lhs; simp) (by first | with_reducible exact True.intro | omega | simp | (simp; omega) | (simp +contextual; omega)) rfl ?_
    refine AOpsO.nil ?_
    exact AW.ret ⟨.inr rfl, _, _, by (conv => lhs; simp), trivial, by simp⟩
  · intro h21
    try simp at h21
    have hyes : (boundsT v && partsT v) = true := by
      have : boundsT v = true := by simp [boundsT]; omega
      rw [this, h21.2]; rfl
    rw [hyes]
    refine AW.skip ?_
    refine AW.seqRegionO [.nilp, .bool (!v.kids.all mayT)] ?_
    refine AOpsO.one tok [22] (by intro C; conv => lhs; simp) (by first | with_reducible exact True.intro | (exact hc; done) | omega | simp | (simp; omega) | (simp +contextual; omega)) rfl ?_
    refine AOpsO.one tok [23] (by intro C; conv => lhs; simp) (by first | with_reducible exact True.intro | (exact hc; done) | omega | simp | (simp; omega) | (simp +contextual; omega)) rfl ?_
    refine AOpsO.one tok [24] (by intro C; conv => lhs; simp) (by first | with_reducible exact True.intro | (exact hc; done) | omega | simp | (simp; omega) | (simp +contextual; omega)) rfl ?_
    refine AOpsO.one tok [25] (by intro C; conv => lhs; simp) (by first | with_reducible exact True.intro | (exact hc; done) | omega | simp | (simp; omega) | (simp +contextual; omega)) rfl ?_
    refine AOpsO.one tok [2] (by intro C; conv => lhs; simp) (by first | with_reducible exact True.intro | (exact hc; done) | omega | simp | (simp; omega) | (simp +contextual; omega)) rfl ?_
    refine AOpsO.nil ?_
    exact AW.ret ⟨.inr rfl, _, _, by (conv => lhs; simp), trivial, by simp⟩
theorem mayT_ev (hG : U8 G) (v : Val) : AFn Tryd.prog G 8 [v.enc] (.bool (mayT v)) := Val.induct (fun v ih => mayT_step hG v ih) v
end Go.Proofs.YtgoepemmcibdaaaDoor
