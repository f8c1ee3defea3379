import Derived.Test.YtdjjmppnnkkloaaGreatDoorSRef1
namespace Go.Proofs.YtdjjmppnnkkloaaGreatDoor
open Sy Go
set_option maxRecDepth 100000
set_option maxHeartbeats 4000000
set_option linter.unusedSimpArgs false
set_option linter.unusedVariables false
variable {G : Glob}

def negM (s : List UInt8) : Bool := decide (0 < s.length) && decide (byteAt s 0 = 45)
def part2 (s : List UInt8) (k : Nat) (digits : List UInt8) : Option (Nat × List UInt8 × Nat) :=
  if k < s.length ∧ byteAt s k = 46 then (if runM s (k + 1) = 0 then none else some (k + 1 + runM s (k + 1), digits ++ (s.take (k + 1 + runM s (k + 1))).drop (k + 1), runM s (k + 1))) else some (k, digits, 0)
def upM (s : List UInt8) (k : Nat) : Nat → Int
  | 0 => 0
  | i + 1 => 10 * upM s k i + (byteAt s (k + i) - 48)
def signM (s : List UInt8) (k : Nat) : Nat := if k < s.length ∧ (byteAt s k = 45 ∨ byteAt s k = 43) then k + 1 else k
def part3 (s : List UInt8) (k : Nat) : Option (Nat × Int) :=
  if k < s.length ∧ (byteAt s k = 101 ∨ byteAt s k = 69) then
    (if runM s (signM s (k + 1)) < 1 ∨ 2 < runM s (signM s (k + 1)) then none
     else some (signM s (k + 1) + runM s (signM s (k + 1)), if k + 1 < s.length ∧ byteAt s (k + 1) = 45 then - upM s (signM s (k + 1)) (runM s (signM s (k + 1))) else upM s (signM s (k + 1)) (runM s (signM s (k + 1)))))
  else some (k, 0)
def badDc : Dc × Int := (⟨false, [], 0⟩, 4)
def lastM (neg : Bool) (digits : List UInt8) (sc : Int) : Dc × Int := if sc < 0 then NormM neg (digits ++ zerosM (-sc).toNat) 0 else NormM neg digits sc.toNat
def restM (s : List UInt8) (neg : Bool) (digits : List UInt8) (scale : Nat) : Option (Nat × Int) → Dc × Int
  | none => badDc
  | some (k, up) => if k = s.length then lastM neg digits (scale - up) else badDc
def tailM (s : List UInt8) (neg : Bool) : Option (Nat × List UInt8 × Nat) → Dc × Int
  | none => badDc
  | some (k, digits, scale) => restM s neg digits scale (part3 s k)
def a0M (s : List UInt8) : Nat := if negM s = true then 1 else 0
def ParseM (s : List UInt8) : Dc × Int :=
  if runM s (a0M s) = 0 ∨ (1 < runM s (a0M s) ∧ byteAt s (a0M s) = 48) then badDc
  else tailM s (negM s) (part2 s (a0M s + runM s (a0M s)) ((s.take (a0M s + runM s (a0M s))).drop (a0M s)))
theorem runM_in (s : List UInt8) (k : Nat) (h : k ≤ s.length) : k + runM s k ≤ s.length := by
  unfold runM
  have := (List.takeWhile_sublist (l := s.drop k) fun b : UInt8 => digitM b.toNat).length_le
  simp at this; omega
theorem runM_pos {s : List UInt8} {k : Nat} (h : 0 < runM s k) : k < s.length := ((runM_lt (Nat.zero_le _)).1 h).1
theorem runM_digit {s : List UInt8} {k i : Nat} (h : i < runM s k) : k + i < s.length ∧ 48 ≤ byteAt s (k + i) ∧ byteAt s (k + i) ≤ 57 := by
  have := (runM_lt (Nat.le_of_lt h)).1 h
  simpa [digitM] using this
theorem upM_range {s : List UInt8} {k : Nat} : ∀ {i : Nat}, i ≤ 2 → i ≤ runM s k → 0 ≤ upM s k i ∧ upM s k i ≤ 99 ∧ (i ≤ 1 → upM s k i ≤ 9)
  | 0, _, _ => by simp [upM]
  | 1, _, h => by have := runM_digit (s := s) (k := k) (i := 0) (by omega); simp [upM] at this ⊢; omega
  | 2, _, h => by
    have h1 := runM_digit (s := s) (k := k) (i := 0) (by omega)
    have h2 := runM_digit (s := s) (k := k) (i := 1) (by omega)
    simp [upM] at h1 h2 ⊢; omega
theorem a0M_le (s : List UInt8) : a0M s ≤ 1 := by unfold a0M; split <;> omega
theorem Parse_ev (s : List UInt8) (hs : s.length ≤ 100000) : AFn Tryz.prog G 56 [.str s] (.tup [(ParseM s).1.enc, .int .i64 (ParseM s).2]) := by
  refine AFn.introU tok Tryz.func56 (by kernel_rfl) rfl rfl ?_
  simp only [Tryz.f56, enumA, List.map_cons, List.map_nil]
  have hrun := fun k hk => run_ev (G := G) s k (by omega) hk
  have hix : ∀ k : Nat, k < s.length → s[k]? = some (s.getD k 0) := fun k h => byteAt_get h
  refine rgn [] [[], [0, 2]] ?_
  iterate 2 refine op1 tok ?_
  refine runEnd ?_
  refine rgn [] [[]] ?_
  refine op1 tok ?_
  refine runEnd ?_
  refine rgn [.int .u8 (byteAt s 0)] [[], [], [], [], [], [0, 2, 4, 15, 17], [], [], [0, 2, 4, 5]] ?_
  iterate 4 refine op1 tok ?_ (hv := by first | with_reducible exact True.intro | (first | exact fun h => ⟨h, by omega, _, hix 0 (by omega), rfl⟩ | exact fun h => ⟨h, _, hix 0 (by omega), rfl⟩ | simp; done) | omega | simp | (simp; omega) | (simp +contextual; omega))
  iterate 3 refine op2 tok ?_ (hv := by first | with_reducible exact True.intro | (first | exact fun h => ⟨h, by omega, _, hix 0 (by omega), rfl⟩ | exact fun h => ⟨h, _, hix 0 (by omega), rfl⟩ | simp; done) | omega | simp | (simp; omega) | (simp +contextual; omega))
  iterate 2 refine op1 tok ?_ (hv := by first | with_reducible exact True.intro | (first | exact fun h => ⟨h, by omega, _, hix 0 (by omega), rfl⟩ | exact fun h => ⟨h, _, hix 0 (by omega), rfl⟩ | simp; done) | omega | simp | (simp; omega) | (simp +contextual; omega))
  refine runEnd ?_
  refine AW.join (α := Unit) (fun _ => True) (fun a => ⟨upds 175 [(0, .p (.str s)), (2, .ptr 2 0), (4, .p (.int .i64 (a0M s))), (5, .p (.bool (negM s)))], [], [(2, .vars 39 [.p (.bool false), .p (.str []), .p (.int .i64 0)])], 0⟩) ?_ ?_
  ·
    refine rgn [] [[]] ?_
    refine op1 tok ?_
    refine runEnd ?_
    refine cnd ?_ ?_
    · intro h20
      try simp at h20
      refine rgz [] [[]] ?_
      refine op1 tok ?_
      refine runEnd ?_
      exact ⟨(), trivial, upds_le (by simp [a0M, negM, h20]), rfl, by simp [a0M, negM, h20], by simp [a0M, negM, h20]⟩
    · intro h20
      try simp at h20
      have hneg : negM s = false := by
        rw [← Bool.not_eq_true]; intro h; simp only [negM, Bool.and_eq_true, decide_eq_true_eq] at h; exact h20 h.1 h.2
      have hneg0 := hneg
      have ha00 : a0M s = 0 := by simp [a0M, hneg]
      simp only [negM] at hneg0
      refine AW.skip ?_
      exact ⟨(), trivial, upds_le (by simp [ha00, hneg0, hneg]), rfl, by simp [ha00, hneg0, hneg], by simp [ha00, hneg0, hneg]⟩
  ·
    rintro a hI
    have ha0 := a0M_le s
    have hn0 := runM_le s (a0M s)
    have hp0 := runM_pos (s := s) (k := a0M s)
    have hin0 := runM_in s (a0M s)
    refine rgn [.nilp, .int .i64 (runM s (a0M s))] [[], [], [], [0, 2, 4, 5, 6]] ?_
    iterate 4 refine op1 tok ?_ (hv := by first | with_reducible exact True.intro | (simp [hrun (a0M s) (by have := a0M_le s; omega)]; done) | omega | simp | (simp; omega) | (simp +contextual; omega))
    refine runEnd ?_
    refine AW.seq ?_
    refine rgn [.int .u8 (byteAt s (a0M s))] [[], [], [], [], [], [0, 2, 4, 5, 6, 26, 29], [], [], [], [], [0, 2, 4, 5, 6, 26, 34], [0, 2, 4, 5, 6, 35]] ?_
    iterate 3 refine op1 tok ?_ (hv := by first | with_reducible exact True.intro | (first | exact fun h1 h2 => ⟨⟨h1, h2⟩, _, hix (a0M s) (hp0 (by omega)), rfl⟩ | exact fun h1 => ⟨h1, fun h2 => ⟨h1, h2⟩⟩ | simp; done) | omega | simp | (simp; omega) | (simp +contextual; omega))
    iterate 8 refine op2 tok ?_ (hv := by first | with_reducible exact True.intro | (first | exact fun h1 h2 => ⟨⟨h1, h2⟩, _, hix (a0M s) (hp0 (by omega)), rfl⟩ | exact fun h1 => ⟨h1, fun h2 => ⟨h1, h2⟩⟩ | simp; done) | omega | simp | (simp; omega) | (simp +contextual; omega))
    refine op1 tok ?_ (hv := by first | with_reducible exact True.intro | (first | exact fun h1 h2 => ⟨⟨h1, h2⟩, _, hix (a0M s) (hp0 (by omega)), rfl⟩ | exact fun h1 => ⟨h1, fun h2 => ⟨h1, h2⟩⟩ | simp; done) | omega | simp | (simp; omega) | (simp +contextual; omega))
    refine runEnd ?_
    refine cnd ?_ ?_
    · intro h35
      try simp at h35
      have hP : ParseM s = badDc := by unfold ParseM; rw [if_pos (by omega)]
      refine rgn [] [[], [], [2, 3]] ?_
      iterate 3 refine op1 tok ?_
      refine runEnd ?_
      exact AW.ret ⟨.inr rfl, _, _, by (conv => lhs; simp), trivial, by simp [hP, badDc]⟩
    · intro h35
      try simp at h35
      have hP : ParseM s = tailM s (negM s) (part2 s (a0M s + runM s (a0M s)) ((s.take (a0M s + runM s (a0M s))).drop (a0M s))) := by unfold ParseM; rw [if_neg (by omega)]
      rw [hP]
      have hin := hin0 (by have := hp0 (by omega); omega)
      generalize hdg : (s.take (a0M s + runM s (a0M s))).drop (a0M s) = dg0
      have hdgl : dg0.length ≤ s.length := by rw [← hdg]; simp; omega
      obtain ⟨k1, hk1⟩ : ∃ k1, k1 = a0M s + runM s (a0M s) := ⟨_, rfl⟩
      rw [← hk1] at hin hdg ⊢
      refine AW.skip ?_
      refine rgn [] [[], [], [], [], [], [0, 2, 4, 5, 6, 42], [0, 2, 4, 5, 6, 7]] ?_
      iterate 7 refine op1 tok ?_ (hv := by first | with_reducible exact True.intro | (omega; done) | omega | simp | (simp; omega) | (simp +contextual; omega))
      refine runEnd ?_
      refine rgn [] [[], [], [0, 2, 5, 7, 45], [0, 2, 4, 5, 7]] ?_
      iterate 4 refine op1 tok ?_
      refine runEnd ?_
      rw [show ((a0M s : Int) + (runM s (a0M s) : Nat)) = (k1 : Nat) by omega]
      refine rgn [] [[]] ?_
      refine op1 tok ?_
      refine runEnd ?_
      refine AW.join (α := Nat × List UInt8 × Nat) (fun a => part2 s k1 dg0 = some a ∧ a.1 ≤ s.length ∧ a.2.1.length ≤ 200000 ∧ a.2.2 ≤ s.length) (fun a => ⟨upds 175 [(0, .p (.str s)), (2, .ptr 2 0), (4, .p (.int .i64 a.1)), (5, .p (.bool (negM s))), (7, .p (.str a.2.1)), (8, .p (.int .i64 a.2.2))], [], [(2, .vars 39 [.p (.bool false), .p (.str []), .p (.int .i64 0)])], 0⟩) ?_ ?_
      ·
        have hr1 := runM_in s (k1 + 1)
        refine rgn [.int .u8 (byteAt s k1)] [[], [], [], [], [0, 2, 4, 5, 7, 8, 50], [], [], [], [], [0, 2, 4, 5, 7, 8, 55]] ?_
        iterate 5 refine op1 tok ?_ (hv := by first | with_reducible exact True.intro | (first | exact fun h => ⟨h, _, hix k1 (by omega), rfl⟩ | simp; done) | omega | simp | (simp; omega) | (simp +contextual; omega))
        iterate 4 refine op2 tok ?_ (hv := by first | with_reducible exact True.intro | (first | exact fun h => ⟨h, _, hix k1 (by omega), rfl⟩ | simp; done) | omega | simp | (simp; omega) | (simp +contextual; omega))
        refine op1 tok ?_ (hv := by first | with_reducible exact True.intro | (first | exact fun h => ⟨h, _, hix k1 (by omega), rfl⟩ | simp; done) | omega | simp | (simp; omega) | (simp +contextual; omega))
        refine runEnd ?_
        refine cnd ?_ ?_
        · intro h55
          try simp at h55
          refine rgn [.nilp, .int .i64 (runM s (k1 + 1))] [[], [], [], [], [0, 2, 4, 5, 7, 8]] ?_
          iterate 5 refine op1 tok ?_ (hv := by first | with_reducible exact True.intro | (first | omega | exact hrun (k1 + 1) (by omega); done) | omega | simp | (simp; omega) | (simp +contextual; omega))
          refine runEnd ?_
          refine AW.seq ?_
          refine rgn [] [[], [0, 2, 4, 5, 7, 8, 61]] ?_
          iterate 2 refine op1 tok ?_
          refine runEnd ?_
          refine cnd ?_ ?_
          · intro h61
            try simp at h61
            have hP2 : part2 s k1 dg0 = none := by simp [part2, h55.1, h55.2, h61]
            refine rgn [] [[], [], [2, 3]] ?_
            iterate 3 refine op1 tok ?_
            refine runEnd ?_
            exact AW.ret ⟨.inr rfl, _, _, by (conv => lhs; simp), trivial, by simp [hP2, tailM, badDc]⟩
          · intro h61
            try simp at h61
            refine AW.skip ?_
            refine rgn [] [[], [], [], [], [], [], [], [0, 2, 4, 5, 8, 63, 64, 66, 70], [], [0, 2, 4, 5, 8, 72], [0, 2, 4, 5, 7, 8]] ?_
            iterate 11 refine op1 tok ?_
            refine runEnd ?_
            refine rgz [] [[], [], [], [0, 2, 5, 7, 8, 76], [0, 2, 4, 5, 7, 8]] ?_
            iterate 5 refine op1 tok ?_
            refine runEnd ?_
            exact ⟨(k1 + 1 + runM s (k1 + 1), dg0 ++ (s.take (k1 + 1 + runM s (k1 + 1))).drop (k1 + 1), runM s (k1 + 1)), ⟨by simp [part2, h55.1, h55.2, h61], hr1 (by omega), by simp; omega, by have := hr1 (by omega); show runM s (k1 + 1) ≤ s.length; omega⟩, upds_le (by simp [hdg, show ((k1 : Int) + 1 + (runM s (k1 + 1) : Nat)).toNat = k1 + 1 + runM s (k1 + 1) from by omega]), rfl, by simp [hdg, show ((k1 : Int) + 1 + (runM s (k1 + 1) : Nat)).toNat = k1 + 1 + runM s (k1 + 1) from by omega], by simp [hdg, show ((k1 : Int) + 1 + (runM s (k1 + 1) : Nat)).toNat = k1 + 1 + runM s (k1 + 1) from by omega]⟩
        · intro h55
          try simp at h55
          refine AW.skip ?_
          exact ⟨(k1, dg0, 0), ⟨by simp only [part2]; rw [if_neg (by intro h; exact h55 h.1 h.2)], hin, by show dg0.length ≤ 200000; omega, by simp⟩, upds_le (by simp [hdg]), rfl, by simp [hdg], by simp [hdg]⟩
      ·
        rintro ⟨k, digits, scale⟩ ⟨hp2, hk, hdl, hsc⟩
        simp only at hk hdl hsc
        have hT : tailM s (negM s) (part2 s k1 dg0) = restM s (negM s) digits scale (part3 s k) := by rw [hp2]; rfl
        rw [hT]
        have hix1 : (k : Int) + 1 < s.length → s[((k : Int) + 1).toNat]? = some (s.getD (k + 1) 0) := fun h => by rw [show ((k : Int) + 1).toNat = k + 1 by omega]; exact hix (k + 1) (by omega)
        refine rgn [] [[]] ?_
        refine op1 tok ?_
        refine runEnd ?_
        refine AW.join (α := Nat × Int) (fun b => part3 s k = some b ∧ b.1 ≤ 300000 ∧ -99 ≤ b.2 ∧ b.2 ≤ 99) (fun b => ⟨upds 175 [(0, .p (.str s)), (2, .ptr 2 0), (4, .p (.int .i64 b.1)), (5, .p (.bool (negM s))), (7, .p (.str digits)), (8, .p (.int .i64 scale)), (9, .p (.int .i64 b.2))], [], [(2, .vars 39 [.p (.bool false), .p (.str []), .p (.int .i64 0)])], 0⟩) ?_ ?_
        ·
          refine rgn [.int .u8 (byteAt s k), .int .u8 (byteAt s k)] [[], [], [], [], [0, 2, 4, 5, 7, 8, 9, 81], [], [], [], [], [0, 2, 4, 5, 7, 8, 9, 81, 86], [], [], [], [], [0, 2, 4, 5, 7, 8, 9, 81, 91], [0, 2, 4, 5, 7, 8, 9, 92]] ?_
          iterate 5 refine op1 tok ?_ (hv := by first | with_reducible exact True.intro | (((repeat' (first | with_reducible apply And.intro | intro _)) <;> first | omega | assumption | contradiction | exact ⟨_, hix _ (by omega), rfl⟩ | simp_all); done) | omega | simp | (simp; omega) | (simp +contextual; omega))
          iterate 10 refine op2 tok ?_ (hv := by first | with_reducible exact True.intro | (((repeat' (first | with_reducible apply And.intro | intro _)) <;> first | omega | assumption | contradiction | exact ⟨_, hix _ (by omega), rfl⟩ | simp_all); done) | omega | simp | (simp; omega) | (simp +contextual; omega))
          refine op1 tok ?_ (hv := by first | with_reducible exact True.intro | (((repeat' (first | with_reducible apply And.intro | intro _)) <;> first | omega | assumption | contradiction | exact ⟨_, hix _ (by omega), rfl⟩ | simp_all); done) | omega | simp | (simp; omega) | (simp +contextual; omega))
          refine runEnd ?_
          refine cnd ?_ ?_
          · intro h92
            try simp at h92
            refine rgn [] [[], [], [0, 2, 4, 5, 7, 8, 9]] ?_
            iterate 3 refine op1 tok ?_
            refine runEnd ?_
            refine rgn [.int .u8 (byteAt s (k + 1))] [[], [], [], [], [0, 2, 4, 5, 7, 8, 9, 99], [], [], [], [], [0, 2, 4, 5, 7, 8, 9, 104], [0, 2, 4, 5, 7, 8, 9, 10]] ?_
            iterate 5 refine op1 tok ?_ (hv := by first | with_reducible exact True.intro | (((repeat' (first | with_reducible apply And.intro | intro _)) <;> first | omega | assumption | contradiction | exact ⟨_, hix _ (by omega), rfl⟩ | simp_all); done) | omega | simp | (simp; omega) | (simp +contextual; omega))
            iterate 4 refine op2 tok ?_ (hv := by first | with_reducible exact True.intro | (((repeat' (first | with_reducible apply And.intro | intro _)) <;> first | omega | assumption | contradiction | exact ⟨_, hix _ (by omega), rfl⟩ | simp_all); done) | omega | simp | (simp; omega) | (simp +contextual; omega))
            iterate 2 refine op1 tok ?_ (hv := by first | with_reducible exact True.intro | (((repeat' (first | with_reducible apply And.intro | intro _)) <;> first | omega | assumption | contradiction | exact ⟨_, hix _ (by omega), rfl⟩ | simp_all); done) | omega | simp | (simp; omega) | (simp +contextual; omega))
            refine runEnd ?_
            refine AW.join (α := Unit) (fun _ => True) (fun a => ⟨upds 175 [(0, .p (.str s)), (2, .ptr 2 0), (4, .p (.int .i64 (signM s (k + 1)))), (5, .p (.bool (negM s))), (7, .p (.str digits)), (8, .p (.int .i64 scale)), (9, .p (.int .i64 0)), (10, .p (.bool (decide (k + 1 < s.length) && decide (byteAt s (k + 1) = 45))))], [], [(2, .vars 39 [.p (.bool false), .p (.str []), .p (.int .i64 0)])], 0⟩) ?_ ?_
            ·
              refine rgn [.int .u8 (byteAt s (k + 1)), .int .u8 (byteAt s (k + 1))] [[], [], [], [], [0, 2, 4, 5, 7, 8, 9, 10, 109], [], [], [], [], [0, 2, 4, 5, 7, 8, 9, 10, 109, 114], [], [], [], [], [0, 2, 4, 5, 7, 8, 9, 10, 109, 119], [0, 2, 4, 5, 7, 8, 9, 10, 120]] ?_
              iterate 5 refine op1 tok ?_ (hv := by first | with_reducible exact True.intro | (((repeat' (first | with_reducible apply And.intro | intro _)) <;> first | omega | assumption | contradiction | exact ⟨_, hix _ (by omega), rfl⟩ | simp_all); done) | omega | simp | (simp; omega) | (simp +contextual; omega))
              iterate 10 refine op2 tok ?_ (hv := by first | with_reducible exact True.intro | (((repeat' (first | with_reducible apply And.intro | intro _)) <;> first | omega | assumption | contradiction | exact ⟨_, hix _ (by omega), rfl⟩ | simp_all); done) | omega | simp | (simp; omega) | (simp +contextual; omega))
              refine op1 tok ?_ (hv := by first | with_reducible exact True.intro | (((repeat' (first | with_reducible apply And.intro | intro _)) <;> first | omega | assumption | contradiction | exact ⟨_, hix _ (by omega), rfl⟩ | simp_all); done) | omega | simp | (simp; omega) | (simp +contextual; omega))
              refine runEnd ?_
              refine cnd ?_ ?_
              · intro h120
                try simp at h120
                refine rgz [] [[], [], [0, 2, 4, 5, 7, 8, 9, 10]] ?_
                iterate 3 refine op1 tok ?_
                refine runEnd ?_
                exact ⟨(), trivial, upds_le (by simp [show signM s (k + 1) = k + 1 + 1 from by (unfold signM; rw [if_pos ⟨by omega, h120.2⟩]), show ((k : Int) + 1 < (s.length : Int)) = (k + 1 < s.length) from propext (by omega)]), rfl, by simp [show signM s (k + 1) = k + 1 + 1 from by (unfold signM; rw [if_pos ⟨by omega, h120.2⟩]), show ((k : Int) + 1 < (s.length : Int)) = (k + 1 < s.length) from propext (by omega)], by simp [show signM s (k + 1) = k + 1 + 1 from by (unfold signM; rw [if_pos ⟨by omega, h120.2⟩]), show ((k : Int) + 1 < (s.length : Int)) = (k + 1 < s.length) from propext (by omega)]⟩
              · intro h120
                try simp at h120
                refine AW.skip ?_
                exact ⟨(), trivial, upds_le (by simp [show signM s (k + 1) = k + 1 from by (unfold signM; rw [if_neg (by intro h; have := h120 (by omega); omega)]), show ((k : Int) + 1 < (s.length : Int)) = (k + 1 < s.length) from propext (by omega)]), rfl, by simp [show signM s (k + 1) = k + 1 from by (unfold signM; rw [if_neg (by intro h; have := h120 (by omega); omega)]), show ((k : Int) + 1 < (s.length : Int)) = (k + 1 < s.length) from propext (by omega)], by simp [show signM s (k + 1) = k + 1 from by (unfold signM; rw [if_neg (by intro h; have := h120 (by omega); omega)]), show ((k : Int) + 1 < (s.length : Int)) = (k + 1 < s.length) from propext (by omega)]⟩
            ·
              rintro a hI
              have hsg : signM s (k + 1) ≤ s.length + 1 := by unfold signM; split <;> omega
              have hin3 := runM_in s (signM s (k + 1))
              have hp3 := runM_pos (s := s) (k := signM s (k + 1))
              have hn3 := runM_le s (signM s (k + 1))
              obtain ⟨k3, hk3⟩ : ∃ k3, k3 = signM s (k + 1) := ⟨_, rfl⟩
              rw [← hk3] at hsg hin3 hp3 hn3 ⊢
              refine rgn [.nilp, .int .i64 (runM s k3)] [[], [], [], [0, 2, 4, 5, 6, 7, 8, 9, 10]] ?_
              iterate 4 refine op1 tok ?_ (hv := by first | with_reducible exact True.intro | (exact hrun k3 (by omega); done) | omega | simp | (simp; omega) | (simp +contextual; omega))
              refine runEnd ?_
              refine AW.seq ?_
              refine rgn [] [[], [], [], [], [], [0, 2, 4, 5, 6, 7, 8, 9, 10, 131]] ?_
              iterate 3 refine op1 tok ?_
              iterate 2 refine op2 tok ?_
              refine op1 tok ?_
              refine runEnd ?_
              refine cnd ?_ ?_
              · intro h131
                try simp at h131
                have hP3 : part3 s k = none := by simp only [part3]; rw [if_pos h92, ← hk3, if_pos (by omega)]
                refine rgn [] [[], [], [2, 3]] ?_
                iterate 3 refine op1 tok ?_
                refine runEnd ?_
                exact AW.ret ⟨.inr rfl, _, _, by (conv => lhs; simp), trivial, by simp [hP3, restM, badDc]⟩
              · intro h131
                try simp at h131
                have hP3 : part3 s k = some (k3 + runM s k3, if k + 1 < s.length ∧ byteAt s (k + 1) = 45 then - upM s k3 (runM s k3) else upM s k3 (runM s k3)) := by simp only [part3]; rw [if_pos h92, ← hk3, if_neg (by omega)]
                have hk3l : k3 < s.length := hp3 (by omega)
                have hdig := fun i => runM_digit (s := s) (k := k3) (i := i)
                refine AW.skip ?_
                refine AW.seq ?_
                refine rgn [] [[]] ?_
                refine op1 tok ?_
                refine runEnd ?_
                refine AW.block ?_
                refine AW.loop (α := Nat) (fun i => i ≤ runM s k3) (fun i => ⟨upds 175 [(0, .p (.str s)), (2, .ptr 2 0), (4, .p (.int .i64 k3)), (5, .p (.bool (negM s))), (6, .p (.int .i64 (runM s k3))), (7, .p (.str digits)), (8, .p (.int .i64 scale)), (9, .p (.int .i64 (upM s k3 i))), (10, .p (.bool (decide (k + 1 < s.length) && decide (byteAt s (k + 1) = 45)))), (11, .p (.int .i64 i))], [], [(2, .vars 39 [.p (.bool false), .p (.str []), .p (.int .i64 0)])], 0⟩) (fun i => runM s k3 - i) (0) (by omega) ⟨upds_le (by simp [upM]), rfl, by simp, by simp⟩ ?_
                rintro i hi
                have hup := upM_range (s := s) (k := k3) (i := i) (by omega) hi
                refine AW.seq ?_
                refine rgn [] [[], [], [0, 2, 4, 5, 6, 7, 8, 9, 10, 11, 135]] ?_
                iterate 3 refine op1 tok ?_
                refine runEnd ?_
                refine cnd ?_ ?_
                · intro h135
                  try simp at h135
                  have hdi := hdig i h135
                  have hw : IntKind.u8.wrap (byteAt s (k3 + i) - 48) = byteAt s (k3 + i) - 48 := by simp [IntKind.wrap, IntKind.bits, IntKind.signed]; omega
                  refine AW.skip ?_
                  refine AW.seq ?_
                  refine AW.block ?_
                  refine rgz [.int .u8 (byteAt s (k3 + i))] [[], [], [], [], [], [0, 2, 4, 5, 6, 7, 8, 10, 11, 139, 140, 143], [], [], [0, 2, 4, 5, 6, 7, 8, 10, 11, 139, 146], [], [0, 2, 4, 5, 6, 7, 8, 9, 10, 11]] ?_
                  iterate 11 refine op1 tok ?_ (hv := by first | with_reducible exact True.intro | (((repeat' (first | with_reducible apply And.intro | intro _)) <;> first | omega | assumption | contradiction | exact ⟨_, hix _ (by omega), rfl⟩ | (rw [hw]; omega) | simp_all); done) | omega | simp | (simp; omega) | (simp +contextual; omega))
                  refine runEnd ?_
                  refine rgz [] [[], [], [0, 2, 4, 5, 6, 7, 8, 9, 10, 11]] ?_
                  iterate 3 refine op1 tok ?_
                  refine runEnd ?_
                  exact ⟨i + 1, by omega, by omega, upds_le (by simp [upM, hw]), rfl, by simp [upM, hw], by simp [upM, hw]⟩
                · intro h135
                  try simp at h135
                  have hi2 : i = runM s k3 := by omega
                  subst hi2
                  have hup2 := hin3 (by omega)
                  have hw2 : IntKind.i64.wrap (- upM s k3 (runM s k3)) = - upM s k3 (runM s k3) := by simp [IntKind.wrap, IntKind.bits, IntKind.signed]; omega
                  refine AW.exit ?_
                  simp
                  refine rgn [] [[], [], [0, 2, 5, 7, 8, 9, 10, 150], [0, 2, 4, 5, 7, 8, 9, 10]] ?_
                  iterate 4 refine op1 tok ?_
                  refine runEnd ?_
                  refine rgn [] [[0, 2, 4, 5, 7, 8, 9, 151]] ?_
                  refine op1 tok ?_
                  refine runEnd ?_
                  refine cnd ?_ ?_
                  · intro h151
                    try simp at h151
                    rw [if_pos h151] at hP3
                    refine rgz [] [[], [], [0, 2, 4, 5, 7, 8, 9]] ?_
                    iterate 3 refine op1 tok ?_
                    refine runEnd ?_
                    exact ⟨k3 + runM s k3, - upM s k3 (runM s k3), ⟨hP3, by omega, by omega, by omega⟩, upds_le (by simp [hw2]), rfl, by simp [hw2], by simp [hw2]⟩
                  · intro h151
                    try simp at h151
                    rw [if_neg (by intro h; exact h151 h.1 h.2)] at hP3
                    refine AW.skip ?_
                    exact ⟨k3 + runM s k3, upM s k3 (runM s k3), ⟨hP3, by omega, by omega, by omega⟩, upds_le (by simp), rfl, by simp, by simp⟩
          · intro h92
            try simp at h92
            refine AW.skip ?_
            exact ⟨(k, 0), ⟨by simp only [part3]; rw [if_neg (by intro h; have := h92 h.1; omega)], by show k ≤ 300000; omega, by simp, by simp⟩, upds_le (by simp), rfl, by simp, by simp⟩
        ·
          rintro ⟨k2, up⟩ ⟨hp3, hk2, hu1, hu2⟩
          simp only at hk2 hu1 hu2
          rw [hp3]
          refine AW.seq ?_
          refine rgn [] [[], [], [], [2, 5, 7, 8, 9, 157]] ?_
          iterate 4 refine op1 tok ?_
          refine runEnd ?_
          refine cnd ?_ ?_
          · intro h157
            try simp at h157
            have hR : restM s (negM s) digits scale (some (k2, up)) = badDc := by simp only [restM]; rw [if_neg (by omega)]
            refine rgn [] [[], [], [2, 3]] ?_
            iterate 3 refine op1 tok ?_
            refine runEnd ?_
            exact AW.ret ⟨.inr rfl, _, _, by (conv => lhs; simp), trivial, by simp [hR, badDc]⟩
          · intro h157
            try simp at h157
            have hR : restM s (negM s) digits scale (some (k2, up)) = lastM (negM s) digits (scale - up) := by simp only [restM]; rw [if_pos (by omega)]
            rw [hR]
            clear hR hp3
            have hw3 : IntKind.i64.wrap (-((scale : Int) - up)) = -((scale : Int) - up) := by simp [IntKind.wrap, IntKind.bits, IntKind.signed]; omega
            have hz := zeros_ev (G := G) (-((scale : Int) - up)) (by omega)
            have hzl : (zerosM (-((scale : Int) - up)).toNat).length ≤ 300000 := by simp [zerosM]; omega
            refine AW.skip ?_
            refine rgn [] [[], [], [2, 5, 7, 161], [2, 5, 7, 8]] ?_
            iterate 4 refine op1 tok ?_
            refine runEnd ?_
            refine AW.seq ?_
            refine rgn [] [[], [2, 5, 7, 8, 163]] ?_
            iterate 2 refine op1 tok ?_
            refine runEnd ?_
            refine cnd ?_ ?_
            · intro h163
              try simp at h163
              have hL : lastM (negM s) digits ((scale : Int) - up) = NormM (negM s) (digits ++ zerosM (-((scale : Int) - up)).toNat) 0 := by simp only [lastM]; rw [if_pos (by omega)]
              have hN := Norm_ev (G := G) (negM s) (digits ++ zerosM (-((scale : Int) - up)).toNat) 0 (by simp; omega) (by omega)
              refine rgn [.nilp, .str (zerosM (-((scale : Int) - up)).toNat)] [[], [], [], [2, 5, 164, 167], [], [2, 5, 7]] ?_
              iterate 6 refine op1 tok ?_ (hv := by first | with_reducible exact True.intro | (first | (rw [hw3]; exact hz) | omega; done) | omega | simp | (simp; omega) | (simp +contextual; omega))
              refine runEnd ?_
              refine rgz [] [[]] ?_
              refine op1 tok ?_
              refine runEnd ?_
              refine rgn [.nilp, .tup [(NormM (negM s) (digits ++ zerosM (-((scale : Int) - up)).toNat) 0).1.enc, .int .i64 (NormM (negM s) (digits ++ zerosM (-((scale : Int) - up)).toNat) 0).2]] [[], [], [], [2, 172], [], [], [], [2, 3]] ?_
              iterate 8 refine op1 tok ?_ (hv := by first | with_reducible exact True.intro | (first | exact hN | simp; done) | omega | simp | (simp; omega) | (simp +contextual; omega))
              refine runEnd ?_
              exact AW.ret ⟨.inr rfl, _, _, by (conv => lhs; simp), trivial, by simp [hL]⟩
            · intro h163
              try simp at h163
              obtain ⟨sc, hsc2⟩ : ∃ sc : Nat, (sc : Int) = (scale : Int) - up := ⟨((scale : Int) - up).toNat, by omega⟩
              have hL : lastM (negM s) digits ((scale : Int) - up) = NormM (negM s) digits sc := by simp only [lastM]; rw [if_neg (by omega), ← hsc2]; rfl
              have hN := Norm_ev (G := G) (negM s) digits sc (by omega) (by omega)
              rw [hsc2] at hN
              refine AW.skip ?_
              refine rgn [.nilp, .tup [(NormM (negM s) digits sc).1.enc, .int .i64 (NormM (negM s) digits sc).2]] [[], [], [], [2, 172], [], [], [], [2, 3]] ?_
              iterate 8 refine op1 tok ?_ (hv := by first | with_reducible exact True.intro | (first | exact hN | simp; done) | omega | simp | (simp; omega) | (simp +contextual; omega))
              refine runEnd ?_
              exact AW.ret ⟨.inr rfl, _, _, by (conv => lhs; simp), trivial, by simp [hL]⟩
end Go.Proofs.YtdjjmppnnkkloaaGreatDoor
