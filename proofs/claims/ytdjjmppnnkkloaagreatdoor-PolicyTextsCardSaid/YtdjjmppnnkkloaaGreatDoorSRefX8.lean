import Derived.Test.YtdjjmppnnkkloaaGreatDoorSRefTL
import Derived.Test.YtdjjmppnnkkloaaGreatDoorM3
namespace Go.Proofs.YtdjjmppnnkkloaaGreatDoor
open Sy Go
set_option maxRecDepth 100000
set_option maxHeartbeats 4000000
set_option linter.unusedSimpArgs false
set_option linter.unusedVariables false
variable {G : Glob}
theorem lines_step {s : List UInt8} {i f : Nat} (hf : f ≤ i) (hno : 10 ∉ (s.take i).drop f) (h : s[i]? = some 10) : splitB 10 (s.drop f) = (s.take i).drop f :: splitB 10 (s.drop (i + 1)) := by
  have hlt := (List.getElem?_eq_some_iff.1 h)
  have e : s.drop f = (s.take i).drop f ++ 10 :: s.drop (i + 1) := by
    conv => lhs; rw [← List.take_append_drop i s]
    rw [List.drop_append_of_le_length (by have := hlt.1; simp; omega), List.drop_eq_getElem_cons hlt.1, hlt.2]
  rw [e, splitB_at hno]
theorem lines_end {s : List UInt8} {f : Nat} {out : List (List UInt8)} (hq : splitB 10 s = out ++ splitB 10 (s.drop f)) (hno : 10 ∉ s.drop f) : linesT s = if s.drop f = [] then out else out ++ [s.drop f] := by
  unfold linesT
  rw [hq, splitB_no hno, List.getLast?_concat, List.dropLast_concat]
  by_cases h : s.drop f = []
  · rw [if_pos (by rw [h]), if_pos h]
  · rw [if_neg (by simpa using h), if_neg h]
theorem lines8_ev (s : List UInt8) (hs : s.length ≤ 1000000000) : AFn Tryz.prog G 31 [.str s] (.sl 1 ((linesT s).map PD.str)) := by
  refine AFn.introU tok Tryz.func31 (by kernel_rfl) rfl rfl ?_
  simp only [Tryz.f31, enumA, List.map_cons, List.map_nil]
  refine rgn [] [[0]] ?_
  refine op1 tok ?_
  refine runEnd ?_
  refine rgn [] [[], [0, 3]] ?_
  iterate 2 refine op1 tok ?_
  refine runEnd ?_
  refine rgn [] [[]] ?_
  refine op1 tok ?_
  refine runEnd ?_
  refine AW.seq ?_
  refine rgn [] [[]] ?_
  refine op1 tok ?_
  refine runEnd ?_
  refine AW.block ?_
  refine AW.loop (α := Nat × Nat × List (List UInt8)) (fun a => a.1 ≤ s.length ∧ a.2.1 ≤ a.1 ∧ splitB 10 s = a.2.2 ++ splitB 10 (s.drop a.2.1) ∧ 10 ∉ (s.take a.1).drop a.2.1 ∧ a.2.2.length ≤ a.2.1) (fun a => ⟨upds 37 [(0, .p (.str s)), (3, .ms 6), (4, .p (.int .i64 a.2.1)), (5, .p (.int .i64 a.1))], [], [(6, .row 9 1 (a.2.2.map PD.str))], 0⟩) (fun a => s.length - a.1) ((0, 0, [])) ⟨by simp only []; omega, by simp, by simp, by simp, by simp⟩ ⟨upds_le (by simp), rfl, by simp, by simp⟩ ?_
  rintro ⟨i, f, out⟩ ⟨hi, hf, hq, hno, hol⟩
  simp only at hi hf hq hno hol
  refine AW.seq ?_
  refine rgn [] [[], [], [], [0, 3, 4, 5, 10]] ?_
  iterate 4 refine op1 tok ?_
  refine runEnd ?_
  refine cnd ?_ ?_
  · intro h10
    try simp at h10
    have hc : s[i]? = some (s.getD i 0) := by rw [List.getD_eq_getElem?_getD, List.getElem?_eq_getElem (by omega)]; rfl
    generalize s.getD i 0 = c at *
    have l10 : ((c.toNat : Int) = 10) ↔ c = 10 := u8_litU c 10 (by decide)
    refine AW.skip ?_
    refine AW.seq ?_
    refine AW.block ?_
    refine rgn [.int .u8 c.toNat] [[], [], [], [0, 3, 4, 5, 16]] ?_
    iterate 4 refine op1 tok ?_ (hv := by first | with_reducible exact True.intro | (exact ⟨c, hc, rfl⟩; done) | omega | simp | (simp; omega) | (simp +contextual; omega))
    refine runEnd ?_
    refine cnd ?_ ?_
    · intro h16
      try simp at h16
      have hst := lines_step hf hno (by rw [hc, l10.1 h16])
      have hq' : splitB 10 s = (out ++ [(s.take i).drop f]) ++ splitB 10 (s.drop (i + 1)) := by rw [hq, hst]; simp
      refine rgn [.str ((s.take i).drop f)] [[], [], [], [], [0, 5, 17, 21], [], [], [0, 3, 5]] ?_
      iterate 8 refine op1 tok ?_ (hv := by first | with_reducible exact True.intro | (first | (simp; omega) | simp; done) | omega | simp | (simp; omega) | (simp +contextual; omega))
      refine runEnd ?_
      refine rgz [] [[], [], [0, 3, 4, 5]] ?_
      iterate 3 refine op1 tok ?_
      refine runEnd ?_
      refine rgz [] [[], [], [0, 3, 4, 5]] ?_
      iterate 3 refine op1 tok ?_
      refine runEnd ?_
      exact ⟨(i + 1, i + 1, out ++ [(s.take i).drop f]), ⟨by simp only []; omega, by simp, hq', by simp, by simp; omega⟩, by simp only []; omega, upds_le (by simp), rfl, by simp, by simp⟩
    · intro h16
      try simp at h16
      have hno2 : 10 ∉ (s.take (i + 1)).drop f := by
        rw [List.take_add_one, hc, List.drop_append_of_le_length (by simp; omega)]
        simp only [List.mem_append, not_or]
        refine ⟨hno, ?_⟩
        simp only [Option.toList_some, List.mem_singleton]
        rintro rfl
        exact absurd (l10.2 rfl) (by omega)
      refine AW.skip ?_
      refine rgz [] [[], [], [0, 3, 4, 5]] ?_
      iterate 3 refine op1 tok ?_
      refine runEnd ?_
      exact ⟨(i + 1, f, out), ⟨by simp only []; omega, by simp only []; omega, hq, hno2, by simp only []; omega⟩, by simp only []; omega, upds_le (by simp), rfl, by simp, by simp⟩
  · intro h10
    try simp at h10
    obtain rfl : i = s.length := by omega
    rw [List.take_length] at hno
    have hfin := lines_end hq hno
    refine AW.exit ?_
    simp
    refine AW.seq ?_
    refine rgn [] [[], [], [], [0, 3, 4, 29]] ?_
    iterate 4 refine op1 tok ?_
    refine runEnd ?_
    refine cnd ?_ ?_
    · intro h29
      try simp at h29
      rw [if_neg (by rw [← List.length_eq_zero_iff]; simp; omega)] at hfin
      rw [hfin]
      refine rgz [.str (s.drop f)] [[], [], [], [30, 33], [], [], [3]] ?_
      iterate 7 refine op1 tok ?_ (hv := by first | with_reducible exact True.intro | (first | (simp; omega) | simp; done) | omega | simp | (simp; omega) | (simp +contextual; omega))
      refine runEnd ?_
      refine AW.freezeE 6 (by conv => lhs; simp) ?_
      refine rgn [] [[], [2]] ?_
      iterate 2 refine op1 tok ?_
      refine runEnd ?_
      exact AW.ret ⟨.inr rfl, _, _, by (conv => lhs; simp), trivial, by simp⟩
    · intro h29
      try simp at h29
      rw [if_pos (by rw [← List.length_eq_zero_iff]; simp; omega)] at hfin
      rw [hfin]
      refine AW.skip ?_
      refine AW.freezeE 6 (by conv => lhs; simp) ?_
      refine rgn [] [[], [2]] ?_
      iterate 2 refine op1 tok ?_
      refine runEnd ?_
      exact AW.ret ⟨.inr rfl, _, _, by (conv => lhs; simp), trivial, by simp⟩
theorem behind8_ev (l w : List UInt8) (hl : l.length ≤ 1000000000) (hw : w.length ≤ 1000) : AFn Tryz.prog G 33 [.str l, .str w] (.str (behindT l w)) := by
  refine AFn.introU tok Tryz.func33 (by kernel_rfl) rfl rfl ?_
  simp only [Tryz.f33, enumA, List.map_cons, List.map_nil]
  have e : behindT l w = if l.take (w.length + 1) = w ++ [32] then l.drop (w.length + 1) else [] := rfl
  have e2 : l.take (w.length + 1) = w ++ [32] → w.length + 1 ≤ l.length := fun h => by
    have := congrArg List.length h
    simp at this; omega
  rw [e]
  refine rgn [] [[0, 1]] ?_
  refine op1 tok ?_
  refine runEnd ?_
  refine rgn [] [[], [], [], [0, 1, 5]] ?_
  iterate 4 refine op1 tok ?_
  refine runEnd ?_
  refine AW.seq ?_
  refine rgn [] [[], [], [], [], [0, 1, 5, 13], [], [], [], [], [0, 5, 13, 16, 18], [], [0, 5, 20]] ?_
  iterate 5 refine op1 tok ?_
  iterate 6 refine op2 tok ?_
  refine op1 tok ?_
  refine runEnd ?_
  refine cnd ?_ ?_
  · intro h20
    try simp at h20
    rw [if_neg (fun h => by
      rcases h20 with h' | h'
      · have := e2 h; omega
      · exact h' h)]
    refine rgn [] [[]] ?_
    refine op1 tok ?_
    refine runEnd ?_
    exact AW.ret ⟨.inr rfl, _, _, by (conv => lhs; simp), trivial, by simp⟩
  · intro h20
    try simp at h20
    rw [if_pos h20.2]
    refine AW.skip ?_
    refine rgn [] [[], [], [23], [4]] ?_
    iterate 4 refine op1 tok ?_
    refine runEnd ?_
    exact AW.ret ⟨.inr rfl, _, _, by (conv => lhs; simp), trivial, by simp⟩
theorem dollar8_ev (s : List UInt8) (hs : s.length ≤ 1000000000) : AFn Tryz.prog G 35 [.str s] (.int .i64 (dollarT s)) := by
  refine AFn.introU tok Tryz.func35 (by kernel_rfl) rfl rfl ?_
  simp only [Tryz.f35, enumA, List.map_cons, List.map_nil]
  have e : dollarT s = (s.takeWhile notD).length := rfl
  rw [e]
  refine rgn [] [[0]] ?_
  refine op1 tok ?_
  refine runEnd ?_
  refine AW.seq ?_
  refine rgn [] [[]] ?_
  refine op1 tok ?_
  refine runEnd ?_
  refine AW.block ?_
  refine AW.loop (α := Nat) (fun k => k ≤ s.length ∧ (s.take k).all notD = true) (fun k => ⟨upds 17 [(0, .p (.str s)), (3, .p (.int .i64 k))], [], [], 0⟩) (fun k => s.length - k) (0) ⟨by omega, by simp⟩ ⟨upds_le (by simp), rfl, by simp, by simp⟩ ?_
  rintro k ⟨hk, ha⟩
  refine AW.seq ?_
  refine rgn [] [[], [], [], [0, 3, 7]] ?_
  iterate 4 refine op1 tok ?_
  refine runEnd ?_
  refine cnd ?_ ?_
  · intro h7
    try simp at h7
    have hc : s[k]? = some (s.getD k 0) := by rw [List.getD_eq_getElem?_getD, List.getElem?_eq_getElem (by omega)]; rfl
    generalize s.getD k 0 = c at *
    have l36 : ((c.toNat : Int) = 36) ↔ c = 36 := u8_litU c 36 (by decide)
    refine AW.skip ?_
    refine AW.seq ?_
    refine AW.block ?_
    refine rgn [.int .u8 c.toNat] [[], [], [], [0, 3, 13]] ?_
    iterate 4 refine op1 tok ?_ (hv := by first | with_reducible exact True.intro | (exact ⟨c, hc, rfl⟩; done) | omega | simp | (simp; omega) | (simp +contextual; omega))
    refine runEnd ?_
    refine cnd ?_ ?_
    · intro h13
      try simp at h13
      have hfin := tw_take hk ha (fun b hb => by rw [hc] at hb; cases hb; unfold notD; simp [l36.1 h13])
      rw [hfin]
      refine rgn [] [[], [2]] ?_
      iterate 2 refine op1 tok ?_
      refine runEnd ?_
      exact AW.ret ⟨.inr rfl, _, _, by (conv => lhs; simp), trivial, by simp⟩
    · intro h13
      try simp at h13
      have ha2 : (s.take (k + 1)).all notD = true := by
        rw [List.take_add_one, hc, List.all_append, ha]
        simp only [Option.toList_some, List.all_cons, List.all_nil, Bool.and_true, Bool.true_and, notD, Bool.not_eq_true', decide_eq_false_iff_not]
        exact fun e => h13 (l36.2 e)
      refine AW.skip ?_
      refine rgz [] [[], [], [0, 3]] ?_
      iterate 3 refine op1 tok ?_
      refine runEnd ?_
      exact ⟨k + 1, ⟨by omega, ha2⟩, by omega, upds_le (by simp), rfl, by simp, by simp⟩
  · intro h7
    try simp at h7
    have hfin := tw_take hk ha (fun b hb => by have hl := (List.getElem?_eq_some_iff.1 hb).1; omega)
    rw [hfin]
    obtain rfl : k = s.length := by omega
    refine AW.exit ?_
    simp
    refine rgn [] [[], [], [2]] ?_
    iterate 3 refine op1 tok ?_
    refine runEnd ?_
    exact AW.ret ⟨.inr rfl, _, _, by (conv => lhs; simp), trivial, by simp⟩
theorem digits8_ev (s : List UInt8) (hs : s.length ≤ 1000000000) : AFn Tryz.prog G 39 [.str s] (.int .i64 (digitsT s)) := by
  refine AFn.introU tok Tryz.func39 (by kernel_rfl) rfl rfl ?_
  simp only [Tryz.f39, enumA, List.map_cons, List.map_nil]
  have e : digitsT s = if s.all isDig = true ∧ s.length ≤ 7 then dgN s else 0 := rfl
  rw [e]
  refine rgn [] [[0]] ?_
  refine op1 tok ?_
  refine runEnd ?_
  refine rgn [] [[]] ?_
  refine op1 tok ?_
  refine runEnd ?_
  refine AW.seq ?_
  refine rgn [] [[]] ?_
  refine op1 tok ?_
  refine runEnd ?_
  refine AW.block ?_
  refine AW.loop (α := Nat) (fun k => k ≤ s.length ∧ (s.take k).all isDig = true ∧ k ≤ 7) (fun k => ⟨upds 34 [(0, .p (.str s)), (3, .p (.int .i64 (dgN (s.take k)))), (4, .p (.int .i64 k))], [], [], 0⟩) (fun k => s.length - k) (0) ⟨by omega, by simp, by omega⟩ ⟨upds_le (by simp [dgN]), rfl, by simp, by simp⟩ ?_
  rintro k ⟨hk, ha, h7⟩
  have hdl : dgN (s.take k) < 10 ^ k := dgN_lt k (by simp; omega) ha
  have hd5 : (10 : Nat) ^ k ≤ 10 ^ 7 := Nat.pow_le_pow_right (by decide) (by omega)
  refine AW.seq ?_
  refine rgn [] [[], [], [], [0, 3, 4, 8]] ?_
  iterate 4 refine op1 tok ?_
  refine runEnd ?_
  refine cnd ?_ ?_
  · intro h8
    try simp at h8
    have hc : s[k]? = some (s.getD k 0) := by rw [List.getD_eq_getElem?_getD, List.getElem?_eq_getElem (by omega)]; rfl
    generalize s.getD k 0 = c at *
    have hdig : isDig c = true ↔ (48 ≤ (c.toNat : Int) ∧ (c.toNat : Int) ≤ 57) := by simp [isDig, digitM]
    refine AW.skip ?_
    refine AW.seq ?_
    refine AW.block ?_
    refine AW.seq ?_
    refine rgn [.int .u8 c.toNat, .int .u8 c.toNat] [[], [], [], [], [0, 3, 4, 15], [], [], [], [], [0, 3, 4, 20], [], [], [], [0, 3, 4, 24]] ?_
    iterate 14 first | refine op1 tok ?_ (hv := by first | with_reducible exact True.intro | (first | exact ⟨c, hc, rfl⟩ | exact fun h => ⟨c, hc, rfl⟩ | (intro h; exact ⟨by omega, c, hc, rfl⟩); done) | omega | simp | (simp; omega) | (simp +contextual; omega)) | refine op2 tok ?_ (hv := by first | with_reducible exact True.intro | (first | exact ⟨c, hc, rfl⟩ | exact fun h => ⟨c, hc, rfl⟩ | (intro h; exact ⟨by omega, c, hc, rfl⟩); done) | omega | simp | (simp; omega) | (simp +contextual; omega))
    refine runEnd ?_
    refine cnd ?_ ?_
    · intro h24
      try simp at h24
      rw [if_neg (by
        rintro ⟨h1, h2⟩
        have h3 := List.all_eq_true.1 h1 c (List.mem_of_getElem? hc)
        have h4 := hdig.1 h3
        omega)]
      refine rgn [] [[]] ?_
      refine op1 tok ?_
      refine runEnd ?_
      exact AW.ret ⟨.inr rfl, _, _, by (conv => lhs; simp), trivial, by simp⟩
    · intro h24
      try simp at h24
      have ha2 : (s.take (k + 1)).all isDig = true := by
        rw [List.take_add_one, hc, List.all_append, ha]
        simp [hdig]; omega
      have hsn : dgN (s.take (k + 1)) = dgN (s.take k) * 10 + (c.toNat - 48) := by
        rw [List.take_add_one, hc]; exact dgN_snoc _ _
      have w1 := w8 (n := (c.toNat : Int) - 48) (by omega)
      generalize dgN (s.take k) = n at *
      refine AW.skip ?_
      refine rgz [.int .u8 c.toNat] [[], [], [], [], [0, 4, 26, 29], [], [], [0, 4, 32], [0, 3, 4]] ?_
      iterate 9 refine op1 tok ?_ (h := by intro C; conv => lhs; simp [w1]) (hv := by first | with_reducible exact True.intro | (first | exact ⟨c, hc, rfl⟩ | (simp [w1]; omega); done) | omega | simp | (simp; omega) | (simp +contextual; omega))
      refine runEnd ?_
      refine rgz [] [[], [], [0, 3, 4]] ?_
      iterate 3 refine op1 tok ?_
      refine runEnd ?_
      exact ⟨k + 1, ⟨by omega, ha2, by omega⟩, by omega, upds_le (by simp [hsn, show ((n * 10 + (c.toNat - 48) : Nat) : Int) = 10 * (n : Int) + ((c.toNat : Int) - 48) from by omega]), rfl, by simp [hsn, show ((n * 10 + (c.toNat - 48) : Nat) : Int) = 10 * (n : Int) + ((c.toNat : Int) - 48) from by omega], by simp [hsn, show ((n * 10 + (c.toNat - 48) : Nat) : Int) = 10 * (n : Int) + ((c.toNat : Int) - 48) from by omega]⟩
  · intro h8
    try simp at h8
    obtain rfl : k = s.length := by omega
    rw [List.take_length] at ha ⊢
    rw [if_pos ⟨ha, h7⟩]
    refine AW.exit ?_
    simp
    refine rgn [] [[], [2]] ?_
    iterate 2 refine op1 tok ?_
    refine runEnd ?_
    exact AW.ret ⟨.inr rfl, _, _, by (conv => lhs; simp), trivial, by simp⟩
end Go.Proofs.YtdjjmppnnkkloaaGreatDoor
