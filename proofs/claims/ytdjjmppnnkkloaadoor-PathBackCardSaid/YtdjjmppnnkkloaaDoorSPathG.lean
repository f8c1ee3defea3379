import Derived.Test.YtdjjmppnnkkloaaDoorSCore24
import Derived.Test.YtdjjmppnnkkloaaDoorSPath7
import Derived.Test.YtdjjmppnnkkloaaDoorSPathParL
import Derived.Test.YtdjjmppnnkkloaaDoorSQuote
namespace Go.Proofs.YtdjjmppnnkkloaaDoor
open Sy Go
set_option maxRecDepth 100000
set_option maxHeartbeats 4000000
set_option linter.unusedSimpArgs false
set_option linter.unusedVariables false
variable {G : Glob}
theorem pre_hasPre (s p : List UInt8) : p.isPrefixOf s = hasPre s p := by
  rw [Bool.eq_iff_iff, hasPre_iff, List.isPrefixOf_iff_prefix]
  constructor
  · rintro ⟨t, rfl⟩; exact ⟨t, rfl⟩
  · rintro ⟨t, rfl⟩; exact ⟨t, rfl⟩
theorem nameLen_tw : ∀ r : List UInt8, nameLen r = r.takeWhile isNm
  | [] => by simp [nameLen]
  | c :: r => by
    have h : mayNameM [97, c] = isNm c := by
      have h97 : asF nameSet 97 = true := by decide
      simp [mayNameM, isNm, h97, letters]
    simp only [nameLen, List.takeWhile_cons, h, nameLen_tw r]
theorem guessB_pre (s : List UInt8) : guessB s = if hasPre s [42, 42] = true then ⟨5, [], 0⟩ else if hasPre s [46, 42] = true then ⟨3, [], 0⟩ else if hasPre s [91, 42] = true then ⟨4, [], 0⟩
  else if hasPre s [91, 34] = true then ⟨1, (unquoteT (s.drop 1)).1, 0⟩ else if hasPre s [91] = true then ⟨2, [], numG (s.drop 1) 0⟩ else if hasPre s [46] = true then ⟨1, nameLen (s.drop 1), 0⟩ else ⟨0, [], 0⟩ := by
  unfold guessB
  simp only [pre_hasPre, nameLen_tw]
theorem numG_go {s : List UInt8} {i : Nat} {n : Int} (h : i < s.length) : numG (s.drop i) n = if (48 ≤ ((s.getD i 0).toNat : Int) ∧ ((s.getD i 0).toNat : Int) ≤ 57) ∧ n ≤ 9999 then numG (s.drop (i + 1)) (n * 10 + (((s.getD i 0).toNat : Int) - 48)) else n := by
  have e : s.drop i = s.getD i 0 :: s.drop (i + 1) := by
    rw [List.drop_eq_getElem_cons h]; simp [List.getD_eq_getElem?_getD, h]
  rw [e]
  simp only [numG, isDig, digitM, Bool.and_eq_true, decide_eq_true_eq]
theorem guessB_ev (hG : U8 G) (s : List UInt8) (hs : s.length ≤ 1000000000) : AFn Tryd.prog G 15 [.str s] ((guessB s).enc) := by
  refine AFn.introU tok Tryd.func15 (by kernel_rfl) rfl rfl ?_
  simp only [Tryd.f15, enumA, List.map_cons, List.map_nil]
  rw [guessB_pre s]
  refine AW.seqRegionO [] ?_
  refine s1 tok [0, 2] ?_
  refine AOpsO.nil ?_
  refine AW.seq ?_
  refine AW.block ?_
  refine AW.seqRegionO [.nilp, .bool (hasPre s [42, 42])] ?_
  refine s1 tok [0, 2, 10] ?_
  refine s1 tok [0, 2, 11] ?_
  refine s1 tok [0, 2, 9] ?_
  refine AOpsO.nil ?_
  refine AW.cond (c := .tmp 9) (by conv => lhs; simp) trivial ?_ ?_
  · intro h9
    try simp at h9
    rw [if_pos h9]
    refine AW.seqRegionO [] ?_
    refine s1 tok [2, 12] ?_
    refine s1 tok [2] ?_
    refine AOpsO.nil ?_
    exact AW.ret ⟨.inr rfl, _, _, by (conv => lhs; simp), trivial, by simp⟩
  · intro h9
    try simp at h9
    rw [if_neg (by simp [h9])]
    refine AW.seqRegionO [.nilp, .bool (hasPre s [46, 42])] ?_
    refine s1 tok [0, 2, 14] ?_
    refine s1 tok [0, 2, 15] ?_
    refine s1 tok [0, 2, 13] ?_
    refine AOpsO.nil ?_
    refine AW.cond (c := .tmp 13) (by conv => lhs; simp) trivial ?_ ?_
    · intro h13
      try simp at h13
      rw [if_pos h13]
      refine AW.seqRegionO [] ?_
      refine s1 tok [2, 16] ?_
      refine s1 tok [2] ?_
      refine AOpsO.nil ?_
      exact AW.ret ⟨.inr rfl, _, _, by (conv => lhs; simp), trivial, by simp⟩
    · intro h13
      try simp at h13
      rw [if_neg (by simp [h13])]
      refine AW.seqRegionO [.nilp, .bool (hasPre s [91, 42])] ?_
      refine s1 tok [0, 2, 18] ?_
      refine s1 tok [0, 2, 19] ?_
      refine s1 tok [0, 2, 17] ?_
      refine AOpsO.nil ?_
      refine AW.cond (c := .tmp 17) (by conv => lhs; simp) trivial ?_ ?_
      · intro h17
        try simp at h17
        rw [if_pos h17]
        refine AW.seqRegionO [] ?_
        refine s1 tok [2, 20] ?_
        refine s1 tok [2] ?_
        refine AOpsO.nil ?_
        exact AW.ret ⟨.inr rfl, _, _, by (conv => lhs; simp), trivial, by simp⟩
      · intro h17
        try simp at h17
        rw [if_neg (by simp [h17])]
        refine AW.seqRegionO [.nilp, .bool (hasPre s [91, 34])] ?_
        refine s1 tok [0, 2, 22] ?_
        refine s1 tok [0, 2, 23] ?_
        refine s1 tok [0, 2, 21] ?_
        refine AOpsO.nil ?_
        refine AW.cond (c := .tmp 21) (by conv => lhs; simp) trivial ?_ ?_
        · intro h21
          try simp at h21
          rw [if_pos h21]
          have hu := Unquote_ev (G := G) hG (s.drop 1) (by simp; omega)
          have hs1 : 1 ≤ s.length := by obtain ⟨t, rfl⟩ := hasPre_iff.1 h21; simp
          generalize unquoteT (s.drop 1) = u at *
          simp only [List.drop_one] at hu
          refine AW.seqRegionO [.nilp, .tup [.str u.1, .int .i64 u.2.1, .int .i64 u.2.2]] ?_
          refine s1 tok [2, 25] ?_
          refine s1 tok [2, 26] ?_ (hv := by first | with_reducible exact True.intro | (first | exact hu | omega; done) | omega | simp | (simp; omega) | (simp +contextual; omega))
          refine s1 tok [2, 27] ?_ (hv := by first | with_reducible exact True.intro | (first | exact hu | omega; done) | omega | simp | (simp; omega) | (simp +contextual; omega))
          refine s1 tok [2, 24] ?_
          refine s1 tok [2, 24, 28] ?_
          refine s1 tok [2, 24, 28, 29] ?_
          refine s1 tok [2, 28, 29, 30] ?_
          refine s1 tok [2, 3, 29, 30] ?_
          refine s1 tok [2, 3, 30] ?_
          refine s1 tok [2, 3] ?_
          refine AOpsO.nil ?_
          refine AW.seqRegionO [] ?_
          refine s1 tok [2, 31] ?_
          refine s1 tok [2, 32] ?_
          refine s1 tok [2] ?_
          refine AOpsO.nil ?_
          exact AW.ret ⟨.inr rfl, _, _, by (conv => lhs; simp), trivial, by simp⟩
        · intro h21
          try simp at h21
          rw [if_neg (by simp [h21])]
          refine AW.seqRegionO [.nilp, .bool (hasPre s [91])] ?_
          refine s1 tok [0, 2, 34] ?_
          refine s1 tok [0, 2, 35] ?_
          refine s1 tok [0, 2, 33] ?_
          refine AOpsO.nil ?_
          refine AW.cond (c := .tmp 33) (by conv => lhs; simp) trivial ?_ ?_
          · intro h33
            try simp at h33
            rw [if_pos h33]
            have hs1 : 1 ≤ s.length := by obtain ⟨t, rfl⟩ := hasPre_iff.1 h33; simp
            refine AW.seqRegionO [] ?_
            refine s1 tok [0, 2, 6] ?_
            refine AOpsO.nil ?_
            refine AW.seq ?_
            refine AW.seqRegionO [] ?_
            refine s1 tok [0, 2, 6, 7] ?_
            refine AOpsO.nil ?_
            refine AW.block ?_
            refine AW.loop (α := Nat × Nat) (fun a => numG (s.drop a.1) (a.2 : Nat) = numG (s.drop 1) 0 ∧ 1 ≤ a.1 ∧ a.1 ≤ s.length ∧ a.2 ≤ 99999) (fun a => ⟨upds 91 [(0, .p (.str s)), (2, .ptr 2 0), (6, .p (.int .i64 a.2)), (7, .p (.int .i64 a.1))], [], [(2, .vars 33 [.p (.int .i64 0), .p (.str []), .p (.int .i64 0)])], 0⟩) (fun a => s.length - a.1) ((1, 0)) ⟨rfl, by omega, by simp only []; omega, by simp only []; omega⟩ ⟨upds_le (by simp), rfl, by simp, by simp⟩ ?_
            rintro ⟨i, n⟩ ⟨hq, h1, h2, h3⟩
            simp only at hq h1 h2 h3
            rw [← hq]
            have hix : i < s.length → s[i]? = some (s.getD i 0) := fun h => by simp [List.getD_eq_getElem?_getD, h]
            have hgo := fun h => numG_go (s := s) (i := i) (n := (n : Int)) h
            have hb := (s.getD i 0).toNat_lt
            generalize s.getD i 0 = c at *
            refine AW.seq ?_
            refine AW.seqRegionO [.int .u8 c.toNat, .int .u8 c.toNat] ?_
            refine s1 tok [0, 2, 6, 7, 36] ?_
            refine s1 tok [0, 2, 6, 7, 36, 37] ?_
            refine s1 tok [0, 2, 6, 7, 36, 38] ?_ (hv := by first | with_reducible exact True.intro | (first | exact fun h => ⟨by omega, _, hix (by omega), rfl⟩ | exact fun h h2 => ⟨by omega, _, hix h, rfl⟩ | (simp; omega); done) | omega | simp | (simp; omega) | (simp +contextual; omega))
            refine s1 tok [0, 2, 6, 7, 39] ?_ (hv := by first | with_reducible exact True.intro | (first | exact fun h => ⟨by omega, _, hix (by omega), rfl⟩ | exact fun h h2 => ⟨by omega, _, hix h, rfl⟩ | (simp; omega); done) | omega | simp | (simp; omega) | (simp +contextual; omega))
            refine s1 tok [0, 2, 6, 7, 40] ?_
            refine s2 tok [0, 2, 6, 7, 40, 41] 40 rfl rfl ?_
            refine s2 tok [0, 2, 6, 7, 40, 41, 42] 40 rfl rfl ?_
            refine s2 tok [0, 2, 6, 7, 40, 43] 40 rfl rfl ?_ (hv := by first | with_reducible exact True.intro | (first | exact fun h => ⟨by omega, _, hix (by omega), rfl⟩ | exact fun h h2 => ⟨by omega, _, hix h, rfl⟩ | (simp; omega); done) | omega | simp | (simp; omega) | (simp +contextual; omega))
            refine s2 tok [0, 2, 6, 7, 40, 44] 40 rfl rfl ?_ (hv := by first | with_reducible exact True.intro | (first | exact fun h => ⟨by omega, _, hix (by omega), rfl⟩ | exact fun h h2 => ⟨by omega, _, hix h, rfl⟩ | (simp; omega); done) | omega | simp | (simp; omega) | (simp +contextual; omega))
            refine s1 tok [0, 2, 6, 7, 45] ?_ (hv := by first | with_reducible exact True.intro | (first | exact fun h => ⟨by omega, _, hix (by omega), rfl⟩ | exact fun h h2 => ⟨by omega, _, hix h, rfl⟩ | (simp; omega); done) | omega | simp | (simp; omega) | (simp +contextual; omega))
            refine s1 tok [0, 2, 6, 7, 46] ?_
            refine s2 tok [0, 2, 6, 7, 46, 47] 46 rfl rfl ?_
            refine s2 tok [0, 2, 6, 7, 46, 47, 48] 46 rfl rfl ?_
            refine s2 tok [0, 2, 6, 7, 46, 49] 46 rfl rfl ?_ (hv := by first | with_reducible exact True.intro | (first | exact fun h => ⟨by omega, _, hix (by omega), rfl⟩ | exact fun h h2 => ⟨by omega, _, hix h, rfl⟩ | (simp; omega); done) | omega | simp | (simp; omega) | (simp +contextual; omega))
            refine s2 tok [0, 2, 6, 7, 46, 50] 46 rfl rfl ?_ (hv := by first | with_reducible exact True.intro | (first | exact fun h => ⟨by omega, _, hix (by omega), rfl⟩ | exact fun h h2 => ⟨by omega, _, hix h, rfl⟩ | (simp; omega); done) | omega | simp | (simp; omega) | (simp +contextual; omega))
            refine s1 tok [0, 2, 6, 7, 51] ?_ (hv := by first | with_reducible exact True.intro | (first | exact fun h => ⟨by omega, _, hix (by omega), rfl⟩ | exact fun h h2 => ⟨by omega, _, hix h, rfl⟩ | (simp; omega); done) | omega | simp | (simp; omega) | (simp +contextual; omega))
            refine s1 tok [0, 2, 6, 7, 52] ?_
            refine s2 tok [0, 2, 6, 7, 52, 53] 52 rfl rfl ?_
            refine s2 tok [0, 2, 6, 7, 52, 54] 52 rfl rfl ?_ (hv := by first | with_reducible exact True.intro | (first | exact fun h => ⟨by omega, _, hix (by omega), rfl⟩ | exact fun h h2 => ⟨by omega, _, hix h, rfl⟩ | (simp; omega); done) | omega | simp | (simp; omega) | (simp +contextual; omega))
            refine s1 tok [0, 2, 6, 7, 55] ?_ (hv := by first | with_reducible exact True.intro | (first | exact fun h => ⟨by omega, _, hix (by omega), rfl⟩ | exact fun h h2 => ⟨by omega, _, hix h, rfl⟩ | (simp; omega); done) | omega | simp | (simp; omega) | (simp +contextual; omega))
            refine AOpsO.nil ?_
            refine AW.cond (c := .tmp 55) (by conv => lhs; simp) trivial ?_ ?_
            · intro h55
              try simp at h55
              rw [hgo (by omega), if_pos (by omega)]
              have hw : IntKind.u8.wrap ((c.toNat : Int) - 48) = (c.toNat : Int) - 48 := by simp [IntKind.wrap, IntKind.bits, IntKind.signed]; omega
              have hix' := hix (by omega)
              have hcst : ((c.toNat - 48 : Nat) : Int) = (c.toNat : Int) - 48 := by omega
              refine AW.skip ?_
              refine AW.seq ?_
              refine AW.block ?_
              refine AW.regionO [.int .u8 c.toNat] ?_
              refine s1 tok [0, 2, 7, 58] ?_ (h := by intro C; conv => lhs; simp [hw])
              refine s1 tok [0, 2, 7, 59] ?_ (h := by intro C; conv => lhs; simp [hw]) (hv := by first | with_reducible exact True.intro | (first | exact ⟨_, hix', rfl⟩ | (simp [hw]; omega); done) | omega | simp | (simp; omega) | (simp +contextual; omega))
              refine s1 tok [0, 2, 7, 59, 60] ?_ (h := by intro C; conv => lhs; simp [hw])
              refine s1 tok [0, 2, 7, 59, 60, 61] ?_ (h := by intro C; conv => lhs; simp [hw])
              refine s1 tok [0, 2, 7, 59, 62] ?_ (h := by intro C; conv => lhs; simp [hw]) (hv := by first | with_reducible exact True.intro | (first | exact ⟨_, hix', rfl⟩ | (simp [hw]; omega); done) | omega | simp | (simp; omega) | (simp +contextual; omega))
              refine s1 tok [0, 2, 7, 59, 63] ?_ (h := by intro C; conv => lhs; simp [hw]) (hv := by first | with_reducible exact True.intro | (first | exact ⟨_, hix', rfl⟩ | (simp [hw]; omega); done) | omega | simp | (simp; omega) | (simp +contextual; omega))
              refine s1 tok [0, 2, 7, 59, 64] ?_ (h := by intro C; conv => lhs; simp [hw]) (hv := by first | with_reducible exact True.intro | (first | exact ⟨_, hix', rfl⟩ | (simp [hw]; omega); done) | omega | simp | (simp; omega) | (simp +contextual; omega))
              refine s1 tok [0, 2, 7, 65] ?_ (h := by intro C; conv => lhs; simp [hw]) (hv := by first | with_reducible exact True.intro | (first | exact ⟨_, hix', rfl⟩ | (simp [hw]; omega); done) | omega | simp | (simp; omega) | (simp +contextual; omega))
              refine s1 tok [0, 2, 6, 7] ?_ (h := by intro C; conv => lhs; simp [hw])
              refine AOpsO.nil ?_
              refine AW.regionO [] ?_
              refine s1 tok [0, 2, 6, 56] ?_
              refine s1 tok [0, 2, 6, 57] ?_
              refine s1 tok [0, 2, 6, 7] ?_
              refine AOpsO.nil ?_
              exact ⟨(i + 1, n * 10 + (c.toNat - 48)), ⟨by simp only []; congr 1; omega, by simp only []; omega, by simp only []; omega, by simp only []; omega⟩, by simp only []; omega, upds_le (by simp [hcst]), rfl, by simp [hcst], by simp [hcst]⟩
            · intro h55
              try simp at h55
              have hn : numG (s.drop i) n = n := by
                rcases Nat.lt_or_ge i s.length with h | h
                · rw [hgo h, if_neg (by omega)]
                · rw [List.drop_of_length_le h]; rfl
              rw [hn]
              refine AW.exit ?_
              simp
              refine AW.seqRegionO [] ?_
              refine s1 tok [2, 66] ?_
              refine s1 tok [2, 67] ?_
              refine s1 tok [2] ?_
              refine AOpsO.nil ?_
              exact AW.ret ⟨.inr rfl, _, _, by (conv => lhs; simp), trivial, by simp⟩
          · intro h33
            try simp at h33
            rw [if_neg (by simp [h33])]
            refine AW.seqRegionO [.nilp, .bool (hasPre s [46])] ?_
            refine s1 tok [0, 2, 69] ?_
            refine s1 tok [0, 2, 70] ?_
            refine s1 tok [0, 2, 68] ?_
            refine AOpsO.nil ?_
            refine AW.cond (c := .tmp 68) (by conv => lhs; simp) trivial ?_ ?_
            · intro h68
              try simp at h68
              rw [if_pos h68]
              obtain ⟨r, rfl⟩ := hasPre_iff.1 h68
              simp only [List.cons_append, List.nil_append, List.drop_succ_cons, List.drop_zero, List.length_cons] at hs ⊢
              have hnl := nameLen_le r
              refine AW.seqRegionO [] ?_
              refine s1 tok [0, 2, 8] ?_
              refine AOpsO.nil ?_
              refine AW.seq ?_
              refine AW.block ?_
              refine AW.loop (α := Nat) (fun n => n ≤ (nameLen r).length) (fun n => ⟨upds 91 [(0, .p (.str (46 :: r))), (2, .ptr 2 0), (8, .p (.int .i64 (n + 1)))], [], [(2, .vars 33 [.p (.int .i64 0), .p (.str []), .p (.int .i64 0)])], 0⟩) (fun n => r.length - n) (0) (by omega) ⟨upds_le (by simp), rfl, by simp, by simp⟩ ?_
              rintro n hn
              refine AW.seq ?_
              by_cases hs19 : n < r.length
              ·
                obtain ⟨c, hc⟩ : ∃ c, r[n]? = some c := ⟨r[n], by simp [hs19]⟩
                have hgo := nameLen_go r n c hn hc
                have hM := MayName_ev (G := G) [97, c]
                have hsl := drop_take1 (l := 46 :: r) (k := n + 1) (x := c) (by simpa using hc)
                refine AW.seqRegionO [.tup [.str [97, c]], .bool (mayNameM [97, c])] ?_
                refine s1 tok [0, 2, 8, 71] ?_
                refine s1 tok [0, 2, 8, 71, 72] ?_
                refine s1 tok [0, 2, 8, 71, 73] ?_ (hv := by first | with_reducible exact True.intro | ((simp [hs19]; exact ⟨by rw [show ((n : Int) + 1 + 1).toNat = n + 1 + 1 by omega]; exact hsl, hM⟩); done) | omega | simp | (simp; omega) | (simp +contextual; omega))
                refine s1 tok [0, 2, 8, 74] ?_ (hv := by first | with_reducible exact True.intro | ((simp [hs19]; exact ⟨by rw [show ((n : Int) + 1 + 1).toNat = n + 1 + 1 by omega]; exact hsl, hM⟩); done) | omega | simp | (simp; omega) | (simp +contextual; omega))
                refine s1 tok [0, 2, 8, 75] ?_
                refine s2 tok [0, 2, 8, 75, 76] 75 rfl rfl ?_
                refine s2 tok [0, 2, 8, 75, 76, 77] 75 rfl rfl ?_
                refine s2 tok [0, 2, 8, 75, 76, 77, 78] 75 rfl rfl ?_
                refine s2 tok [0, 2, 8, 75, 76, 77, 79] 75 rfl rfl ?_ (hv := by first | with_reducible exact True.intro | ((simp [hs19]; exact ⟨by rw [show ((n : Int) + 1 + 1).toNat = n + 1 + 1 by omega]; exact hsl, hM⟩); done) | omega | simp | (simp; omega) | (simp +contextual; omega))
                refine s2 tok [0, 2, 8, 75, 80] 75 rfl rfl ?_ (hv := by first | with_reducible exact True.intro | ((simp [hs19]; exact ⟨by rw [show ((n : Int) + 1 + 1).toNat = n + 1 + 1 by omega]; exact hsl, hM⟩); done) | omega | simp | (simp; omega) | (simp +contextual; omega))
                refine s2 tok [0, 2, 8, 75, 81] 75 rfl rfl ?_ (hv := by first | with_reducible exact True.intro | ((simp [hs19]; exact ⟨by rw [show ((n : Int) + 1 + 1).toNat = n + 1 + 1 by omega]; exact hsl, hM⟩); done) | omega | simp | (simp; omega) | (simp +contextual; omega))
                refine s2 tok [0, 2, 8, 75, 82] 75 rfl rfl ?_ (hv := by first | with_reducible exact True.intro | ((simp [hs19]; exact ⟨by rw [show ((n : Int) + 1 + 1).toNat = n + 1 + 1 by omega]; exact hsl, hM⟩); done) | omega | simp | (simp; omega) | (simp +contextual; omega))
                refine s1 tok [0, 2, 8, 83] ?_ (hv := by first | with_reducible exact True.intro | ((simp [hs19]; exact ⟨by rw [show ((n : Int) + 1 + 1).toNat = n + 1 + 1 by omega]; exact hsl, hM⟩); done) | omega | simp | (simp; omega) | (simp +contextual; omega))
                refine AOpsO.nil ?_
                refine AW.cond (c := .tmp 83) (by conv => lhs; simp) trivial ?_ ?_
                · intro h83
                  try simp at h83
                  have h8 := hgo.1 h83.2
                  refine AW.skip ?_
                  refine AW.block ?_
                  refine AW.regionO [] ?_
                  refine s1 tok [0, 2, 84] ?_
                  refine s1 tok [0, 2, 85] ?_
                  refine s1 tok [0, 2, 8] ?_
                  refine AOpsO.nil ?_
                  exact ⟨n + 1, by omega, by omega, upds_le (by simp), rfl, by simp, by simp⟩
                · intro h83
                  try simp at h83
                  have h8 : n = (nameLen r).length := by
                    have : ¬ n < (nameLen r).length := fun h => by rw [hgo.2 h] at h83; simp [hs19] at h83
                    omega
                  have hk := nameLen_key 46 h8
                  have hk2 : List.take n r = nameLen r := by rw [h8]; exact nameLen_take r
                  refine AW.exit ?_
                  simp
                  refine AW.seqRegionO [] ?_
                  refine s1 tok [2, 8, 86] ?_
                  refine s1 tok [2, 86, 87] ?_
                  refine s1 tok [2, 88] ?_
                  refine s1 tok [2, 89] ?_
                  refine s1 tok [2] ?_
                  refine AOpsO.nil ?_
                  exact AW.ret ⟨.inr rfl, _, _, by (conv => lhs; simp), trivial, by simp [hk, hk2]⟩
              ·
                refine AW.seqRegionO [.nilp, .bool false] ?_
                refine s1 tok [0, 2, 8, 71] ?_
                refine s1 tok [0, 2, 8, 71, 72] ?_
                refine s1 tok [0, 2, 8, 71, 73] ?_
                refine s1 tok [0, 2, 8, 74] ?_
                refine s1 tok [0, 2, 8, 75] ?_
                refine s2 tok [0, 2, 8, 75, 76] 75 rfl rfl ?_
                refine s2 tok [0, 2, 8, 75, 76, 77] 75 rfl rfl ?_
                refine s2 tok [0, 2, 8, 75, 76, 77, 78] 75 rfl rfl ?_
                refine s2 tok [0, 2, 8, 75, 76, 77, 79] 75 rfl rfl ?_
                refine s2 tok [0, 2, 8, 75, 80] 75 rfl rfl ?_
                refine s2 tok [0, 2, 8, 75, 81] 75 rfl rfl ?_
                refine s2 tok [0, 2, 8, 75, 82] 75 rfl rfl ?_
                refine s1 tok [0, 2, 8, 83] ?_
                refine AOpsO.nil ?_
                refine AW.cond (c := .tmp 83) (by conv => lhs; simp) trivial ?_ ?_
                · intro h83
                  try simp at h83
                · intro h83
                  try simp at h83
                  have h8 : n = (nameLen r).length := by omega
                  have hk := nameLen_key 46 h8
                  have hk2 : List.take n r = nameLen r := by rw [h8]; exact nameLen_take r
                  refine AW.exit ?_
                  simp
                  refine AW.seqRegionO [] ?_
                  refine s1 tok [2, 8, 86] ?_
                  refine s1 tok [2, 86, 87] ?_
                  refine s1 tok [2, 88] ?_
                  refine s1 tok [2, 89] ?_
                  refine s1 tok [2] ?_
                  refine AOpsO.nil ?_
                  exact AW.ret ⟨.inr rfl, _, _, by (conv => lhs; simp), trivial, by simp [hk, hk2]⟩
            · intro h68
              try simp at h68
              rw [if_neg (by simp [h68])]
              refine AW.skip ?_
              refine AW.seqRegionO [] ?_
              refine s1 tok [2, 90] ?_
              refine s1 tok [2] ?_
              refine AOpsO.nil ?_
              exact AW.ret ⟨.inr rfl, _, _, by (conv => lhs; simp), trivial, by simp⟩
end Go.Proofs.YtdjjmppnnkkloaaDoor
