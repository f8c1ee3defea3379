import Derived.Test.YtdjjmppnnkkloaaGreatDoorK1
import Derived.Test.YtdjjmppnnkkloaaGreatDoorSQuote
namespace Go.Proofs.YtdjjmppnnkkloaaGreatDoor
open Sy Go
set_option maxRecDepth 100000
set_option maxHeartbeats 4000000
set_option linter.unusedSimpArgs false
set_option linter.unusedVariables false
variable {G : Glob}
theorem pre_hasPre (s p : List UInt8) : p.isPrefixOf s = hasPre s p := by
 rw [Bool.eq_iff_iff, hasPre_iff, List.isPrefixOf_iff_prefix]
 constructor
 ·rintro ⟨t, rfl⟩; exact ⟨t, rfl⟩
 ·rintro ⟨t, rfl⟩; exact ⟨t, rfl⟩
theorem nameLen_tw : ∀ r : List UInt8, nameLen r = r.takeWhile isNm
 | [] => by simp [nameLen]
 | c :: r => by
  have h : mayNameM [97, c] = isNm c := by
   have h97 : asF nameSet 97 = true := by decide
   simp [mayNameM, isNm, h97, letters]
  simp only [nameLen, List.takeWhile_cons, h, nameLen_tw r]
theorem guessB_pre (s : List UInt8) : guessB s = if hasPre s [42, 42] = true then ⟨5, [], 0⟩ else if hasPre s [46, 42] = true then ⟨3, [], 0⟩ else if hasPre s [91, 42] = true then ⟨4, [], 0⟩
 else if hasPre s [91, 34] = true then ⟨1, (unquoteT (s.drop 1)).1, 0⟩ else if hasPre s [91] = true then ⟨2, [], numG (s.drop 1) 0⟩ else if hasPre s [46] = true then ⟨1, nameLen (s.drop 1), 0⟩ else ⟨0, [], 0⟩ := by
 unfold guessB
 simp only [pre_hasPre, nameLen_tw]
theorem numG_go {s : List UInt8} {i : Nat} {n : Int} (h : i < s.length) : numG (s.drop i) n = if (48 ≤ ((s.getD i 0).toNat : Int) ∧ ((s.getD i 0).toNat : Int) ≤ 57) ∧ n ≤ 9999 then numG (s.drop (i + 1)) (n * 10 + (((s.getD i 0).toNat : Int) - 48)) else n := by
 have e : s.drop i = s.getD i 0 :: s.drop (i + 1) := by
  rw [List.drop_eq_getElem_cons h]; simp [List.getD_eq_getElem?_getD, h]
 rw [e]
 simp only [numG, isDig, digitM, Bool.and_eq_true, decide_eq_true_eq]
theorem guessB_ev (hG : U8 G) (s : List UInt8) (hs : s.length ≤ 1000000000) : AFn Tryz.prog G 104 [.str s] ((guessB s).enc) := by
 refine AFn.introU tok Tryz.func104 (by kernel_rfl) rfl rfl ?_
 simp only [Tryz.f104, enumA, List.map_cons, List.map_nil]
 rw [guessB_pre s]
 refine rgn [] [[]] ?_
 refine op1 tok ?_
 refine runEnd ?_
 refine AW.seq ?_
 refine AW.block ?_
 refine rgn [.nilp, .bool (hasPre s [42, 42])] [[], [], [0, 2, 9]] ?_
 iterate 3 refine op1 tok ?_
 refine runEnd ?_
 refine cnd ?_ ?_
 ·intro h9
  try simp at h9
  rw [if_pos h9]
  refine rgn [] [[], [2]] ?_
  iterate 2 refine op1 tok ?_
  refine runEnd ?_
  exact AW.ret ⟨.inr rfl, _, _, by (conv => lhs; simp), trivial, by simp⟩
 ·intro h9
  try simp at h9
  rw [if_neg (by simp [h9])]
  refine rgn [.nilp, .bool (hasPre s [46, 42])] [[], [], [0, 2, 13]] ?_
  iterate 3 refine op1 tok ?_
  refine runEnd ?_
  refine cnd ?_ ?_
  ·intro h13
   try simp at h13
   rw [if_pos h13]
   refine rgn [] [[], [2]] ?_
   iterate 2 refine op1 tok ?_
   refine runEnd ?_
   exact AW.ret ⟨.inr rfl, _, _, by (conv => lhs; simp), trivial, by simp⟩
  ·intro h13
   try simp at h13
   rw [if_neg (by simp [h13])]
   refine rgn [.nilp, .bool (hasPre s [91, 42])] [[], [], [0, 2, 17]] ?_
   iterate 3 refine op1 tok ?_
   refine runEnd ?_
   refine cnd ?_ ?_
   ·intro h17
    try simp at h17
    rw [if_pos h17]
    refine rgn [] [[], [2]] ?_
    iterate 2 refine op1 tok ?_
    refine runEnd ?_
    exact AW.ret ⟨.inr rfl, _, _, by (conv => lhs; simp), trivial, by simp⟩
   ·intro h17
    try simp at h17
    rw [if_neg (by simp [h17])]
    refine rgn [.nilp, .bool (hasPre s [91, 34])] [[], [], [0, 2, 21]] ?_
    iterate 3 refine op1 tok ?_
    refine runEnd ?_
    refine cnd ?_ ?_
    ·intro h21
     try simp at h21
     rw [if_pos h21]
     have hu := Unquote_ev (G := G) hG (s.drop 1) (by simp; omega)
     have hs1 : 1 ≤ s.length := by obtain ⟨t, rfl⟩ := hasPre_iff.1 h21; simp
     generalize unquoteT (s.drop 1) = u at *
     simp only [List.drop_one] at hu
     refine rgn [.nilp, .tup [.str u.1, .int .i64 u.2.1, .int .i64 u.2.2]] [[], [], [], [2, 24], [], [], [], [], [2, 3, 30], [2, 3]] ?_
     iterate 10 refine op1 tok ?_ (hv := by first | with_reducible exact True.intro | (first | exact hu | omega; done) | omega | simp | (simp; omega) | (simp +contextual; omega))
     refine runEnd ?_
     refine rgn [] [[], [], [2]] ?_
     iterate 3 refine op1 tok ?_
     refine runEnd ?_
     exact AW.ret ⟨.inr rfl, _, _, by (conv => lhs; simp), trivial, by simp⟩
    ·intro h21
     try simp at h21
     rw [if_neg (by simp [h21])]
     refine rgn [.nilp, .bool (hasPre s [91])] [[], [], [0, 2, 33]] ?_
     iterate 3 refine op1 tok ?_
     refine runEnd ?_
     refine cnd ?_ ?_
     ·intro h33
      try simp at h33
      rw [if_pos h33]
      have hs1 : 1 ≤ s.length := by obtain ⟨t, rfl⟩ := hasPre_iff.1 h33; simp
      refine rgn [] [[]] ?_
      refine op1 tok ?_
      refine runEnd ?_
      refine AW.seq ?_
      refine rgn [] [[]] ?_
      refine op1 tok ?_
      refine runEnd ?_
      refine AW.block ?_
      refine AW.loop (α := Nat × Nat) (fun a => numG (s.drop a.1) (a.2 : Nat) = numG (s.drop 1) 0 ∧ 1 ≤ a.1 ∧ a.1 ≤ s.length ∧ a.2 ≤ 99999) (fun a => ⟨upds 91 [(0, .p (.str s)), (2, .ptr 2 0), (6, .p (.int .i64 a.2)), (7, .p (.int .i64 a.1))], [], [(2, .vars 57 [.p (.int .i64 0), .p (.str []), .p (.int .i64 0)])], 0⟩) (fun a => s.length - a.1) ((1, 0)) ⟨rfl, by omega, by simp only []; omega, by simp only []; omega⟩ ⟨upds_le (by simp), rfl, by simp, by simp⟩ ?_
      rintro ⟨i, n⟩ ⟨hq, h1, h2, h3⟩
      simp only at hq h1 h2 h3
      rw [← hq]
      have hix : i < s.length → s[i]? = some (s.getD i 0) := fun h => by simp [List.getD_eq_getElem?_getD, h]
      have hgo := fun h => numG_go (s := s) (i := i) (n := (n : Int)) h
      have hb := (s.getD i 0).toNat_lt
      generalize s.getD i 0 = c at *
      refine AW.seq ?_
      refine rgn [.int .u8 c.toNat, .int .u8 c.toNat] [[], [], [], [], [0, 2, 6, 7, 40], [], [], [], [], [0, 2, 6, 7, 45], [], [], [], [], [0, 2, 6, 7, 46, 50], [], [], [], [0, 2, 6, 7, 52, 54], [0, 2, 6, 7, 55]] ?_
      iterate 20 first | refine op1 tok ?_ (hv := by first | with_reducible exact True.intro | (first | exact fun h => ⟨by omega, _, hix (by omega), rfl⟩ | exact fun h h2 => ⟨by omega, _, hix h, rfl⟩ | (simp; omega); done) | omega | simp | (simp; omega) | (simp +contextual; omega)) | refine op2 tok ?_ (hv := by first | with_reducible exact True.intro | (first | exact fun h => ⟨by omega, _, hix (by omega), rfl⟩ | exact fun h h2 => ⟨by omega, _, hix h, rfl⟩ | (simp; omega); done) | omega | simp | (simp; omega) | (simp +contextual; omega))
      refine runEnd ?_
      refine cnd ?_ ?_
      ·intro h55
       try simp at h55
       rw [hgo (by omega), if_pos (by omega)]
       have hw : IntKind.u8.wrap ((c.toNat : Int) - 48) = (c.toNat : Int) - 48 := by simp [IntKind.wrap, IntKind.bits, IntKind.signed]; omega
       have hix' := hix (by omega)
       have hcst : ((c.toNat - 48 : Nat) : Int) = (c.toNat : Int) - 48 := by omega
       refine AW.skip ?_
       refine AW.seq ?_
       refine AW.block ?_
       refine rgz [.int .u8 c.toNat] [[], [], [], [], [0, 2, 7, 59, 62], [], [], [0, 2, 7, 65], [0, 2, 6, 7]] ?_
       iterate 9 refine op1 tok ?_ (h := by intro C; conv => lhs; simp [hw]) (hv := by first | with_reducible exact True.intro | (first | exact ⟨_, hix', rfl⟩ | (simp [hw]; omega); done) | omega | simp | (simp; omega) | (simp +contextual; omega))
       refine runEnd ?_
       refine rgz [] [[], [], [0, 2, 6, 7]] ?_
       iterate 3 refine op1 tok ?_
       refine runEnd ?_
       exact ⟨(i + 1, n * 10 + (c.toNat - 48)), ⟨by simp only []; congr 1; omega, by simp only []; omega, by simp only []; omega, by simp only []; omega⟩, by simp only []; omega, upds_le (by simp [hcst]), rfl, by simp [hcst], by simp [hcst]⟩
      ·intro h55
       try simp at h55
       have hn : numG (s.drop i) n = n := by
        rcases Nat.lt_or_ge i s.length with h | h
        ·rw [hgo h, if_neg (by omega)]
        ·rw [List.drop_of_length_le h]; rfl
       rw [hn]
       refine AW.exit ?_
       simp
       refine rgn [] [[], [], [2]] ?_
       iterate 3 refine op1 tok ?_
       refine runEnd ?_
       exact AW.ret ⟨.inr rfl, _, _, by (conv => lhs; simp), trivial, by simp⟩
     ·intro h33
      try simp at h33
      rw [if_neg (by simp [h33])]
      refine rgn [.nilp, .bool (hasPre s [46])] [[], [], [0, 2, 68]] ?_
      iterate 3 refine op1 tok ?_
      refine runEnd ?_
      refine cnd ?_ ?_
      ·intro h68
       try simp at h68
       rw [if_pos h68]
       obtain ⟨r, rfl⟩ := hasPre_iff.1 h68
       simp only [List.cons_append, List.nil_append, List.drop_succ_cons, List.drop_zero, List.length_cons] at hs ⊢
       have hnl := nameLen_le r
       refine rgn [] [[]] ?_
       refine op1 tok ?_
       refine runEnd ?_
       refine AW.seq ?_
       refine AW.block ?_
       refine AW.loop (α := Nat) (fun n => n ≤ (nameLen r).length) (fun n => ⟨upds 91 [(0, .p (.str (46 :: r))), (2, .ptr 2 0), (8, .p (.int .i64 (n + 1)))], [], [(2, .vars 57 [.p (.int .i64 0), .p (.str []), .p (.int .i64 0)])], 0⟩) (fun n => r.length - n) (0) (by omega) ⟨upds_le (by simp), rfl, by simp, by simp⟩ ?_
       rintro n hn
       refine AW.seq ?_
       by_cases hs19 : n < r.length
       ·
        obtain ⟨c, hc⟩ : ∃ c, r[n]? = some c := ⟨r[n], by simp [hs19]⟩
        have hgo := nameLen_go r n c hn hc
        have hM := MayName_ev (G := G) [97, c]
        have hsl := drop_take1 (l := 46 :: r) (k := n + 1) (x := c) (by simpa using hc)
        refine rgn [.tup [.str [97, c]], .bool (mayNameM [97, c])] [[], [], [], [], [0, 2, 8, 75], [], [], [], [], [0, 2, 8, 75, 80], [], [], [0, 2, 8, 83]] ?_
        iterate 5 refine op1 tok ?_ (hv := by first | with_reducible exact True.intro | ((simp [hs19]; exact ⟨by rw [show ((n : Int) + 1 + 1).toNat = n + 1 + 1 by omega]; exact hsl, hM⟩); done) | omega | simp | (simp; omega) | (simp +contextual; omega))
        iterate 7 refine op2 tok ?_ (hv := by first | with_reducible exact True.intro | ((simp [hs19]; exact ⟨by rw [show ((n : Int) + 1 + 1).toNat = n + 1 + 1 by omega]; exact hsl, hM⟩); done) | omega | simp | (simp; omega) | (simp +contextual; omega))
        refine op1 tok ?_ (hv := by first | with_reducible exact True.intro | ((simp [hs19]; exact ⟨by rw [show ((n : Int) + 1 + 1).toNat = n + 1 + 1 by omega]; exact hsl, hM⟩); done) | omega | simp | (simp; omega) | (simp +contextual; omega))
        refine runEnd ?_
        refine cnd ?_ ?_
        ·intro h83
         try simp at h83
         have h8 := hgo.1 h83.2
         refine AW.skip ?_
         refine AW.block ?_
         refine rgz [] [[], [], [0, 2, 8]] ?_
         iterate 3 refine op1 tok ?_
         refine runEnd ?_
         exact ⟨n + 1, by omega, by omega, upds_le (by simp), rfl, by simp, by simp⟩
        ·intro h83
         try simp at h83
         have h8 : n = (nameLen r).length := by
          have : ¬ n < (nameLen r).length := fun h => by rw [hgo.2 h] at h83; simp [hs19] at h83
          omega
         have hk := nameLen_key 46 h8
         have hk2 : List.take n r = nameLen r := by rw [h8]; exact nameLen_take r
         refine AW.exit ?_
         simp
         refine rgn [] [[], [], [2, 88], [], [2]] ?_
         iterate 5 refine op1 tok ?_
         refine runEnd ?_
         exact AW.ret ⟨.inr rfl, _, _, by (conv => lhs; simp), trivial, by simp [hk, hk2]⟩
       ·
        refine rgn [.nilp, .bool false] [[], [], [], [], [0, 2, 8, 75], [], [], [], [], [0, 2, 8, 75, 80], [], [], [0, 2, 8, 83]] ?_
        iterate 5 refine op1 tok ?_
        iterate 7 refine op2 tok ?_
        refine op1 tok ?_
        refine runEnd ?_
        refine cnd ?_ ?_
        ·intro h83
         try simp at h83
        ·intro h83
         try simp at h83
         have h8 : n = (nameLen r).length := by omega
         have hk := nameLen_key 46 h8
         have hk2 : List.take n r = nameLen r := by rw [h8]; exact nameLen_take r
         refine AW.exit ?_
         simp
         refine rgn [] [[], [], [2, 88], [], [2]] ?_
         iterate 5 refine op1 tok ?_
         refine runEnd ?_
         exact AW.ret ⟨.inr rfl, _, _, by (conv => lhs; simp), trivial, by simp [hk, hk2]⟩
      ·intro h68
       try simp at h68
       rw [if_neg (by simp [h68])]
       refine AW.skip ?_
       refine rgn [] [[], [2]] ?_
       iterate 2 refine op1 tok ?_
       refine runEnd ?_
       exact AW.ret ⟨.inr rfl, _, _, by (conv => lhs; simp), trivial, by simp⟩
end Go.Proofs.YtdjjmppnnkkloaaGreatDoor
