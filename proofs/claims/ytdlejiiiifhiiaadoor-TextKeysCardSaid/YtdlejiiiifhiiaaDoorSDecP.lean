import Derived.Test.YtdlejiiiifhiiaaDoorSTrim
import Derived.Test.YtdlejiiiifhiiaaDoorSParseL
import Derived.Test.YtdlejiiiifhiiaaDoorSLibS
namespace Go.Proofs.YtdlejiiiifhiiaaDoor
open Sy Go
set_option maxRecDepth 100000
set_option maxHeartbeats 4000000
set_option linter.unusedSimpArgs false
set_option linter.unusedVariables false
variable {G : Glob}
theorem takeW_other (s : List UInt8) : (if s.all (fun b => !otherM b.toNat) then (-1 : Int) else (((s.takeWhile fun b => !otherM b.toNat).length : Nat) : Int)) = if s.all isDig then -1 else ((s.takeWhile isDig).length : Int) := by
  have e : (fun b : UInt8 => !otherM b.toNat) = isDig := by funext b; rw [other_dig]; simp
  rw [e]
theorem index_other (s : List UInt8) : indexF otherM s = if s.all isDig then -1 else ((s.takeWhile isDig).length : Int) := by
  rw [indexF_bytes (fun n h => by simp [otherM] <;> omega), takeW_other]
theorem all_tw {s : List UInt8} (h : s.all isDig = true) : s.takeWhile isDig = s ∧ s.dropWhile isDig = [] := by
  have := tw_of (W := s) (F := []) h (by simp)
  simpa using this
theorem take_tw (s : List UInt8) : s.take (s.takeWhile isDig).length = s.takeWhile isDig ∧ s.drop (s.takeWhile isDig).length = s.dropWhile isDig := by
  have h := List.takeWhile_append_dropWhile (p := isDig) (l := s)
  generalize s.takeWhile isDig = A at *
  generalize s.dropWhile isDig = B at *
  subst h
  simp
theorem tw_le (s : List UInt8) : (s.takeWhile isDig).length ≤ s.length := (List.takeWhile_sublist _).length_le
theorem dw_le (s : List UInt8) : (s.dropWhile isDig).length ≤ s.length := (List.dropWhile_sublist _).length_le
theorem all_len {s : List UInt8} {n : Int} (hc : (if s.all isDig = true then (-1 : Int) else ((s.takeWhile isDig).length : Int)) = n) (h : n < 0) : (s.takeWhile isDig).length = s.length := by
  split at hc
  · rename_i ha; rw [(all_tw ha).1]
  · omega
theorem some_len {s : List UInt8} {n : Int} (hc : (if s.all isDig = true then (-1 : Int) else ((s.takeWhile isDig).length : Int)) = n) (h : 0 ≤ n) : n = ((s.takeWhile isDig).length : Int) := by
  split at hc
  · omega
  · omega
theorem leading_ev (s : List UInt8) : AFn Tryd.prog G 64 [.str s] (.tup [.str (s.takeWhile isDig), .str (s.dropWhile isDig)]) := by
  refine AFn.introU tok Tryd.func64 (by kernel_rfl) rfl rfl ?_
  simp only [Tryd.f64, enumA, List.map_cons, List.map_nil]
  have hI := IndexFunc_ev (G := G) s 82 otherM other_ev
  rw [index_other] at hI
  have htw := take_tw s
  have hle := tw_le s
  generalize hc : (if s.all isDig = true then (-1 : Int) else ((s.takeWhile isDig).length : Int)) = n at hI
  refine AW.seqRegionO [] ?_
  refine s1 tok [0] ?_
  refine s1 tok [0] ?_
  refine AOpsO.nil ?_
  refine AW.seqRegionO [.nilp, .int .i64 n] ?_
  refine s1 tok [0, 5] ?_
  refine s1 tok [0, 6] ?_ (hv := by first | with_reducible exact True.intro | (exact hI; done) | omega | simp | (simp; omega) | (simp +contextual; omega))
  refine s1 tok [0, 4] ?_
  refine AOpsO.nil ?_
  refine AW.join (α := Unit) (fun _ => True) (fun a => ⟨upds 17 [(0, .p (.str s)), (4, .p (.int .i64 (s.takeWhile isDig).length))], [], [], 0⟩) ?_ ?_
  ·
    refine AW.seqRegionO [] ?_
    refine s1 tok [0, 4, 7] ?_
    refine s1 tok [0, 4, 8] ?_
    refine AOpsO.nil ?_
    refine AW.cond (c := .tmp 8) (by conv => lhs; simp) trivial ?_ ?_
    · intro h8
      try simp at h8
      refine AW.regionO [] ?_
      refine s1 tok [0, 9] ?_
      refine s1 tok [0, 10] ?_
      refine s1 tok [0, 4] ?_
      refine AOpsO.nil ?_
      exact ⟨(), trivial, upds_le (by simp [all_len hc h8]), rfl, by simp [all_len hc h8], by simp [all_len hc h8]⟩
    · intro h8
      try simp at h8
      refine AW.skip ?_
      exact ⟨(), trivial, upds_le (by simp [some_len hc h8]), rfl, by simp [some_len hc h8], by simp [some_len hc h8]⟩
  ·
    rintro a hI
    refine AW.seqRunDrawK tok mixed [2, 3] 7 [[0], [4], [11, 12], [0], [4], [14, 15], [13]] [] [] (by kernel_rfl) (by intro C; conv => lhs; simp) (by omega) (by simp [Sm.sum, Sm.foot, Sm.tch, Sm.refs]; kernel_rfl) (by intro C; conv => lhs; simp) (by first | with_reducible exact True.intro | omega | simp | (simp; omega) | (simp +contextual; omega)) ?_
    exact AW.ret ⟨.inr rfl, _, _, by (conv => lhs; simp), trivial, by simp [htw.1, htw.2]⟩
theorem dw48_le (s : List UInt8) : (strip0 s).length ≤ s.length := (List.dropWhile_sublist _).length_le
theorem dc_bounds {d : Dc} (h : dcMay d = true) : 1 ≤ d.digits.length ∧ d.digits.length ≤ 60 ∧ 0 ≤ d.scale ∧ d.scale ≤ 60 := by
  unfold dcMay at h; simp only [Bool.and_eq_true, decide_eq_true_eq] at h; omega
theorem hasPre1 (t : List UInt8) (c : UInt8) : hasPre t [c] = decide (t.head? = some c) := by cases t <;> simp [hasPre]
theorem valI_snoc (D : List UInt8) (c : UInt8) : valI (D ++ [c]) = valI D * 10 + (c.toNat - 48) := by simp [valI]
theorem valI_lt {D : List UInt8} (h : D.all isDig = true) : valI D < 10 ^ D.length := by
  have key : ∀ (r : List UInt8), r.all isDig = true → valI r.reverse < 10 ^ r.length := by
    intro r
    induction r with
    | nil => intro _; decide
    | cons b r ih =>
      intro h
      simp only [List.all_cons, Bool.and_eq_true, isDig, digitM, decide_eq_true_eq] at h
      have := ih h.2
      rw [List.reverse_cons, valI_snoc, List.length_cons, Nat.pow_succ]; omega
  have := key D.reverse (by simpa using h)
  simpa using this
theorem tw_all (s : List UInt8) : (s.takeWhile isDig).all isDig = true := List.all_takeWhile
theorem sign_le (t : List UInt8) : (signL t).length ≤ t.length := by unfold signL; split <;> simp
theorem signT {t : List UInt8} {a b : Bool} (h1 : a = decide (t.head? = some 45)) (h2 : b = decide (t.head? = some 43)) (h : a = true ∨ b = true) : t.tail = signL t ∧ 1 ≤ t.length := by
  subst h1; subst h2
  simp only [decide_eq_true_eq] at h
  unfold signL; rw [if_pos h]
  refine ⟨by simp, ?_⟩
  cases t with
  | nil => simp at h
  | cons a t => simp
theorem signF {t : List UInt8} {a b : Bool} (h1 : a = decide (t.head? = some 45)) (h2 : b = decide (t.head? = some 43)) (h : a = false ∧ b = false) : t = signL t := by
  subst h1; subst h2
  simp only [decide_eq_false_iff_not] at h
  unfold signL; rw [if_neg (fun h' => h'.elim h.1 h.2)]
theorem exponent_ev (s : List UInt8) (hs : s.length ≤ 1000000000000) : AFn Tryd.prog G 65 [.str s] (.tup [.int .i64 ((expL s).getD 0), .bool (expL s).isSome]) := by
  refine AFn.introU tok Tryd.func65 (by kernel_rfl) rfl rfl ?_
  simp only [Tryd.f65, enumA, List.map_cons, List.map_nil]
  refine AW.seqRegionO [] ?_
  refine s1 tok [0] ?_
  refine s1 tok [0] ?_
  refine AOpsO.nil ?_
  refine AW.seq ?_
  refine AW.seqRegionO [] ?_
  refine s1 tok [0, 10] ?_
  refine s1 tok [0, 11] ?_
  refine AOpsO.nil ?_
  refine AW.cond (c := .tmp 11) (by conv => lhs; simp) trivial ?_ ?_
  · intro h11
    try simp at h11
    subst h11
    refine AW.seqRegionO [] ?_
    refine s1 tok [2] ?_
    refine s1 tok [2, 3] ?_
    refine AOpsO.nil ?_
    exact AW.ret ⟨.inr rfl, _, _, by (conv => lhs; simp), trivial, by simp [expL]⟩
  · intro h11
    try simp at h11
    obtain ⟨b, t, rfl⟩ : ∃ b t, s = b :: t := by
      cases s with
      | nil => exact absurd rfl h11
      | cons b t => exact ⟨b, t, rfl⟩
    have hp1 := hasPre1 t 45
    have hp2 := hasPre1 t 43
    have hlt := sign_le t
    simp only [List.length_cons] at hs
    refine AW.skip ?_
    refine AW.seq ?_
    refine AW.seqRegionO [.int .u8 b.toNat, .int .u8 b.toNat] ?_
    refine s1 tok [0, 12] ?_
    refine s1 tok [0, 13] ?_ (hv := by first | with_reducible exact True.intro | (simp; done) | omega | simp | (simp; omega) | (simp +contextual; omega))
    refine s1 tok [0, 14] ?_ (hv := by first | with_reducible exact True.intro | (simp; done) | omega | simp | (simp; omega) | (simp +contextual; omega))
    refine s1 tok [0, 15] ?_
    refine s2 tok [0, 15, 16] 15 rfl rfl ?_
    refine s2 tok [0, 15, 17] 15 rfl rfl ?_ (hv := by first | with_reducible exact True.intro | (simp; done) | omega | simp | (simp; omega) | (simp +contextual; omega))
    refine s2 tok [0, 15, 18] 15 rfl rfl ?_ (hv := by first | with_reducible exact True.intro | (simp; done) | omega | simp | (simp; omega) | (simp +contextual; omega))
    refine s1 tok [0, 19] ?_ (hv := by first | with_reducible exact True.intro | (simp; done) | omega | simp | (simp; omega) | (simp +contextual; omega))
    refine AOpsO.nil ?_
    refine AW.cond (c := .tmp 19) (by conv => lhs; simp) trivial ?_ ?_
    · intro h19
      try simp at h19
      have he : expL (b :: t) = none := by
        unfold expL; simp only; rw [if_pos ⟨by rintro rfl; exact h19.1 rfl, by rintro rfl; exact h19.2 rfl⟩]
      refine AW.seqRegionO [] ?_
      refine s1 tok [2] ?_
      refine s1 tok [2, 3] ?_
      refine AOpsO.nil ?_
      exact AW.ret ⟨.inr rfl, _, _, by (conv => lhs; simp), trivial, by simp [he]⟩
    · intro h19
      try simp at h19
      have hb : ¬ (b ≠ 101 ∧ b ≠ 69) := by
        rintro ⟨h1, h2⟩
        have h1' : b.toNat ≠ 101 := fun e => h1 (UInt8.toNat_inj.1 e)
        have h2' : b.toNat ≠ 69 := fun e => h2 (UInt8.toNat_inj.1 e)
        have := h19 (by omega)
        omega
      have he : expL (b :: t) = if (signL t).dropWhile isDig ≠ [] ∨ ((signL t).takeWhile isDig).length < 1 ∨ 2 < ((signL t).takeWhile isDig).length then none
          else some (if t.head? = some 45 then - (valI ((signL t).takeWhile isDig) : Int) else valI ((signL t).takeWhile isDig)) := by
        unfold expL; simp only; rw [if_neg hb]
      rw [he]
      clear he
      have hlead := leading_ev (G := G) (signL t)
      have hall := tw_all (signL t)
      refine AW.skip ?_
      refine AW.seqRegionO [] ?_
      refine s1 tok [20] ?_
      refine s1 tok [21] ?_
      refine s1 tok [0] ?_
      refine AOpsO.nil ?_
      refine AW.seqRegionO [.nilp, .bool (hasPre t [45])] ?_
      refine s1 tok [0, 22] ?_
      refine s1 tok [0, 23] ?_
      refine s1 tok [0, 4] ?_
      refine AOpsO.nil ?_
      refine AW.join (α := Unit) (fun _ => True) (fun a => ⟨upds 63 [(0, .p (.str (signL t))), (4, .p (.bool (hasPre t [45])))], [], [], 0⟩) ?_ ?_
      ·
        refine AW.seqRegionO [.nilp, .bool (hasPre t [43])] ?_
        refine s1 tok [0, 4, 24] ?_
        refine s1 tok [0, 4, 25] ?_
        refine s2 tok [0, 4, 25, 26] 25 rfl rfl ?_
        refine s2 tok [0, 4, 25, 27] 25 rfl rfl ?_
        refine s1 tok [0, 4, 28] ?_
        refine AOpsO.nil ?_
        refine AW.cond (c := .tmp 28) (by conv => lhs; simp) trivial ?_ ?_
        · intro h28
          try simp at h28
          have hsT := signT hp1 hp2 h28
          refine AW.regionO [] ?_
          refine s1 tok [4, 29] ?_
          refine s1 tok [4, 30] ?_
          refine s1 tok [0, 4] ?_
          refine AOpsO.nil ?_
          exact ⟨(), trivial, upds_le (by simp [hsT.1]), rfl, by simp [hsT.1], by simp [hsT.1]⟩
        · intro h28
          try simp at h28
          refine AW.skip ?_
          exact ⟨(), trivial, upds_le (by simp [(signF hp1 hp2 h28).symm]), rfl, by simp [(signF hp1 hp2 h28).symm], by simp [(signF hp1 hp2 h28).symm]⟩
      ·
        rintro a hI
        generalize signL t = u at *
        generalize u.takeWhile isDig = D at *
        generalize u.dropWhile isDig = E at *
        refine AW.seqRegionO [.nilp, .tup [.str D, .str E]] ?_
        refine s1 tok [4, 32] ?_
        refine s1 tok [4, 33] ?_ (hv := by first | with_reducible exact True.intro | (exact hlead; done) | omega | simp | (simp; omega) | (simp +contextual; omega))
        refine s1 tok [4, 31] ?_
        refine s1 tok [4, 31, 34] ?_
        refine s1 tok [4, 34, 35] ?_
        refine s1 tok [4, 5, 35] ?_
        refine s1 tok [4, 5, 6] ?_
        refine AOpsO.nil ?_
        refine AW.seq ?_
        refine AW.seqRegionO [] ?_
        refine s1 tok [4, 5, 36] ?_
        refine s1 tok [4, 5, 37] ?_
        refine s1 tok [4, 5, 38] ?_
        refine s2 tok [4, 5, 38, 39] 38 rfl rfl ?_
        refine s2 tok [4, 5, 38, 40] 38 rfl rfl ?_
        refine s2 tok [4, 5, 38, 41] 38 rfl rfl ?_
        refine s1 tok [4, 5, 42] ?_
        refine s1 tok [4, 5, 43] ?_
        refine s2 tok [4, 5, 43, 44] 43 rfl rfl ?_
        refine s2 tok [4, 5, 43, 45] 43 rfl rfl ?_
        refine s2 tok [4, 5, 43, 46] 43 rfl rfl ?_
        refine s1 tok [4, 5, 47] ?_
        refine AOpsO.nil ?_
        refine AW.cond (c := .tmp 47) (by conv => lhs; simp) trivial ?_ ?_
        · intro h47
          try simp at h47
          rw [if_pos (h47.elim (fun h => h.elim .inl (fun h => .inr (.inl (by omega)))) (fun h => .inr (.inr (by omega))))]
          refine AW.seqRegionO [] ?_
          refine s1 tok [2] ?_
          refine s1 tok [2, 3] ?_
          refine AOpsO.nil ?_
          exact AW.ret ⟨.inr rfl, _, _, by (conv => lhs; simp), trivial, by simp⟩
        · intro h47
          try simp at h47
          rw [if_neg (by
            rintro (h | h)
            · exact h h47.1.1
            · omega)]
          have hD2 : D.length ≤ 2 := by omega
          refine AW.skip ?_
          refine AW.seqRegionO [] ?_
          refine s1 tok [4, 5, 7] ?_
          refine AOpsO.nil ?_
          refine AW.seq ?_
          refine AW.seqRegionO [] ?_
          refine s1 tok [4, 7, 48] ?_
          refine s1 tok [4, 7, 49] ?_
          refine AOpsO.nil ?_
          refine AW.block ?_
          refine AW.loop (α := Nat) (fun pos => pos ≤ D.length) (fun pos => ⟨upds 63 [(4, .p (.bool (hasPre t [45]))), (7, .p (.int .i64 (valI (D.take pos)))), (49, .it 49)], [], [(49, .iter D pos)], 0⟩) (fun pos => D.length - pos) (0) (by omega) ⟨upds_le (by simp [valI]), rfl, by simp, by simp⟩ ?_
          rintro pos hp
          have hvl : valI (D.take pos) < 10 ^ (D.take pos).length := valI_lt (all_take hall pos)
          have hpw : 10 ^ (D.take pos).length ≤ 10 ^ 2 := Nat.pow_le_pow_right (by omega) (by simp; omega)
          by_cases hs14 : pos < D.length
          ·
            refine AW.seqRegionO [.bool true] ?_
            refine s1 tok [4, 7, 49, 50] ?_ (hv := by first | with_reducible exact True.intro | (simpa using hs14; done) | omega | simp | (simp; omega) | (simp +contextual; omega))
            refine s1 tok [4, 7, 49, 50, 51] ?_
            refine AOpsO.nil ?_
            refine AW.seq ?_
            refine AW.cond (c := .tmp 51) (by conv => lhs; simp) trivial ?_ ?_
            · intro h51
              try simp at h51
              obtain ⟨c, hc⟩ : ∃ c, D[pos]? = some c := ⟨D[pos], by simp [hs14]⟩
              have hcd : isDig c = true := List.all_eq_true.1 hall c (List.mem_of_getElem? hc)
              have hcd2 : 48 ≤ c.toNat ∧ c.toNat ≤ 57 := by simp [isDig, digitM] at hcd; omega
              have hdl : decL D pos = (c.toNat, 1) := by
                have hg : D.getD pos 0 = c := by simp [List.getD_eq_getElem?_getD, hc]
                have := decL_ascii (s := D) (pos := pos) hs14 (by rw [hg]; omega)
                rw [hg] at this; exact this
              have hsn : valI (D.take (pos + 1)) = valI (D.take pos) * 10 + (c.toNat - 48) := by rw [List.take_add_one, hc]; exact valI_snoc _ _
              rw [hdl]
              refine AW.skip ?_
              refine AW.block ?_
              refine AW.seqRegionO [] ?_
              refine s1 tok [4, 7, 49, 52] ?_
              refine s1 tok [4, 7, 9, 49] ?_
              refine AOpsO.nil ?_
              refine AW.regionO [] ?_
              refine s1 tok [4, 9, 49, 53] ?_
              refine s1 tok [4, 9, 49, 54] ?_ (hv := by first | with_reducible exact True.intro | (omega; done) | omega | simp | (simp; omega) | (simp +contextual; omega))
              refine s1 tok [4, 49, 54, 55] ?_
              refine s1 tok [4, 49, 54, 56] ?_ (hv := by first | with_reducible exact True.intro | (omega; done) | omega | simp | (simp; omega) | (simp +contextual; omega))
              refine s1 tok [4, 49, 54, 57] ?_ (hv := by first | with_reducible exact True.intro | (omega; done) | omega | simp | (simp; omega) | (simp +contextual; omega))
              refine s1 tok [4, 49, 58] ?_ (hv := by first | with_reducible exact True.intro | (omega; done) | omega | simp | (simp; omega) | (simp +contextual; omega))
              refine s1 tok [4, 7, 49] ?_
              refine AOpsO.nil ?_
              exact ⟨pos + 1, by omega, by omega, upds_le (by simp [hsn, (show ((c.toNat - 48 : Nat) : Int) = (c.toNat : Int) - 48 by omega)]), rfl, by simp [hsn, (show ((c.toNat - 48 : Nat) : Int) = (c.toNat : Int) - 48 by omega)], by simp [hsn, (show ((c.toNat - 48 : Nat) : Int) = (c.toNat : Int) - 48 by omega)]⟩
            · intro h51
              try simp at h51
          ·
            refine AW.seqRegionO [.bool false] ?_
            refine s1 tok [4, 7, 49, 50] ?_ (hv := by first | with_reducible exact True.intro | (simpa using hs14; done) | omega | simp | (simp; omega) | (simp +contextual; omega))
            refine s1 tok [4, 7, 49, 50, 51] ?_
            refine AOpsO.nil ?_
            refine AW.seq ?_
            refine AW.cond (c := .tmp 51) (by conv => lhs; simp) trivial ?_ ?_
            · intro h51
              try simp at h51
            · intro h51
              try simp at h51
              have hpD : D.take pos = D := List.take_of_length_le (by omega)
              rw [hpD] at hvl hpw ⊢
              refine AW.exit ?_
              simp
              refine AW.seq ?_
              refine AW.seqRegionO [] ?_
              refine s1 tok [7, 59] ?_
              refine AOpsO.nil ?_
              refine AW.cond (c := .tmp 59) (by conv => lhs; simp) trivial ?_ ?_
              · intro h59
                try simp at h59
                rw [hp1] at h59
                have ht : t.head? = some 45 := by simpa using h59
                rw [if_pos ht]
                have hw : IntKind.i64.wrap (-(valI D : Int)) = -(valI D : Int) := by simp [IntKind.wrap, IntKind.bits, IntKind.signed]; omega
                refine AW.regionO [] ?_
                refine s1 tok [60] ?_
                refine s1 tok [61] ?_ (hv := by first | with_reducible exact True.intro | (omega; done) | omega | simp | (simp; omega) | (simp +contextual; omega))
                refine s1 tok [7] ?_
                refine AOpsO.nil ?_
                refine AW.seqRegionO [] ?_
                refine s1 tok [62] ?_
                refine s1 tok [2] ?_
                refine s1 tok [2, 3] ?_
                refine AOpsO.nil ?_
                exact AW.ret ⟨.inr rfl, _, _, by (conv => lhs; simp), trivial, by simp [hw]⟩
              · intro h59
                try simp at h59
                rw [hp1] at h59
                have ht : ¬ t.head? = some 45 := by simpa using h59
                rw [if_neg ht]
                refine AW.skip ?_
                refine AW.seqRegionO [] ?_
                refine s1 tok [62] ?_
                refine s1 tok [2] ?_
                refine s1 tok [2, 3] ?_
                refine AOpsO.nil ?_
                exact AW.ret ⟨.inr rfl, _, _, by (conv => lhs; simp), trivial, by simp⟩
theorem made_ev (neg : Bool) (digits : List UInt8) (scale : Nat) (hd : digits.length ≤ 10000000000) (hs : scale ≤ 10000000000) : AFn Tryd.prog G 66 [.bool neg, .str digits, .int .i64 scale] (.tup [(NormM neg digits scale).1.enc, .int .i64 (NormM neg digits scale).2]) := by
  refine AFn.introU tok Tryd.func66 (by kernel_rfl) rfl rfl ?_
  simp only [Tryd.f66, enumA, List.map_cons, List.map_nil]
  have hstr : (strip0 digits).length ≤ digits.length := dw48_le digits
  refine AW.seqRegionO [] ?_
  refine s1 tok [0, 1, 2, 6] ?_
  refine s1 tok [0, 1, 2, 6] ?_
  refine AOpsO.nil ?_
  refine AW.seqRegionO [.nilp, .str (strip0 digits)] ?_
  refine s1 tok [0, 2, 6, 8] ?_
  refine s1 tok [0, 2, 6, 9] ?_ (hv := by first | with_reducible exact True.intro | (exact TrimLeft1_ev digits 48 (by decide); done) | omega | simp | (simp; omega) | (simp +contextual; omega))
  refine s1 tok [0, 1, 2, 6] ?_
  refine AOpsO.nil ?_
  refine AW.seq ?_
  refine AW.block ?_
  refine AW.loop (α := List UInt8 × Nat) (fun a => trail (strip0 digits) scale = trail a.1 a.2 ∧ a.2 ≤ scale ∧ a.1.length ≤ digits.length) (fun a => ⟨upds 40 [(0, .p (.bool neg)), (1, .p (.str a.1)), (2, .p (.int .i64 a.2)), (6, .ptr 6 0)], [], [(6, .vars 28 [.p (.bool false), .p (.str []), .p (.int .i64 0)])], 0⟩) (fun a => a.2) ((strip0 digits, scale)) ⟨rfl, Nat.le_refl _, hstr⟩ ⟨upds_le (by simp), rfl, by simp, by simp⟩ ?_
  rintro ⟨d, k⟩ ⟨ht, hk, hdl⟩
  simp only at ht hk hdl
  have hsf := HasSuffix_ev (G := G) d 48
  refine AW.seq ?_
  refine AW.seqRegionO [.nilp, .bool (decide (d.getLast? = some 48))] ?_
  refine s1 tok [0, 1, 2, 6, 10] ?_
  refine s1 tok [0, 1, 2, 6, 11] ?_ (hv := by first | with_reducible exact True.intro | (first | exact fun h => ⟨h, hsf⟩ | simp; done) | omega | simp | (simp; omega) | (simp +contextual; omega))
  refine s1 tok [0, 1, 2, 6, 12] ?_
  refine s2 tok [0, 1, 2, 6, 12, 13] 12 rfl rfl ?_
  refine s2 tok [0, 1, 2, 6, 12, 14] 12 rfl rfl ?_ (hv := by first | with_reducible exact True.intro | (first | exact fun h => ⟨h, hsf⟩ | simp; done) | omega | simp | (simp; omega) | (simp +contextual; omega))
  refine s1 tok [0, 1, 2, 6, 15] ?_ (hv := by first | with_reducible exact True.intro | (first | exact fun h => ⟨h, hsf⟩ | simp; done) | omega | simp | (simp; omega) | (simp +contextual; omega))
  refine AOpsO.nil ?_
  refine AW.cond (c := .tmp 15) (by conv => lhs; simp) trivial ?_ ?_
  · intro h15
    try simp at h15
    obtain ⟨k, rfl⟩ : ∃ k', k = k' + 1 := ⟨k - 1, by omega⟩
    have hl : d.getLast? = some 48 := by simpa using h15.2
    have hpos : 0 < d.length := by cases d with
      | nil => simp at hl
      | cons => simp
    have ht' : trail (strip0 digits) scale = trail d.dropLast k := by rw [ht]; simp only [trail]; rw [if_pos hl]
    refine AW.skip ?_
    refine AW.block ?_
    refine AW.regionO [] ?_
    refine s1 tok [0, 1, 2, 6, 16] ?_
    refine s1 tok [0, 2, 6, 16, 17] ?_
    refine s1 tok [0, 2, 6, 16, 18] ?_ (hv := by first | with_reducible exact True.intro | (omega; done) | omega | simp | (simp; omega) | (simp +contextual; omega))
    refine s1 tok [0, 2, 6, 16, 19] ?_ (hv := by first | with_reducible exact True.intro | (omega; done) | omega | simp | (simp; omega) | (simp +contextual; omega))
    refine s1 tok [0, 2, 6, 20] ?_ (hv := by first | with_reducible exact True.intro | (omega; done) | omega | simp | (simp; omega) | (simp +contextual; omega))
    refine s1 tok [0, 6, 20, 21] ?_
    refine s1 tok [0, 6, 20, 22] ?_ (hv := by first | with_reducible exact True.intro | (omega; done) | omega | simp | (simp; omega) | (simp +contextual; omega))
    refine s1 tok [0, 1, 6, 22] ?_
    refine s1 tok [0, 1, 2, 6] ?_
    refine AOpsO.nil ?_
    exact ⟨(d.dropLast, k), ⟨ht', by simp only []; omega, by simp; omega⟩, by simp, upds_le (by simp [take_last]), rfl, by simp [take_last], by simp [take_last]⟩
  · intro h15
    try simp at h15
    have htl : trail (strip0 digits) scale = (d, k) := by
      rw [ht]
      cases k with
      | zero => rfl
      | succ k =>
        simp only [trail]
        rw [if_neg]
        intro hl
        have := h15 (by omega)
        simp [hl] at this
    have hN : NormM neg digits scale = if d = [] then (⟨false, [48], 0⟩, 0) else if 60 < d.length ∨ 60 < k then (⟨false, [], 0⟩, 3) else (⟨neg, d, k⟩, 0) := by unfold NormM; simp only [htl]
    rw [hN]
    refine AW.exit ?_
    simp
    refine AW.seq ?_
    refine AW.block ?_
    refine AW.seqRegionO [] ?_
    refine s1 tok [0, 1, 2, 6, 24] ?_
    refine s1 tok [0, 1, 2, 6, 25] ?_
    refine s1 tok [0, 1, 2, 6, 23] ?_
    refine AOpsO.nil ?_
    refine AW.cond (c := .tmp 23) (by conv => lhs; simp) trivial ?_ ?_
    · intro h23
      try simp at h23
      subst h23
      refine AW.seqRegionO [] ?_
      refine s1 tok [6, 26] ?_
      refine s1 tok [6] ?_
      refine s1 tok [6, 7] ?_
      refine AOpsO.nil ?_
      exact AW.ret ⟨.inr rfl, _, _, by (conv => lhs; simp), trivial, by simp⟩
    · intro h23
      try simp at h23
      rw [if_neg h23]
      refine AW.seqRegionO [] ?_
      refine s1 tok [0, 1, 2, 6, 28] ?_
      refine s1 tok [0, 1, 2, 6, 29] ?_
      refine s1 tok [0, 1, 2, 6, 30] ?_
      refine s1 tok [0, 1, 2, 6, 31] ?_
      refine s2 tok [0, 1, 2, 6, 31, 32] 31 rfl rfl ?_
      refine s2 tok [0, 1, 2, 6, 31, 33] 31 rfl rfl ?_
      refine s1 tok [0, 1, 2, 6, 34] ?_
      refine s1 tok [0, 1, 2, 6, 27] ?_
      refine AOpsO.nil ?_
      refine AW.cond (c := .tmp 27) (by conv => lhs; simp) trivial ?_ ?_
      · intro h27
        try simp at h27
        rw [if_pos (by omega)]
        refine AW.seqRegionO [] ?_
        refine s1 tok [6, 35] ?_
        refine s1 tok [6] ?_
        refine s1 tok [6, 7] ?_
        refine AOpsO.nil ?_
        exact AW.ret ⟨.inr rfl, _, _, by (conv => lhs; simp), trivial, by simp⟩
      · intro h27
        try simp at h27
        rw [if_neg (by omega)]
        refine AW.skip ?_
        refine AW.seqRegionO [] ?_
        refine s1 tok [1, 2, 6, 36] ?_
        refine s1 tok [2, 6, 36, 37] ?_
        refine s1 tok [6, 36, 37, 38] ?_
        refine s1 tok [6, 39] ?_
        refine s1 tok [6] ?_
        refine s1 tok [6, 7] ?_
        refine AOpsO.nil ?_
        exact AW.ret ⟨.inr rfl, _, _, by (conv => lhs; simp), trivial, by simp⟩
theorem body_pre (s : List UInt8) : cutPre s [45] = bodyL s ∧ hasPre s [45] = negL s := by
  have h := hasPre1 s 45
  unfold cutPre bodyL negL
  rw [h]
  refine ⟨?_, rfl⟩
  simp
theorem body_le (s : List UInt8) : (bodyL s).length ≤ s.length := by unfold bodyL; split <;> simp
theorem head48 {W : List UInt8} (h : (((W[0]?.getD 0).toNat : Nat) : Int) = 48) : W.head? = some 48 := by
  cases W with
  | nil => simp at h
  | cons b W => simp at h ⊢; exact UInt8.toNat_inj.1 (by show b.toNat = 48; omega)
theorem rep48 (n : Nat) : Lib.repeatL [48] n = zerosM n := by
  unfold zerosM
  induction n with
  | zero => rfl
  | succ n ih => simp only [Lib.repeatL, List.replicate_succ, ih]; rfl
theorem expL_range (q : List UInt8) : -99 ≤ (expL q).getD 0 ∧ (expL q).getD 0 ≤ 99 := by
  unfold expL
  split
  · simp
  · rename_i b t
    split
    · simp
    · split
      · simp
      · rename_i h
        have h1 := valI_lt (tw_all (signL t))
        have h2 : 10 ^ ((signL t).takeWhile isDig).length ≤ 10 ^ 2 := Nat.pow_le_pow_right (by omega) (by omega)
        simp only [Option.getD_some]
        split <;> omega
theorem DecParse_ev (s : List UInt8) (hs : s.length ≤ 1000000000) : AFn Tryd.prog G 48 [.str s] (.tup [(ParseL s).1.enc, .int .i64 (ParseL s).2]) := by
  refine AFn.introU tok Tryd.func48 (by kernel_rfl) rfl rfl ?_
  simp only [Tryd.f48, enumA, List.map_cons, List.map_nil]
  have hbp := body_pre s
  have hbl := body_le s
  have hP : ParseL s = match fracL ((bodyL s).dropWhile isDig) with
    | none => badDc
    | some (P, r) => endL (negL s) ((bodyL s).takeWhile isDig) P (expL r) := rfl
  rw [hP]
  clear hP
  have hl1 := leading_ev (G := G) (bodyL s)
  have hw1 := tw_le (bodyL s)
  have hw2 := dw_le (bodyL s)
  have hcp := CutPrefix_ev (G := G) s [45]
  rw [hbp.1, hbp.2] at hcp
  generalize bodyL s = u at *
  generalize negL s = ng at *
  generalize u.takeWhile isDig = W at *
  generalize u.dropWhile isDig = r at *
  have hcr := CutPrefix_ev (G := G) r [46]
  have hr46 := hasPre1 r 46
  have hcut : cutPre r [46] = if r.head? = some 46 then r.drop 1 else r := by unfold cutPre; rw [hr46]; simp
  have hl2 := leading_ev (G := G) (r.drop 1)
  have hv1 := tw_le (r.drop 1)
  have hv2 := dw_le (r.drop 1)
  rw [List.length_drop] at hv1 hv2
  refine AW.seqRegionO [] ?_
  refine s1 tok [0, 2] ?_
  refine s1 tok [0, 2] ?_
  refine AOpsO.nil ?_
  refine AW.seqRegionO [.nilp, .tup [.str u, .bool ng]] ?_
  refine s1 tok [2, 15] ?_
  refine s1 tok [2, 16] ?_ (hv := by first | with_reducible exact True.intro | (exact hcp; done) | omega | simp | (simp; omega) | (simp +contextual; omega))
  refine s1 tok [2, 14] ?_
  refine s1 tok [2, 14, 17] ?_
  refine s1 tok [2, 17, 18] ?_
  refine s1 tok [2, 4, 18] ?_
  refine s1 tok [2, 4, 5] ?_
  refine AOpsO.nil ?_
  refine AW.seqRegionO [.nilp, .tup [.str W, .str r]] ?_
  refine s1 tok [2, 5, 20] ?_
  refine s1 tok [2, 5, 21] ?_ (hv := by first | with_reducible exact True.intro | (exact hl1; done) | omega | simp | (simp; omega) | (simp +contextual; omega))
  refine s1 tok [2, 5, 19] ?_
  refine s1 tok [2, 5, 19, 22] ?_
  refine s1 tok [2, 5, 22, 23] ?_
  refine s1 tok [2, 5, 6, 23] ?_
  refine s1 tok [2, 4, 5, 6] ?_
  refine AOpsO.nil ?_
  refine AW.seqRegionO [] ?_
  refine s1 tok [2, 4, 5, 6, 7] ?_
  refine AOpsO.nil ?_
  refine AW.join (α := List UInt8 × List UInt8) (fun a => fracL r = some (a.1, a.2) ∧ a.1.length ≤ s.length ∧ a.2.length ≤ s.length) (fun a => ⟨upds 80 [(2, .ptr 2 0), (4, .p (.str a.2)), (5, .p (.bool ng)), (6, .p (.str W)), (7, .p (.str a.1))], [], [(2, .vars 28 [.p (.bool false), .p (.str []), .p (.int .i64 0)])], 0⟩) ?_ ?_
  ·
    refine AW.seqRegionO [.nilp, .tup [.str (cutPre r [46]), .bool (hasPre r [46])]] ?_
    refine s1 tok [2, 4, 5, 6, 7, 25] ?_
    refine s1 tok [2, 4, 5, 6, 7, 26] ?_ (hv := by first | with_reducible exact True.intro | (exact hcr; done) | omega | simp | (simp; omega) | (simp +contextual; omega))
    refine s1 tok [2, 4, 5, 6, 7, 24] ?_
    refine s1 tok [2, 4, 5, 6, 7, 24, 27] ?_
    refine s1 tok [2, 4, 5, 6, 7, 27, 28] ?_
    refine s1 tok [2, 4, 5, 6, 7, 8, 28] ?_
    refine s1 tok [2, 4, 5, 6, 7, 8, 9] ?_
    refine AOpsO.nil ?_
    refine AW.seqRegionO [] ?_
    refine s1 tok [2, 4, 5, 6, 7, 8, 29] ?_
    refine AOpsO.nil ?_
    refine AW.cond (c := .tmp 29) (by conv => lhs; simp) trivial ?_ ?_
    · intro h29
      try simp at h29
      have hh : r.head? = some 46 := by rw [hr46] at h29; simpa using h29
      rw [if_pos hh] at hcut
      rw [hcut]
      have hF : fracL r = if (r.drop 1).takeWhile isDig = [] then none else some ((r.drop 1).takeWhile isDig, (r.drop 1).dropWhile isDig) := by unfold fracL; rw [if_pos hh]
      rw [hF]
      generalize (r.drop 1).takeWhile isDig = P at *
      generalize (r.drop 1).dropWhile isDig = q at *
      rw [List.drop_one] at hl2
      refine AW.seqRegionO [.nilp, .tup [.str P, .str q]] ?_
      refine s1 tok [2, 5, 6, 31] ?_
      refine s1 tok [2, 5, 6, 32] ?_ (hv := by first | with_reducible exact True.intro | (exact hl2; done) | omega | simp | (simp; omega) | (simp +contextual; omega))
      refine s1 tok [2, 5, 6, 30] ?_
      refine s1 tok [2, 5, 6, 30, 33] ?_
      refine s1 tok [2, 5, 6, 33, 34] ?_
      refine s1 tok [2, 5, 6, 7, 34] ?_
      refine s1 tok [2, 4, 5, 6, 7] ?_
      refine AOpsO.nil ?_
      refine AW.seqRegionO [] ?_
      refine s1 tok [2, 4, 5, 6, 7, 35] ?_
      refine s1 tok [2, 4, 5, 6, 7, 36] ?_
      refine AOpsO.nil ?_
      refine AW.cond (c := .tmp 36) (by conv => lhs; simp) trivial ?_ ?_
      · intro h36
        try simp at h36
        rw [if_pos h36]
        refine AW.seqRegionO [] ?_
        refine s1 tok [2, 37] ?_
        refine s1 tok [2] ?_
        refine s1 tok [2, 3] ?_
        refine AOpsO.nil ?_
        exact AW.ret ⟨.inr rfl, _, _, by (conv => lhs; simp), trivial, by simp [badDc]⟩
      · intro h36
        try simp at h36
        rw [if_neg h36]
        refine AW.skip ?_
        exact ⟨(P, q), ⟨rfl, by simp only []; omega, by simp only []; omega⟩, upds_le (by simp), rfl, by simp, by simp⟩
    · intro h29
      try simp at h29
      have hh : ¬ r.head? = some 46 := by rw [hr46] at h29; simpa using h29
      have hF : fracL r = some ([], r) := by unfold fracL; rw [if_neg hh]
      rw [hF]
      refine AW.skip ?_
      exact ⟨([], r), ⟨rfl, by simp, by simp only []; omega⟩, upds_le (by simp), rfl, by simp, by simp⟩
  ·
    rintro ⟨P, q⟩ ⟨hf, hpl, hql⟩
    simp only at hpl hql
    rw [hf]
    simp only
    have hex := exponent_ev (G := G) q (by omega)
    have hrg := expL_range q
    generalize expL q = e at *
    have hix : ∀ h : W ≠ [], W[0]? = some (W.getD 0 0) := fun h => getD_get (List.length_pos_iff.2 h)
    refine AW.seqRegionO [.nilp, .tup [.int .i64 (e.getD 0), .bool e.isSome]] ?_
    refine s1 tok [2, 5, 6, 7, 39] ?_
    refine s1 tok [2, 5, 6, 7, 40] ?_ (hv := by first | with_reducible exact True.intro | (exact hex; done) | omega | simp | (simp; omega) | (simp +contextual; omega))
    refine s1 tok [2, 5, 6, 7, 38] ?_
    refine s1 tok [2, 5, 6, 7, 38, 41] ?_
    refine s1 tok [2, 5, 6, 7, 41, 42] ?_
    refine s1 tok [2, 5, 6, 7, 10, 42] ?_
    refine s1 tok [2, 5, 6, 7, 10, 11] ?_
    refine AOpsO.nil ?_
    refine AW.seq ?_
    refine AW.seqRegionO [.int .u8 (W.getD 0 0).toNat] ?_
    refine s1 tok [2, 5, 6, 7, 10, 43] ?_
    refine s1 tok [2, 5, 6, 7, 10, 44] ?_ (hv := by first | with_reducible exact True.intro | (first | exact fun h1 h2 h3 => ⟨⟨⟨h1, h2⟩, h3⟩, _, hix h2, rfl⟩ | exact fun h1 h2 => ⟨⟨h1, h2⟩, fun h3 => ⟨⟨h1, h2⟩, h3⟩⟩ | simp; done) | omega | simp | (simp; omega) | (simp +contextual; omega))
    refine s1 tok [2, 5, 6, 7, 10, 45] ?_
    refine s2 tok [2, 5, 6, 7, 10, 45, 46] 45 rfl rfl ?_
    refine s2 tok [2, 5, 6, 7, 10, 45, 47] 45 rfl rfl ?_ (hv := by first | with_reducible exact True.intro | (first | exact fun h1 h2 h3 => ⟨⟨⟨h1, h2⟩, h3⟩, _, hix h2, rfl⟩ | exact fun h1 h2 => ⟨⟨h1, h2⟩, fun h3 => ⟨⟨h1, h2⟩, h3⟩⟩ | simp; done) | omega | simp | (simp; omega) | (simp +contextual; omega))
    refine s1 tok [2, 5, 6, 7, 10, 48] ?_ (hv := by first | with_reducible exact True.intro | (first | exact fun h1 h2 h3 => ⟨⟨⟨h1, h2⟩, h3⟩, _, hix h2, rfl⟩ | exact fun h1 h2 => ⟨⟨h1, h2⟩, fun h3 => ⟨⟨h1, h2⟩, h3⟩⟩ | simp; done) | omega | simp | (simp; omega) | (simp +contextual; omega))
    refine s1 tok [2, 5, 6, 7, 10, 49] ?_
    refine s2 tok [2, 5, 6, 7, 10, 49, 50] 49 rfl rfl ?_
    refine s2 tok [2, 5, 6, 7, 10, 49, 51] 49 rfl rfl ?_ (hv := by first | with_reducible exact True.intro | (first | exact fun h1 h2 h3 => ⟨⟨⟨h1, h2⟩, h3⟩, _, hix h2, rfl⟩ | exact fun h1 h2 => ⟨⟨h1, h2⟩, fun h3 => ⟨⟨h1, h2⟩, h3⟩⟩ | simp; done) | omega | simp | (simp; omega) | (simp +contextual; omega))
    refine s2 tok [2, 5, 6, 7, 10, 49, 52] 49 rfl rfl ?_ (hv := by first | with_reducible exact True.intro | (first | exact fun h1 h2 h3 => ⟨⟨⟨h1, h2⟩, h3⟩, _, hix h2, rfl⟩ | exact fun h1 h2 => ⟨⟨h1, h2⟩, fun h3 => ⟨⟨h1, h2⟩, h3⟩⟩ | simp; done) | omega | simp | (simp; omega) | (simp +contextual; omega))
    refine s2 tok [2, 5, 6, 7, 10, 49, 53] 49 rfl rfl ?_
    refine s2 tok [2, 5, 6, 7, 10, 49, 53, 54] 53 rfl rfl ?_
    refine s2 tok [2, 5, 6, 7, 10, 49, 53, 55] 53 rfl rfl ?_ (hv := by first | with_reducible exact True.intro | (first | exact fun h1 h2 h3 => ⟨⟨⟨h1, h2⟩, h3⟩, _, hix h2, rfl⟩ | exact fun h1 h2 => ⟨⟨h1, h2⟩, fun h3 => ⟨⟨h1, h2⟩, h3⟩⟩ | simp; done) | omega | simp | (simp; omega) | (simp +contextual; omega))
    refine s2 tok [2, 5, 6, 7, 10, 49, 53, 56] 53 rfl rfl ?_ (hv := by first | with_reducible exact True.intro | (first | exact fun h1 h2 h3 => ⟨⟨⟨h1, h2⟩, h3⟩, _, hix h2, rfl⟩ | exact fun h1 h2 => ⟨⟨h1, h2⟩, fun h3 => ⟨⟨h1, h2⟩, h3⟩⟩ | simp; done) | omega | simp | (simp; omega) | (simp +contextual; omega))
    refine s2 tok [2, 5, 6, 7, 10, 49, 57] 49 rfl rfl ?_ (hv := by first | with_reducible exact True.intro | (first | exact fun h1 h2 h3 => ⟨⟨⟨h1, h2⟩, h3⟩, _, hix h2, rfl⟩ | exact fun h1 h2 => ⟨⟨h1, h2⟩, fun h3 => ⟨⟨h1, h2⟩, h3⟩⟩ | simp; done) | omega | simp | (simp; omega) | (simp +contextual; omega))
    refine s1 tok [2, 5, 6, 7, 10, 58] ?_ (hv := by first | with_reducible exact True.intro | (first | exact fun h1 h2 h3 => ⟨⟨⟨h1, h2⟩, h3⟩, _, hix h2, rfl⟩ | exact fun h1 h2 => ⟨⟨h1, h2⟩, fun h3 => ⟨⟨h1, h2⟩, h3⟩⟩ | simp; done) | omega | simp | (simp; omega) | (simp +contextual; omega))
    refine AOpsO.nil ?_
    refine AW.cond (c := .tmp 58) (by conv => lhs; simp) trivial ?_ ?_
    · intro h58
      try simp at h58
      have hbad : endL ng W P e = badDc := by
        cases e with
        | none => rfl
        | some up =>
          simp only [endL]
          rw [if_pos]
          rcases h58 with (h | h) | h
          · cases h
          · exact .inl h
          · exact .inr ⟨by omega, head48 h.2⟩
      rw [hbad]
      refine AW.seqRegionO [] ?_
      refine s1 tok [2, 59] ?_
      refine s1 tok [2] ?_
      refine s1 tok [2, 3] ?_
      refine AOpsO.nil ?_
      exact AW.ret ⟨.inr rfl, _, _, by (conv => lhs; simp), trivial, by simp [badDc]⟩
    · intro h58
      try simp at h58
      obtain ⟨up, rfl⟩ : ∃ up, e = some up := by
        cases e with
        | none => exact absurd rfl h58.1.1
        | some up => exact ⟨up, rfl⟩
      have hend : endL ng W P (some up) = lastM ng (W ++ P) (P.length - up) := by
        simp only [endL]; rw [if_neg]
        rintro (h | ⟨h, h'⟩)
        · exact h58.1.2 h
        · refine h58.2 (by omega) ?_
          cases W with
          | nil => simp at h'
          | cons b W => simp at h'; subst h'; rfl
      rw [hend]
      simp only [Option.getD_some] at hrg ⊢
      have hWP : (W ++ P).length ≤ 2000000000 := by simp; omega
      refine AW.skip ?_
      refine AW.seqRegionO [] ?_
      refine s1 tok [2, 5, 7, 10, 60] ?_
      refine s1 tok [2, 5, 7, 10, 60, 61] ?_
      refine s1 tok [2, 5, 7, 10, 62] ?_
      refine s1 tok [2, 5, 10, 62, 63] ?_
      refine s1 tok [2, 5, 10, 62, 64] ?_
      refine s1 tok [2, 5, 62, 64, 65] ?_
      refine s1 tok [2, 5, 62, 66] ?_
      refine s1 tok [2, 5, 12, 66] ?_
      refine s1 tok [2, 5, 12, 13] ?_
      refine AOpsO.nil ?_
      refine AW.seq ?_
      refine AW.seqRegionO [] ?_
      refine s1 tok [2, 5, 12, 13, 67] ?_
      refine s1 tok [2, 5, 12, 13, 68] ?_
      refine AOpsO.nil ?_
      refine AW.cond (c := .tmp 68) (by conv => lhs; simp) trivial ?_ ?_
      · intro h68
        try simp at h68
        obtain ⟨z, hz⟩ : ∃ z : Nat, (z : Int) = up - P.length := ⟨(up - P.length).toNat, by omega⟩
        have hw3 : IntKind.i64.wrap (-((P.length : Int) - up)) = (z : Int) := by simp [IntKind.wrap, IntKind.bits, IntKind.signed]; omega
        have hrp := Repeat_ev (G := G) [48] z (by simp; omega)
        rw [rep48] at hrp
        have hL : lastM ng (W ++ P) ((P.length : Int) - up) = NormM ng (W ++ (P ++ zerosM z)) 0 := by
          unfold lastM; rw [if_pos h68, show (-((P.length : Int) - up)).toNat = z by omega, List.append_assoc]
        have hzl : (zerosM z).length = z := by simp [zerosM]
        rw [hL]
        have hmd := made_ev (G := G) ng (W ++ (P ++ zerosM z)) 0 (by simp [zerosM] at hWP ⊢; omega) (by omega)
        refine AW.regionO [.nilp, .str (zerosM z)] ?_
        refine s1 tok [2, 5, 13, 69] ?_
        refine s1 tok [2, 5, 69, 70] ?_
        refine s1 tok [2, 5, 69, 71] ?_ (hv := by first | with_reducible exact True.intro | (first | (rw [hw3]; exact hrp) | (simp at hWP; omega); done) | omega | simp | (simp; omega) | (simp +contextual; omega))
        refine s1 tok [2, 5, 69, 72] ?_ (hv := by first | with_reducible exact True.intro | (first | (rw [hw3]; exact hrp) | (simp at hWP; omega); done) | omega | simp | (simp; omega) | (simp +contextual; omega))
        refine s1 tok [2, 5, 73] ?_ (hv := by first | with_reducible exact True.intro | (first | (rw [hw3]; exact hrp) | (simp at hWP; omega); done) | omega | simp | (simp; omega) | (simp +contextual; omega))
        refine s1 tok [2, 5, 12] ?_
        refine s1 tok [2, 5, 12, 13] ?_
        refine AOpsO.nil ?_
        refine AW.seqRegionO [.nilp, .tup [(NormM ng (W ++ (P ++ zerosM z)) 0).1.enc, .int .i64 (NormM ng (W ++ (P ++ zerosM z)) 0).2]] ?_
        refine s1 tok [2, 12, 13, 74] ?_
        refine s1 tok [2, 13, 74, 75] ?_
        refine s1 tok [2, 74, 75, 76] ?_
        refine s1 tok [2, 77] ?_ (hv := by first | with_reducible exact True.intro | (exact hmd; done) | omega | simp | (simp; omega) | (simp +contextual; omega))
        refine s1 tok [2, 77, 78] ?_
        refine s1 tok [2, 78, 79] ?_
        refine s1 tok [2, 79] ?_ (hv := by first | with_reducible exact True.intro | (exact hmd; done) | omega | simp | (simp; omega) | (simp +contextual; omega))
        refine s1 tok [2, 3] ?_
        refine AOpsO.nil ?_
        exact AW.ret ⟨.inr rfl, _, _, by (conv => lhs; simp), trivial, by simp⟩
      · intro h68
        try simp at h68
        obtain ⟨sc, hsc⟩ : ∃ sc : Nat, (sc : Int) = P.length - up := ⟨((P.length : Int) - up).toNat, by omega⟩
        have hL : lastM ng (W ++ P) ((P.length : Int) - up) = NormM ng (W ++ P) sc := by
          unfold lastM; rw [if_neg (by omega), show ((P.length : Int) - up).toNat = sc by omega]
        rw [hL]
        have hmd := made_ev (G := G) ng (W ++ P) sc (by omega) (by omega)
        rw [hsc] at hmd
        refine AW.skip ?_
        refine AW.seqRegionO [.nilp, .tup [(NormM ng (W ++ P) sc).1.enc, .int .i64 (NormM ng (W ++ P) sc).2]] ?_
        refine s1 tok [2, 12, 13, 74] ?_
        refine s1 tok [2, 13, 74, 75] ?_
        refine s1 tok [2, 74, 75, 76] ?_
        refine s1 tok [2, 77] ?_ (hv := by first | with_reducible exact True.intro | (exact hmd; done) | omega | simp | (simp; omega) | (simp +contextual; omega))
        refine s1 tok [2, 77, 78] ?_
        refine s1 tok [2, 78, 79] ?_
        refine s1 tok [2, 79] ?_ (hv := by first | with_reducible exact True.intro | (exact hmd; done) | omega | simp | (simp; omega) | (simp +contextual; omega))
        refine s1 tok [2, 3] ?_
        refine AOpsO.nil ?_
        exact AW.ret ⟨.inr rfl, _, _, by (conv => lhs; simp), trivial, by simp⟩
theorem DecPrint_ev (d : Dc) (hd : dcMay d = true) : AFn Tryd.prog G 15 [d.enc] (.str (PrintM d)) := by
  refine AFn.introU tok Tryd.func15 (by kernel_rfl) rfl rfl ?_
  simp only [Tryd.f15, enumA, List.map_cons, List.map_nil]
  have hb := dc_bounds hd
  have hrp := Repeat_ev (G := G) [48] (d.scale.toNat + 1 - d.digits.length) (by simp; omega)
  rw [rep48] at hrp
  have hmx : (if (d.digits.length : Int) < d.scale + 1 then d.scale + 1 - d.digits.length else 0) = ((d.scale.toNat + 1 - d.digits.length : Nat) : Int) := by split <;> omega
  have hzl : (zerosM (d.scale.toNat + 1 - d.digits.length)).length = d.scale.toNat + 1 - d.digits.length := by simp [zerosM]
  have hpl : (padM d).length = d.scale.toNat + 1 - d.digits.length + d.digits.length := by simp [padM, zerosM]
  have hP : PrintM d = (if d.neg = true then [45] else []) ++ (if d.scale = 0 then padM d else (padM d).take ((padM d).length - d.scale.toNat) ++ 46 :: (padM d).drop ((padM d).length - d.scale.toNat)) := rfl
  have hpad : zerosM (d.scale.toNat + 1 - d.digits.length) ++ d.digits = padM d := rfl
  rw [hP]
  refine AW.seqRegionO [] ?_
  refine s1 tok [1] ?_
  refine s1 tok [1] ?_
  refine AOpsO.nil ?_
  refine AW.seqRunDrawK tok mixed [1, 3] 12 [[1], [6], [7], [1], [9], [10], [8, 11], [12], [13], [1], [15], [14, 16]] [.nilp, .str (zerosM (d.scale.toNat + 1 - d.digits.length))] [] (by kernel_rfl) (by intro C; conv => lhs; simp) (by rw [hmx]; refine ⟨by omega, by omega, hrp, by omega⟩) (by simp [Sm.sum, Sm.foot, Sm.tch, Sm.refs]; kernel_rfl) (by intro C; conv => lhs; simp) (by first | with_reducible exact True.intro | omega | simp | (simp; omega) | (simp +contextual; omega)) ?_
  refine AW.seqRegionO [] ?_
  refine s1 tok [1, 3, 4] ?_
  refine AOpsO.nil ?_
  refine AW.join (α := Unit) (fun _ => True) (fun a => ⟨upds 41 [(1, .ptr 1 0), (3, .p (.str (padM d))), (4, .p (.str (if d.neg = true then [45] else [])))], [], [(1, .vars 28 [.p (.bool d.neg), .p (.str d.digits), .p (.int .i64 d.scale)])], 0⟩) ?_ ?_
  ·
    refine AW.seqRegionO [] ?_
    refine s1 tok [1, 3, 4, 18] ?_
    refine s1 tok [1, 3, 4, 19] ?_
    refine AOpsO.nil ?_
    refine AW.cond (c := .tmp 19) (by conv => lhs; simp) trivial ?_ ?_
    · intro h19
      try simp at h19
      refine AW.regionO [] ?_
      refine s1 tok [1, 3, 4] ?_
      refine AOpsO.nil ?_
      exact ⟨(), trivial, upds_le (by simp [hpad, h19]), rfl, by simp [hpad, h19], by simp [hpad, h19]⟩
    · intro h19
      try simp at h19
      refine AW.skip ?_
      exact ⟨(), trivial, upds_le (by simp [hpad, h19]), rfl, by simp [hpad, h19], by simp [hpad, h19]⟩
  ·
    rintro a hI
    have hsg : (if d.neg = true then [45] else [] : List UInt8).length ≤ 1 := by split <;> simp
    generalize (if d.neg = true then [45] else [] : List UInt8) = sg at *
    have hk : ((padM d).length - d.scale).toNat = (padM d).length - d.scale.toNat := by omega
    generalize padM d = pd at *
    refine AW.seq ?_
    refine AW.seqRegionO [] ?_
    refine s1 tok [1, 3, 4, 20] ?_
    refine s1 tok [1, 3, 4, 21] ?_
    refine s1 tok [1, 3, 4, 22] ?_
    refine AOpsO.nil ?_
    refine AW.cond (c := .tmp 22) (by conv => lhs; simp) trivial ?_ ?_
    · intro h22
      try simp at h22
      refine AW.seqRegionO [] ?_
      refine s1 tok [3, 23] ?_
      refine s1 tok [23, 24] ?_
      refine s1 tok [25] ?_ (hv := by first | with_reducible exact True.intro | (omega; done) | omega | simp | (simp; omega) | (simp +contextual; omega))
      refine s1 tok [2] ?_
      refine AOpsO.nil ?_
      exact AW.ret ⟨.inr rfl, _, _, by (conv => lhs; simp), trivial, by simp [h22]⟩
    · intro h22
      try simp at h22
      refine AW.skip ?_
      refine AW.seqRegionO [] ?_
      refine s1 tok [1, 3, 4, 26] ?_
      refine s1 tok [1, 3, 4, 27] ?_
      refine s1 tok [3, 4, 27, 28] ?_
      refine s1 tok [3, 4, 27, 29] ?_
      refine s1 tok [3, 4, 30] ?_
      refine s1 tok [3, 4, 5] ?_
      refine AOpsO.nil ?_
      refine AW.seqRunDrawK tok mixed [2] 10 [[4], [3], [5], [32, 33], [31, 34], [35], [3], [5], [37, 38], [36, 39]] [] [] (by kernel_rfl) (by intro C; conv => lhs; simp) (by omega) (by simp [Sm.sum, Sm.foot, Sm.tch, Sm.refs]; kernel_rfl) (by intro C; conv => lhs; simp) (by first | with_reducible exact True.intro | omega | simp | (simp; omega) | (simp +contextual; omega)) ?_
      exact AW.ret ⟨.inr rfl, _, _, by (conv => lhs; simp), trivial, by simp [h22, hk]⟩
theorem RefPrint_ev (d : Dc) (hd : dcMay d = true) : AFn Tryd.prog G 8 [d.enc] (.str (PrintM d)) := by
  refine AFn.introU tok Tryd.func8 (by kernel_rfl) rfl rfl ?_
  simp only [Tryd.f8, enumA, List.map_cons, List.map_nil]
  have hb := dc_bounds hd
  have hzl : (zerosM (d.scale.toNat + 1 - d.digits.length)).length = d.scale.toNat + 1 - d.digits.length := by simp [zerosM]
  have hpl : (padM d).length = d.scale.toNat + 1 - d.digits.length + d.digits.length := by simp [padM, zerosM]
  have hP : PrintM d = (if d.neg = true then [45] else []) ++ (if d.scale = 0 then padM d else (padM d).take ((padM d).length - d.scale.toNat) ++ 46 :: (padM d).drop ((padM d).length - d.scale.toNat)) := rfl
  have hpad : zerosM (d.scale.toNat + 1 - d.digits.length) ++ d.digits = padM d := rfl
  rw [hP]
  have hz := zeros_ev (G := G) (d.scale - d.digits.length + 1) (by omega)
  rw [show (d.scale - (d.digits.length : Int) + 1).toNat = d.scale.toNat + 1 - d.digits.length by omega] at hz
  refine AW.seqRegionO [] ?_
  refine s1 tok [1] ?_
  refine s1 tok [1] ?_
  refine AOpsO.nil ?_
  refine AW.seqRegionO [] ?_
  refine s1 tok [1, 4] ?_
  refine s1 tok [1, 5] ?_
  refine s1 tok [1, 3] ?_
  refine AOpsO.nil ?_
  refine AW.join (α := Unit) (fun _ => True) (fun a => ⟨upds 44 [(1, .ptr 1 0), (3, .p (.str (padM d)))], [], [(1, .vars 28 [.p (.bool d.neg), .p (.str d.digits), .p (.int .i64 d.scale)])], 0⟩) ?_ ?_
  ·
    refine AW.seqRegionO [] ?_
    refine s1 tok [1, 3, 6] ?_
    refine s1 tok [1, 3, 7] ?_
    refine s1 tok [1, 3, 7, 8] ?_
    refine s1 tok [1, 3, 7, 9] ?_
    refine s1 tok [1, 3, 10] ?_
    refine AOpsO.nil ?_
    refine AW.cond (c := .tmp 10) (by conv => lhs; simp) trivial ?_ ?_
    · intro h10
      try simp at h10
      refine AW.regionO [.nilp, .str (zerosM (d.scale.toNat + 1 - d.digits.length))] ?_
      refine s1 tok [1, 3, 11] ?_
      refine s1 tok [1, 3, 12] ?_ (hv := by first | with_reducible exact True.intro | (first | exact hz | omega; done) | omega | simp | (simp; omega) | (simp +contextual; omega))
      refine s1 tok [1, 3, 12, 13] ?_
      refine s1 tok [1, 3, 12, 14] ?_ (hv := by first | with_reducible exact True.intro | (first | exact hz | omega; done) | omega | simp | (simp; omega) | (simp +contextual; omega))
      refine s1 tok [1, 3, 15] ?_ (hv := by first | with_reducible exact True.intro | (first | exact hz | omega; done) | omega | simp | (simp; omega) | (simp +contextual; omega))
      refine s1 tok [1, 3, 16] ?_ (hv := by first | with_reducible exact True.intro | (first | exact hz | omega; done) | omega | simp | (simp; omega) | (simp +contextual; omega))
      refine s1 tok [1, 3, 17] ?_ (hv := by first | with_reducible exact True.intro | (first | exact hz | omega; done) | omega | simp | (simp; omega) | (simp +contextual; omega))
      refine s1 tok [1, 17, 18] ?_
      refine s1 tok [1, 19] ?_ (hv := by first | with_reducible exact True.intro | (first | exact hz | omega; done) | omega | simp | (simp; omega) | (simp +contextual; omega))
      refine s1 tok [1, 3] ?_
      refine AOpsO.nil ?_
      exact ⟨(), trivial, upds_le (by simp [hpad]), rfl, by simp [hpad], by simp [hpad]⟩
    · intro h10
      try simp at h10
      have hnp : padM d = d.digits := by unfold padM; rw [show d.scale.toNat + 1 - d.digits.length = 0 by omega]; rfl
      refine AW.skip ?_
      exact ⟨(), trivial, upds_le (by simp [hnp]), rfl, by simp [hnp], by simp [hnp]⟩
  ·
    rintro a hI
    have hk : ((padM d).length - d.scale).toNat = (padM d).length - d.scale.toNat := by omega
    generalize padM d = pd at *
    refine AW.seq ?_
    refine AW.seqRegionO [] ?_
    refine s1 tok [1, 3, 20] ?_
    refine s1 tok [1, 3, 21] ?_
    refine s1 tok [1, 3, 22] ?_
    refine AOpsO.nil ?_
    refine AW.cond (c := .tmp 22) (by conv => lhs; simp) trivial ?_ ?_
    · intro h22
      try simp at h22
      refine AW.runDrawK tok mixed [1, 3] 16 [[3], [3], [24], [1], [26], [25, 27], [23, 28], [29], [3], [3], [32], [1], [34], [33, 35], [31, 36], [30, 37]] [] [] (by kernel_rfl) (by intro C; conv => lhs; simp) (by omega) (by simp [Sm.sum, Sm.foot, Sm.tch, Sm.refs]; kernel_rfl) (by intro C; conv => lhs; simp) (by first | with_reducible exact True.intro | omega | simp | (simp; omega) | (simp +contextual; omega)) ?_
      refine AW.seq ?_
      refine AW.seqRegionO [] ?_
      refine s1 tok [3, 39] ?_
      refine s1 tok [3, 40] ?_
      refine AOpsO.nil ?_
      refine AW.cond (c := .tmp 40) (by conv => lhs; simp) trivial ?_ ?_
      · intro h40
        try simp at h40
        refine AW.seqRegionO [] ?_
        refine s1 tok [41] ?_
        refine s1 tok [42] ?_
        refine s1 tok [2] ?_
        refine AOpsO.nil ?_
        exact AW.ret ⟨.inr rfl, _, _, by (conv => lhs; simp), trivial, by simp [show ¬ d.scale = 0 by omega, h40, hk]⟩
      · intro h40
        try simp at h40
        refine AW.skip ?_
        refine AW.seqRegionO [] ?_
        refine s1 tok [43] ?_
        refine s1 tok [2] ?_
        refine AOpsO.nil ?_
        exact AW.ret ⟨.inr rfl, _, _, by (conv => lhs; simp), trivial, by simp [show ¬ d.scale = 0 by omega, h40, hk]⟩
    · intro h22
      try simp at h22
      refine AW.skip ?_
      refine AW.seq ?_
      refine AW.seqRegionO [] ?_
      refine s1 tok [3, 39] ?_
      refine s1 tok [3, 40] ?_
      refine AOpsO.nil ?_
      refine AW.cond (c := .tmp 40) (by conv => lhs; simp) trivial ?_ ?_
      · intro h40
        try simp at h40
        refine AW.seqRegionO [] ?_
        refine s1 tok [41] ?_
        refine s1 tok [42] ?_
        refine s1 tok [2] ?_
        refine AOpsO.nil ?_
        exact AW.ret ⟨.inr rfl, _, _, by (conv => lhs; simp), trivial, by simp [show d.scale = 0 by omega, h40]⟩
      · intro h40
        try simp at h40
        refine AW.skip ?_
        refine AW.seqRegionO [] ?_
        refine s1 tok [43] ?_
        refine s1 tok [2] ?_
        refine AOpsO.nil ?_
        exact AW.ret ⟨.inr rfl, _, _, by (conv => lhs; simp), trivial, by simp [show d.scale = 0 by omega, h40]⟩
end Go.Proofs.YtdlejiiiifhiiaaDoor
