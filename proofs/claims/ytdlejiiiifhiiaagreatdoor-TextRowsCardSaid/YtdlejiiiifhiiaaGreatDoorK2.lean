import Derived.Test.YtdlejiiiifhiiaaGreatDoorK1
import Derived.Test.YtdlejiiiifhiiaaGreatDoorM3
import Derived.Shelf.Strings.Builder1
import Derived.Lib.MapLaws
import Derived.Lib.ValidLaws
import Derived.Shelf.Unicode.DecodeAny
namespace Go.Proofs.YtdlejiiiifhiiaaGreatDoor
open Sy Go
set_option maxRecDepth 100000
set_option maxHeartbeats 4000000
set_option linter.unusedSimpArgs false
set_option linter.unusedVariables false
variable {G : Glob}
theorem takeW_other (s : List UInt8) : (if s.all (fun b => !otherM b.toNat) then (-1 : Int) else (((s.takeWhile fun b => !otherM b.toNat).length : Nat) : Int)) = if s.all isDig then -1 else ((s.takeWhile isDig).length : Int) := by
  have e : (fun b : UInt8 => !otherM b.toNat) = isDig := by funext b; rw [other_dig]; simp
  rw [e]
theorem index_other (s : List UInt8) : indexF otherM s = if s.all isDig then -1 else ((s.takeWhile isDig).length : Int) := by
  rw [indexF_bytes (fun n h => by simp [otherM] <;> omega), takeW_other]
theorem all_tw {s : List UInt8} (h : s.all isDig = true) : s.takeWhile isDig = s ∧ s.dropWhile isDig = [] := by
  have := tw_of (W := s) (F := []) h (by simp)
  simpa using this
theorem take_tw (s : List UInt8) : s.take (s.takeWhile isDig).length = s.takeWhile isDig ∧ s.drop (s.takeWhile isDig).length = s.dropWhile isDig := by
  have h := List.takeWhile_append_dropWhile (p := isDig) (l := s)
  generalize s.takeWhile isDig = A at *
  generalize s.dropWhile isDig = B at *
  subst h
  simp
theorem tw_le (s : List UInt8) : (s.takeWhile isDig).length ≤ s.length := (List.takeWhile_sublist _).length_le
theorem dw_le (s : List UInt8) : (s.dropWhile isDig).length ≤ s.length := (List.dropWhile_sublist _).length_le
theorem all_len {s : List UInt8} {n : Int} (hc : (if s.all isDig = true then (-1 : Int) else ((s.takeWhile isDig).length : Int)) = n) (h : n < 0) : (s.takeWhile isDig).length = s.length := by
  split at hc
  · rename_i ha; rw [(all_tw ha).1]
  · omega
theorem some_len {s : List UInt8} {n : Int} (hc : (if s.all isDig = true then (-1 : Int) else ((s.takeWhile isDig).length : Int)) = n) (h : 0 ≤ n) : n = ((s.takeWhile isDig).length : Int) := by
  split at hc
  · omega
  · omega
theorem leading_ev (s : List UInt8) : AFn Tryz.prog G 95 [.str s] (.tup [.str (s.takeWhile isDig), .str (s.dropWhile isDig)]) := by
  refine AFn.introU tok Tryz.func95 (by kernel_rfl) rfl rfl ?_
  simp only [Tryz.f95, enumA, List.map_cons, List.map_nil]
  have hI := IndexFunc_ev (G := G) s 110 otherM other_ev
  rw [index_other] at hI
  have htw := take_tw s
  have hle := tw_le s
  generalize hc : (if s.all isDig = true then (-1 : Int) else ((s.takeWhile isDig).length : Int)) = n at hI
  refine AW.seqRegionO [] ?_
  refine s1 tok [0] ?_
  refine s1 tok [0] ?_
  refine AOpsO.nil ?_
  refine AW.seqRegionO [.nilp, .int .i64 n] ?_
  refine s1 tok [0, 5] ?_
  refine s1 tok [0, 6] ?_ (hv := by first | with_reducible exact True.intro | (exact hI; done) | omega | simp | (simp; omega) | (simp +contextual; omega))
  refine s1 tok [0, 4] ?_
  refine AOpsO.nil ?_
  refine AW.join (α := Unit) (fun _ => True) (fun a => ⟨upds 17 [(0, .p (.str s)), (4, .p (.int .i64 (s.takeWhile isDig).length))], [], [], 0⟩) ?_ ?_
  ·
    refine AW.seqRegionO [] ?_
    refine s1 tok [0, 4, 7] ?_
    refine s1 tok [0, 4, 8] ?_
    refine AOpsO.nil ?_
    refine AW.cond (c := .tmp 8) (by conv => lhs; simp) trivial ?_ ?_
    · intro h8
      try simp at h8
      refine AW.regionO [] ?_
      refine s1 tok [0, 9] ?_
      refine s1 tok [0, 10] ?_
      refine s1 tok [0, 4] ?_
      refine AOpsO.nil ?_
      exact ⟨(), trivial, upds_le (by simp [all_len hc h8]), rfl, by simp [all_len hc h8], by simp [all_len hc h8]⟩
    · intro h8
      try simp at h8
      refine AW.skip ?_
      exact ⟨(), trivial, upds_le (by simp [some_len hc h8]), rfl, by simp [some_len hc h8], by simp [some_len hc h8]⟩
  ·
    rintro a hI
    refine AW.seqRunDrawK tok mixed [2, 3] 7 [[0], [4], [11, 12], [0], [4], [14, 15], [13]] [] [] (by kernel_rfl) (by intro C; conv => lhs; simp) (by omega) (by simp [Sm.sum, Sm.foot, Sm.tch, Sm.refs]; kernel_rfl) (by intro C; conv => lhs; simp) (by first | with_reducible exact True.intro | omega | simp | (simp; omega) | (simp +contextual; omega)) ?_
    exact AW.ret ⟨.inr rfl, _, _, by (conv => lhs; simp), trivial, by simp [htw.1, htw.2]⟩
theorem dw48_le (s : List UInt8) : (strip0 s).length ≤ s.length := (List.dropWhile_sublist _).length_le
theorem dc_bounds {d : Dc} (h : dcMay d = true) : 1 ≤ d.digits.length ∧ d.digits.length ≤ 60 ∧ 0 ≤ d.scale ∧ d.scale ≤ 60 := by
  unfold dcMay at h; simp only [Bool.and_eq_true, decide_eq_true_eq] at h; omega
theorem hasPre1 (t : List UInt8) (c : UInt8) : hasPre t [c] = decide (t.head? = some c) := by cases t <;> simp [hasPre]
theorem valI_snoc (D : List UInt8) (c : UInt8) : valI (D ++ [c]) = valI D * 10 + (c.toNat - 48) := by simp [valI]
theorem valI_lt {D : List UInt8} (h : D.all isDig = true) : valI D < 10 ^ D.length := by
  have key : ∀ (r : List UInt8), r.all isDig = true → valI r.reverse < 10 ^ r.length := by
    intro r
    induction r with
    | nil => intro _; decide
    | cons b r ih =>
      intro h
      simp only [List.all_cons, Bool.and_eq_true, isDig, digitM, decide_eq_true_eq] at h
      have := ih h.2
      rw [List.reverse_cons, valI_snoc, List.length_cons, Nat.pow_succ]; omega
  have := key D.reverse (by simpa using h)
  simpa using this
theorem tw_all (s : List UInt8) : (s.takeWhile isDig).all isDig = true := List.all_takeWhile
theorem sign_le (t : List UInt8) : (signL t).length ≤ t.length := by unfold signL; split <;> simp
theorem signT {t : List UInt8} {a b : Bool} (h1 : a = decide (t.head? = some 45)) (h2 : b = decide (t.head? = some 43)) (h : a = true ∨ b = true) : t.tail = signL t ∧ 1 ≤ t.length := by
  subst h1; subst h2
  simp only [decide_eq_true_eq] at h
  unfold signL; rw [if_pos h]
  refine ⟨by simp, ?_⟩
  cases t with
  | nil => simp at h
  | cons a t => simp
theorem signF {t : List UInt8} {a b : Bool} (h1 : a = decide (t.head? = some 45)) (h2 : b = decide (t.head? = some 43)) (h : a = false ∧ b = false) : t = signL t := by
  subst h1; subst h2
  simp only [decide_eq_false_iff_not] at h
  unfold signL; rw [if_neg (fun h' => h'.elim h.1 h.2)]
theorem exponent_ev (s : List UInt8) (hs : s.length ≤ 1000000000000) : AFn Tryz.prog G 96 [.str s] (.tup [.int .i64 ((expL s).getD 0), .bool (expL s).isSome]) := by
  refine AFn.introU tok Tryz.func96 (by kernel_rfl) rfl rfl ?_
  simp only [Tryz.f96, enumA, List.map_cons, List.map_nil]
  refine AW.seqRegionO [] ?_
  refine s1 tok [0] ?_
  refine s1 tok [0] ?_
  refine AOpsO.nil ?_
  refine AW.seq ?_
  refine AW.seqRegionO [] ?_
  refine s1 tok [0, 10] ?_
  refine s1 tok [0, 11] ?_
  refine AOpsO.nil ?_
  refine AW.cond (c := .tmp 11) (by conv => lhs; simp) trivial ?_ ?_
  · intro h11
    try simp at h11
    subst h11
    refine AW.seqRegionO [] ?_
    refine s1 tok [2] ?_
    refine s1 tok [2, 3] ?_
    refine AOpsO.nil ?_
    exact AW.ret ⟨.inr rfl, _, _, by (conv => lhs; simp), trivial, by simp [expL]⟩
  · intro h11
    try simp at h11
    obtain ⟨b, t, rfl⟩ : ∃ b t, s = b :: t := by
      cases s with
      | nil => exact absurd rfl h11
      | cons b t => exact ⟨b, t, rfl⟩
    have hp1 := hasPre1 t 45
    have hp2 := hasPre1 t 43
    have hlt := sign_le t
    simp only [List.length_cons] at hs
    refine AW.skip ?_
    refine AW.seq ?_
    refine AW.seqRegionO [.int .u8 b.toNat, .int .u8 b.toNat] ?_
    refine s1 tok [0, 12] ?_
    refine s1 tok [0, 13] ?_ (hv := by first | with_reducible exact True.intro | (simp; done) | omega | simp | (simp; omega) | (simp +contextual; omega))
    refine s1 tok [0, 14] ?_ (hv := by first | with_reducible exact True.intro | (simp; done) | omega | simp | (simp; omega) | (simp +contextual; omega))
    refine s1 tok [0, 15] ?_
    refine s2 tok [0, 15, 16] 15 rfl rfl ?_
    refine s2 tok [0, 15, 17] 15 rfl rfl ?_ (hv := by first | with_reducible exact True.intro | (simp; done) | omega | simp | (simp; omega) | (simp +contextual; omega))
    refine s2 tok [0, 15, 18] 15 rfl rfl ?_ (hv := by first | with_reducible exact True.intro | (simp; done) | omega | simp | (simp; omega) | (simp +contextual; omega))
    refine s1 tok [0, 19] ?_ (hv := by first | with_reducible exact True.intro | (simp; done) | omega | simp | (simp; omega) | (simp +contextual; omega))
    refine AOpsO.nil ?_
    refine AW.cond (c := .tmp 19) (by conv => lhs; simp) trivial ?_ ?_
    · intro h19
      try simp at h19
      have he : expL (b :: t) = none := by
        unfold expL; simp only; rw [if_pos ⟨by rintro rfl; exact h19.1 rfl, by rintro rfl; exact h19.2 rfl⟩]
      refine AW.seqRegionO [] ?_
      refine s1 tok [2] ?_
      refine s1 tok [2, 3] ?_
      refine AOpsO.nil ?_
      exact AW.ret ⟨.inr rfl, _, _, by (conv => lhs; simp), trivial, by simp [he]⟩
    · intro h19
      try simp at h19
      have hb : ¬ (b ≠ 101 ∧ b ≠ 69) := by
        rintro ⟨h1, h2⟩
        have h1' : b.toNat ≠ 101 := fun e => h1 (UInt8.toNat_inj.1 e)
        have h2' : b.toNat ≠ 69 := fun e => h2 (UInt8.toNat_inj.1 e)
        have := h19 (by omega)
        omega
      have he : expL (b :: t) = if (signL t).dropWhile isDig ≠ [] ∨ ((signL t).takeWhile isDig).length < 1 ∨ 2 < ((signL t).takeWhile isDig).length then none
          else some (if t.head? = some 45 then - (valI ((signL t).takeWhile isDig) : Int) else valI ((signL t).takeWhile isDig)) := by
        unfold expL; simp only; rw [if_neg hb]
      rw [he]
      clear he
      have hlead := leading_ev (G := G) (signL t)
      have hall := tw_all (signL t)
      refine AW.skip ?_
      refine AW.seqRegionO [] ?_
      refine s1 tok [20] ?_
      refine s1 tok [21] ?_
      refine s1 tok [0] ?_
      refine AOpsO.nil ?_
      refine AW.seqRegionO [.nilp, .bool (hasPre t [45])] ?_
      refine s1 tok [0, 22] ?_
      refine s1 tok [0, 23] ?_
      refine s1 tok [0, 4] ?_
      refine AOpsO.nil ?_
      refine AW.join (α := Unit) (fun _ => True) (fun a => ⟨upds 63 [(0, .p (.str (signL t))), (4, .p (.bool (hasPre t [45])))], [], [], 0⟩) ?_ ?_
      ·
        refine AW.seqRegionO [.nilp, .bool (hasPre t [43])] ?_
        refine s1 tok [0, 4, 24] ?_
        refine s1 tok [0, 4, 25] ?_
        refine s2 tok [0, 4, 25, 26] 25 rfl rfl ?_
        refine s2 tok [0, 4, 25, 27] 25 rfl rfl ?_
        refine s1 tok [0, 4, 28] ?_
        refine AOpsO.nil ?_
        refine AW.cond (c := .tmp 28) (by conv => lhs; simp) trivial ?_ ?_
        · intro h28
          try simp at h28
          have hsT := signT hp1 hp2 h28
          refine AW.regionO [] ?_
          refine s1 tok [4, 29] ?_
          refine s1 tok [4, 30] ?_
          refine s1 tok [0, 4] ?_
          refine AOpsO.nil ?_
          exact ⟨(), trivial, upds_le (by simp [hsT.1]), rfl, by simp [hsT.1], by simp [hsT.1]⟩
        · intro h28
          try simp at h28
          refine AW.skip ?_
          exact ⟨(), trivial, upds_le (by simp [(signF hp1 hp2 h28).symm]), rfl, by simp [(signF hp1 hp2 h28).symm], by simp [(signF hp1 hp2 h28).symm]⟩
      ·
        rintro a hI
        generalize signL t = u at *
        generalize u.takeWhile isDig = D at *
        generalize u.dropWhile isDig = E at *
        refine AW.seqRegionO [.nilp, .tup [.str D, .str E]] ?_
        refine s1 tok [4, 32] ?_
        refine s1 tok [4, 33] ?_ (hv := by first | with_reducible exact True.intro | (exact hlead; done) | omega | simp | (simp; omega) | (simp +contextual; omega))
        refine s1 tok [4, 31] ?_
        refine s1 tok [4, 31, 34] ?_
        refine s1 tok [4, 34, 35] ?_
        refine s1 tok [4, 5, 35] ?_
        refine s1 tok [4, 5, 6] ?_
        refine AOpsO.nil ?_
        refine AW.seq ?_
        refine AW.seqRegionO [] ?_
        refine s1 tok [4, 5, 36] ?_
        refine s1 tok [4, 5, 37] ?_
        refine s1 tok [4, 5, 38] ?_
        refine s2 tok [4, 5, 38, 39] 38 rfl rfl ?_
        refine s2 tok [4, 5, 38, 40] 38 rfl rfl ?_
        refine s2 tok [4, 5, 38, 41] 38 rfl rfl ?_
        refine s1 tok [4, 5, 42] ?_
        refine s1 tok [4, 5, 43] ?_
        refine s2 tok [4, 5, 43, 44] 43 rfl rfl ?_
        refine s2 tok [4, 5, 43, 45] 43 rfl rfl ?_
        refine s2 tok [4, 5, 43, 46] 43 rfl rfl ?_
        refine s1 tok [4, 5, 47] ?_
        refine AOpsO.nil ?_
        refine AW.cond (c := .tmp 47) (by conv => lhs; simp) trivial ?_ ?_
        · intro h47
          try simp at h47
          rw [if_pos (h47.elim (fun h => h.elim .inl (fun h => .inr (.inl (by omega)))) (fun h => .inr (.inr (by omega))))]
          refine AW.seqRegionO [] ?_
          refine s1 tok [2] ?_
          refine s1 tok [2, 3] ?_
          refine AOpsO.nil ?_
          exact AW.ret ⟨.inr rfl, _, _, by (conv => lhs; simp), trivial, by simp⟩
        · intro h47
          try simp at h47
          rw [if_neg (by
            rintro (h | h)
            · exact h h47.1.1
            · omega)]
          have hD2 : D.length ≤ 2 := by omega
          refine AW.skip ?_
          refine AW.seqRegionO [] ?_
          refine s1 tok [4, 5, 7] ?_
          refine AOpsO.nil ?_
          refine AW.seq ?_
          refine AW.seqRegionO [] ?_
          refine s1 tok [4, 7, 48] ?_
          refine s1 tok [4, 7, 49] ?_
          refine AOpsO.nil ?_
          refine AW.block ?_
          refine AW.loop (α := Nat) (fun pos => pos ≤ D.length) (fun pos => ⟨upds 63 [(4, .p (.bool (hasPre t [45]))), (7, .p (.int .i64 (valI (D.take pos)))), (49, .it 49)], [], [(49, .iter D pos)], 0⟩) (fun pos => D.length - pos) (0) (by omega) ⟨upds_le (by simp [valI]), rfl, by simp, by simp⟩ ?_
          rintro pos hp
          have hvl : valI (D.take pos) < 10 ^ (D.take pos).length := valI_lt (all_take hall pos)
          have hpw : 10 ^ (D.take pos).length ≤ 10 ^ 2 := Nat.pow_le_pow_right (by omega) (by simp; omega)
          by_cases hs14 : pos < D.length
          ·
            refine AW.seqRegionO [.bool true] ?_
            refine s1 tok [4, 7, 49, 50] ?_ (hv := by first | with_reducible exact True.intro | (simpa using hs14; done) | omega | simp | (simp; omega) | (simp +contextual; omega))
            refine s1 tok [4, 7, 49, 50, 51] ?_
            refine AOpsO.nil ?_
            refine AW.seq ?_
            refine AW.cond (c := .tmp 51) (by conv => lhs; simp) trivial ?_ ?_
            · intro h51
              try simp at h51
              obtain ⟨c, hc⟩ : ∃ c, D[pos]? = some c := ⟨D[pos], by simp [hs14]⟩
              have hcd : isDig c = true := List.all_eq_true.1 hall c (List.mem_of_getElem? hc)
              have hcd2 : 48 ≤ c.toNat ∧ c.toNat ≤ 57 := by simp [isDig, digitM] at hcd; omega
              have hdl : decL D pos = (c.toNat, 1) := by
                have hg : D.getD pos 0 = c := by simp [List.getD_eq_getElem?_getD, hc]
                have := decL_ascii (s := D) (pos := pos) hs14 (by rw [hg]; omega)
                rw [hg] at this; exact this
              have hsn : valI (D.take (pos + 1)) = valI (D.take pos) * 10 + (c.toNat - 48) := by rw [List.take_add_one, hc]; exact valI_snoc _ _
              rw [hdl]
              refine AW.skip ?_
              refine AW.block ?_
              refine AW.seqRegionO [] ?_
              refine s1 tok [4, 7, 49, 52] ?_
              refine s1 tok [4, 7, 9, 49] ?_
              refine AOpsO.nil ?_
              refine AW.regionO [] ?_
              refine s1 tok [4, 9, 49, 53] ?_
              refine s1 tok [4, 9, 49, 54] ?_ (hv := by first | with_reducible exact True.intro | (omega; done) | omega | simp | (simp; omega) | (simp +contextual; omega))
              refine s1 tok [4, 49, 54, 55] ?_
              refine s1 tok [4, 49, 54, 56] ?_ (hv := by first | with_reducible exact True.intro | (omega; done) | omega | simp | (simp; omega) | (simp +contextual; omega))
              refine s1 tok [4, 49, 54, 57] ?_ (hv := by first | with_reducible exact True.intro | (omega; done) | omega | simp | (simp; omega) | (simp +contextual; omega))
              refine s1 tok [4, 49, 58] ?_ (hv := by first | with_reducible exact True.intro | (omega; done) | omega | simp | (simp; omega) | (simp +contextual; omega))
              refine s1 tok [4, 7, 49] ?_
              refine AOpsO.nil ?_
              exact ⟨pos + 1, by omega, by omega, upds_le (by simp [hsn, (show ((c.toNat - 48 : Nat) : Int) = (c.toNat : Int) - 48 by omega)]), rfl, by simp [hsn, (show ((c.toNat - 48 : Nat) : Int) = (c.toNat : Int) - 48 by omega)], by simp [hsn, (show ((c.toNat - 48 : Nat) : Int) = (c.toNat : Int) - 48 by omega)]⟩
            · intro h51
              try simp at h51
          ·
            refine AW.seqRegionO [.bool false] ?_
            refine s1 tok [4, 7, 49, 50] ?_ (hv := by first | with_reducible exact True.intro | (simpa using hs14; done) | omega | simp | (simp; omega) | (simp +contextual; omega))
            refine s1 tok [4, 7, 49, 50, 51] ?_
            refine AOpsO.nil ?_
            refine AW.seq ?_
            refine AW.cond (c := .tmp 51) (by conv => lhs; simp) trivial ?_ ?_
            · intro h51
              try simp at h51
            · intro h51
              try simp at h51
              have hpD : D.take pos = D := List.take_of_length_le (by omega)
              rw [hpD] at hvl hpw ⊢
              refine AW.exit ?_
              simp
              refine AW.seq ?_
              refine AW.seqRegionO [] ?_
              refine s1 tok [7, 59] ?_
              refine AOpsO.nil ?_
              refine AW.cond (c := .tmp 59) (by conv => lhs; simp) trivial ?_ ?_
              · intro h59
                try simp at h59
                rw [hp1] at h59
                have ht : t.head? = some 45 := by simpa using h59
                rw [if_pos ht]
                have hw : IntKind.i64.wrap (-(valI D : Int)) = -(valI D : Int) := by simp [IntKind.wrap, IntKind.bits, IntKind.signed]; omega
                refine AW.regionO [] ?_
                refine s1 tok [60] ?_
                refine s1 tok [61] ?_ (hv := by first | with_reducible exact True.intro | (omega; done) | omega | simp | (simp; omega) | (simp +contextual; omega))
                refine s1 tok [7] ?_
                refine AOpsO.nil ?_
                refine AW.seqRegionO [] ?_
                refine s1 tok [62] ?_
                refine s1 tok [2] ?_
                refine s1 tok [2, 3] ?_
                refine AOpsO.nil ?_
                exact AW.ret ⟨.inr rfl, _, _, by (conv => lhs; simp), trivial, by simp [hw]⟩
              · intro h59
                try simp at h59
                rw [hp1] at h59
                have ht : ¬ t.head? = some 45 := by simpa using h59
                rw [if_neg ht]
                refine AW.skip ?_
                refine AW.seqRegionO [] ?_
                refine s1 tok [62] ?_
                refine s1 tok [2] ?_
                refine s1 tok [2, 3] ?_
                refine AOpsO.nil ?_
                exact AW.ret ⟨.inr rfl, _, _, by (conv => lhs; simp), trivial, by simp⟩
theorem made_ev (neg : Bool) (digits : List UInt8) (scale : Nat) (hd : digits.length ≤ 10000000000) (hs : scale ≤ 10000000000) : AFn Tryz.prog G 97 [.bool neg, .str digits, .int .i64 scale] (.tup [(NormM neg digits scale).1.enc, .int .i64 (NormM neg digits scale).2]) := by
  refine AFn.introU tok Tryz.func97 (by kernel_rfl) rfl rfl ?_
  simp only [Tryz.f97, enumA, List.map_cons, List.map_nil]
  have hstr : (strip0 digits).length ≤ digits.length := dw48_le digits
  refine AW.seqRegionO [] ?_
  refine s1 tok [0, 1, 2, 6] ?_
  refine s1 tok [0, 1, 2, 6] ?_
  refine AOpsO.nil ?_
  refine AW.seqRegionO [.nilp, .str (strip0 digits)] ?_
  refine s1 tok [0, 2, 6, 8] ?_
  refine s1 tok [0, 2, 6, 9] ?_ (hv := by first | with_reducible exact True.intro | (exact TrimLeft1_ev digits 48 (by decide); done) | omega | simp | (simp; omega) | (simp +contextual; omega))
  refine s1 tok [0, 1, 2, 6] ?_
  refine AOpsO.nil ?_
  refine AW.seq ?_
  refine AW.block ?_
  refine AW.loop (α := List UInt8 × Nat) (fun a => trail (strip0 digits) scale = trail a.1 a.2 ∧ a.2 ≤ scale ∧ a.1.length ≤ digits.length) (fun a => ⟨upds 40 [(0, .p (.bool neg)), (1, .p (.str a.1)), (2, .p (.int .i64 a.2)), (6, .ptr 6 0)], [], [(6, .vars 26 [.p (.bool false), .p (.str []), .p (.int .i64 0)])], 0⟩) (fun a => a.2) ((strip0 digits, scale)) ⟨rfl, Nat.le_refl _, hstr⟩ ⟨upds_le (by simp), rfl, by simp, by simp⟩ ?_
  rintro ⟨d, k⟩ ⟨ht, hk, hdl⟩
  simp only at ht hk hdl
  have hsf := HasSuffix_ev (G := G) d 48
  refine AW.seq ?_
  refine AW.seqRegionO [.nilp, .bool (decide (d.getLast? = some 48))] ?_
  refine s1 tok [0, 1, 2, 6, 10] ?_
  refine s1 tok [0, 1, 2, 6, 11] ?_ (hv := by first | with_reducible exact True.intro | (first | exact fun h => ⟨h, hsf⟩ | simp; done) | omega | simp | (simp; omega) | (simp +contextual; omega))
  refine s1 tok [0, 1, 2, 6, 12] ?_
  refine s2 tok [0, 1, 2, 6, 12, 13] 12 rfl rfl ?_
  refine s2 tok [0, 1, 2, 6, 12, 14] 12 rfl rfl ?_ (hv := by first | with_reducible exact True.intro | (first | exact fun h => ⟨h, hsf⟩ | simp; done) | omega | simp | (simp; omega) | (simp +contextual; omega))
  refine s1 tok [0, 1, 2, 6, 15] ?_ (hv := by first | with_reducible exact True.intro | (first | exact fun h => ⟨h, hsf⟩ | simp; done) | omega | simp | (simp; omega) | (simp +contextual; omega))
  refine AOpsO.nil ?_
  refine AW.cond (c := .tmp 15) (by conv => lhs; simp) trivial ?_ ?_
  · intro h15
    try simp at h15
    obtain ⟨k, rfl⟩ : ∃ k', k = k' + 1 := ⟨k - 1, by omega⟩
    have hl : d.getLast? = some 48 := by simpa using h15.2
    have hpos : 0 < d.length := by cases d with
      | nil => simp at hl
      | cons => simp
    have ht' : trail (strip0 digits) scale = trail d.dropLast k := by rw [ht]; simp only [trail]; rw [if_pos hl]
    refine AW.skip ?_
    refine AW.block ?_
    refine AW.regionO [] ?_
    refine s1 tok [0, 1, 2, 6, 16] ?_
    refine s1 tok [0, 2, 6, 16, 17] ?_
    refine s1 tok [0, 2, 6, 16, 18] ?_ (hv := by first | with_reducible exact True.intro | (omega; done) | omega | simp | (simp; omega) | (simp +contextual; omega))
    refine s1 tok [0, 2, 6, 16, 19] ?_ (hv := by first | with_reducible exact True.intro | (omega; done) | omega | simp | (simp; omega) | (simp +contextual; omega))
    refine s1 tok [0, 2, 6, 20] ?_ (hv := by first | with_reducible exact True.intro | (omega; done) | omega | simp | (simp; omega) | (simp +contextual; omega))
    refine s1 tok [0, 6, 20, 21] ?_
    refine s1 tok [0, 6, 20, 22] ?_ (hv := by first | with_reducible exact True.intro | (omega; done) | omega | simp | (simp; omega) | (simp +contextual; omega))
    refine s1 tok [0, 1, 6, 22] ?_
    refine s1 tok [0, 1, 2, 6] ?_
    refine AOpsO.nil ?_
    exact ⟨(d.dropLast, k), ⟨ht', by simp only []; omega, by simp; omega⟩, by simp, upds_le (by simp [take_last]), rfl, by simp [take_last], by simp [take_last]⟩
  · intro h15
    try simp at h15
    have htl : trail (strip0 digits) scale = (d, k) := by
      rw [ht]
      cases k with
      | zero => rfl
      | succ k =>
        simp only [trail]
        rw [if_neg]
        intro hl
        have := h15 (by omega)
        simp [hl] at this
    have hN : NormM neg digits scale = if d = [] then (⟨false, [48], 0⟩, 0) else if 60 < d.length ∨ 60 < k then (⟨false, [], 0⟩, 3) else (⟨neg, d, k⟩, 0) := by unfold NormM; simp only [htl]
    rw [hN]
    refine AW.exit ?_
    simp
    refine AW.seq ?_
    refine AW.block ?_
    refine AW.seqRegionO [] ?_
    refine s1 tok [0, 1, 2, 6, 24] ?_
    refine s1 tok [0, 1, 2, 6, 25] ?_
    refine s1 tok [0, 1, 2, 6, 23] ?_
    refine AOpsO.nil ?_
    refine AW.cond (c := .tmp 23) (by conv => lhs; simp) trivial ?_ ?_
    · intro h23
      try simp at h23
      subst h23
      refine AW.seqRegionO [] ?_
      refine s1 tok [6, 26] ?_
      refine s1 tok [6] ?_
      refine s1 tok [6, 7] ?_
      refine AOpsO.nil ?_
      exact AW.ret ⟨.inr rfl, _, _, by (conv => lhs; simp), trivial, by simp⟩
    · intro h23
      try simp at h23
      rw [if_neg h23]
      refine AW.seqRegionO [] ?_
      refine s1 tok [0, 1, 2, 6, 28] ?_
      refine s1 tok [0, 1, 2, 6, 29] ?_
      refine s1 tok [0, 1, 2, 6, 30] ?_
      refine s1 tok [0, 1, 2, 6, 31] ?_
      refine s2 tok [0, 1, 2, 6, 31, 32] 31 rfl rfl ?_
      refine s2 tok [0, 1, 2, 6, 31, 33] 31 rfl rfl ?_
      refine s1 tok [0, 1, 2, 6, 34] ?_
      refine s1 tok [0, 1, 2, 6, 27] ?_
      refine AOpsO.nil ?_
      refine AW.cond (c := .tmp 27) (by conv => lhs; simp) trivial ?_ ?_
      · intro h27
        try simp at h27
        rw [if_pos (by omega)]
        refine AW.seqRegionO [] ?_
        refine s1 tok [6, 35] ?_
        refine s1 tok [6] ?_
        refine s1 tok [6, 7] ?_
        refine AOpsO.nil ?_
        exact AW.ret ⟨.inr rfl, _, _, by (conv => lhs; simp), trivial, by simp⟩
      · intro h27
        try simp at h27
        rw [if_neg (by omega)]
        refine AW.skip ?_
        refine AW.seqRegionO [] ?_
        refine s1 tok [1, 2, 6, 36] ?_
        refine s1 tok [2, 6, 36, 37] ?_
        refine s1 tok [6, 36, 37, 38] ?_
        refine s1 tok [6, 39] ?_
        refine s1 tok [6] ?_
        refine s1 tok [6, 7] ?_
        refine AOpsO.nil ?_
        exact AW.ret ⟨.inr rfl, _, _, by (conv => lhs; simp), trivial, by simp⟩
theorem body_pre (s : List UInt8) : cutPre s [45] = bodyL s ∧ hasPre s [45] = negL s := by
  have h := hasPre1 s 45
  unfold cutPre bodyL negL
  rw [h]
  refine ⟨?_, rfl⟩
  simp
theorem body_le (s : List UInt8) : (bodyL s).length ≤ s.length := by unfold bodyL; split <;> simp
theorem head48 {W : List UInt8} (h : (((W[0]?.getD 0).toNat : Nat) : Int) = 48) : W.head? = some 48 := by
  cases W with
  | nil => simp at h
  | cons b W => simp at h ⊢; exact UInt8.toNat_inj.1 (by show b.toNat = 48; omega)
theorem rep48 (n : Nat) : Lib.repeatL [48] n = zerosM n := by
  unfold zerosM
  induction n with
  | zero => rfl
  | succ n ih => simp only [Lib.repeatL, List.replicate_succ, ih]; rfl
theorem expL_range (q : List UInt8) : -99 ≤ (expL q).getD 0 ∧ (expL q).getD 0 ≤ 99 := by
  unfold expL
  split
  · simp
  · rename_i b t
    split
    · simp
    · split
      · simp
      · rename_i h
        have h1 := valI_lt (tw_all (signL t))
        have h2 : 10 ^ ((signL t).takeWhile isDig).length ≤ 10 ^ 2 := Nat.pow_le_pow_right (by omega) (by omega)
        simp only [Option.getD_some]
        split <;> omega
theorem DecParse_ev (s : List UInt8) (hs : s.length ≤ 1000000000) : AFn Tryz.prog G 77 [.str s] (.tup [(ParseL s).1.enc, .int .i64 (ParseL s).2]) := by
  refine AFn.introU tok Tryz.func77 (by kernel_rfl) rfl rfl ?_
  simp only [Tryz.f77, enumA, List.map_cons, List.map_nil]
  have hbp := body_pre s
  have hbl := body_le s
  have hP : ParseL s = match fracL ((bodyL s).dropWhile isDig) with
    | none => badDc
    | some (P, r) => endL (negL s) ((bodyL s).takeWhile isDig) P (expL r) := rfl
  rw [hP]
  clear hP
  have hl1 := leading_ev (G := G) (bodyL s)
  have hw1 := tw_le (bodyL s)
  have hw2 := dw_le (bodyL s)
  have hcp := CutPrefix_ev (G := G) s [45]
  rw [hbp.1, hbp.2] at hcp
  generalize bodyL s = u at *
  generalize negL s = ng at *
  generalize u.takeWhile isDig = W at *
  generalize u.dropWhile isDig = r at *
  have hcr := CutPrefix_ev (G := G) r [46]
  have hr46 := hasPre1 r 46
  have hcut : cutPre r [46] = if r.head? = some 46 then r.drop 1 else r := by unfold cutPre; rw [hr46]; simp
  have hl2 := leading_ev (G := G) (r.drop 1)
  have hv1 := tw_le (r.drop 1)
  have hv2 := dw_le (r.drop 1)
  rw [List.length_drop] at hv1 hv2
  refine AW.seqRegionO [] ?_
  refine s1 tok [0, 2] ?_
  refine s1 tok [0, 2] ?_
  refine AOpsO.nil ?_
  refine AW.seqRegionO [.nilp, .tup [.str u, .bool ng]] ?_
  refine s1 tok [2, 15] ?_
  refine s1 tok [2, 16] ?_ (hv := by first | with_reducible exact True.intro | (exact hcp; done) | omega | simp | (simp; omega) | (simp +contextual; omega))
  refine s1 tok [2, 14] ?_
  refine s1 tok [2, 14, 17] ?_
  refine s1 tok [2, 17, 18] ?_
  refine s1 tok [2, 4, 18] ?_
  refine s1 tok [2, 4, 5] ?_
  refine AOpsO.nil ?_
  refine AW.seqRegionO [.nilp, .tup [.str W, .str r]] ?_
  refine s1 tok [2, 5, 20] ?_
  refine s1 tok [2, 5, 21] ?_ (hv := by first | with_reducible exact True.intro | (exact hl1; done) | omega | simp | (simp; omega) | (simp +contextual; omega))
  refine s1 tok [2, 5, 19] ?_
  refine s1 tok [2, 5, 19, 22] ?_
  refine s1 tok [2, 5, 22, 23] ?_
  refine s1 tok [2, 5, 6, 23] ?_
  refine s1 tok [2, 4, 5, 6] ?_
  refine AOpsO.nil ?_
  refine AW.seqRegionO [] ?_
  refine s1 tok [2, 4, 5, 6, 7] ?_
  refine AOpsO.nil ?_
  refine AW.join (α := List UInt8 × List UInt8) (fun a => fracL r = some (a.1, a.2) ∧ a.1.length ≤ s.length ∧ a.2.length ≤ s.length) (fun a => ⟨upds 80 [(2, .ptr 2 0), (4, .p (.str a.2)), (5, .p (.bool ng)), (6, .p (.str W)), (7, .p (.str a.1))], [], [(2, .vars 26 [.p (.bool false), .p (.str []), .p (.int .i64 0)])], 0⟩) ?_ ?_
  ·
    refine AW.seqRegionO [.nilp, .tup [.str (cutPre r [46]), .bool (hasPre r [46])]] ?_
    refine s1 tok [2, 4, 5, 6, 7, 25] ?_
    refine s1 tok [2, 4, 5, 6, 7, 26] ?_ (hv := by first | with_reducible exact True.intro | (exact hcr; done) | omega | simp | (simp; omega) | (simp +contextual; omega))
    refine s1 tok [2, 4, 5, 6, 7, 24] ?_
    refine s1 tok [2, 4, 5, 6, 7, 24, 27] ?_
    refine s1 tok [2, 4, 5, 6, 7, 27, 28] ?_
    refine s1 tok [2, 4, 5, 6, 7, 8, 28] ?_
    refine s1 tok [2, 4, 5, 6, 7, 8, 9] ?_
    refine AOpsO.nil ?_
    refine AW.seqRegionO [] ?_
    refine s1 tok [2, 4, 5, 6, 7, 8, 29] ?_
    refine AOpsO.nil ?_
    refine AW.cond (c := .tmp 29) (by conv => lhs; simp) trivial ?_ ?_
    · intro h29
      try simp at h29
      have hh : r.head? = some 46 := by rw [hr46] at h29; simpa using h29
      rw [if_pos hh] at hcut
      rw [hcut]
      have hF : fracL r = if (r.drop 1).takeWhile isDig = [] then none else some ((r.drop 1).takeWhile isDig, (r.drop 1).dropWhile isDig) := by unfold fracL; rw [if_pos hh]
      rw [hF]
      generalize (r.drop 1).takeWhile isDig = P at *
      generalize (r.drop 1).dropWhile isDig = q at *
      rw [List.drop_one] at hl2
      refine AW.seqRegionO [.nilp, .tup [.str P, .str q]] ?_
      refine s1 tok [2, 5, 6, 31] ?_
      refine s1 tok [2, 5, 6, 32] ?_ (hv := by first | with_reducible exact True.intro | (exact hl2; done) | omega | simp | (simp; omega) | (simp +contextual; omega))
      refine s1 tok [2, 5, 6, 30] ?_
      refine s1 tok [2, 5, 6, 30, 33] ?_
      refine s1 tok [2, 5, 6, 33, 34] ?_
      refine s1 tok [2, 5, 6, 7, 34] ?_
      refine s1 tok [2, 4, 5, 6, 7] ?_
      refine AOpsO.nil ?_
      refine AW.seqRegionO [] ?_
      refine s1 tok [2, 4, 5, 6, 7, 35] ?_
      refine s1 tok [2, 4, 5, 6, 7, 36] ?_
      refine AOpsO.nil ?_
      refine AW.cond (c := .tmp 36) (by conv => lhs; simp) trivial ?_ ?_
      · intro h36
        try simp at h36
        rw [if_pos h36]
        refine AW.seqRegionO [] ?_
        refine s1 tok [2, 37] ?_
        refine s1 tok [2] ?_
        refine s1 tok [2, 3] ?_
        refine AOpsO.nil ?_
        exact AW.ret ⟨.inr rfl, _, _, by (conv => lhs; simp), trivial, by simp [badDc]⟩
      · intro h36
        try simp at h36
        rw [if_neg h36]
        refine AW.skip ?_
        exact ⟨(P, q), ⟨rfl, by simp only []; omega, by simp only []; omega⟩, upds_le (by simp), rfl, by simp, by simp⟩
    · intro h29
      try simp at h29
      have hh : ¬ r.head? = some 46 := by rw [hr46] at h29; simpa using h29
      have hF : fracL r = some ([], r) := by unfold fracL; rw [if_neg hh]
      rw [hF]
      refine AW.skip ?_
      exact ⟨([], r), ⟨rfl, by simp, by simp only []; omega⟩, upds_le (by simp), rfl, by simp, by simp⟩
  ·
    rintro ⟨P, q⟩ ⟨hf, hpl, hql⟩
    simp only at hpl hql
    rw [hf]
    simp only
    have hex := exponent_ev (G := G) q (by omega)
    have hrg := expL_range q
    generalize expL q = e at *
    have hix : ∀ h : W ≠ [], W[0]? = some (W.getD 0 0) := fun h => getD_get (List.length_pos_iff.2 h)
    refine AW.seqRegionO [.nilp, .tup [.int .i64 (e.getD 0), .bool e.isSome]] ?_
    refine s1 tok [2, 5, 6, 7, 39] ?_
    refine s1 tok [2, 5, 6, 7, 40] ?_ (hv := by first | with_reducible exact True.intro | (exact hex; done) | omega | simp | (simp; omega) | (simp +contextual; omega))
    refine s1 tok [2, 5, 6, 7, 38] ?_
    refine s1 tok [2, 5, 6, 7, 38, 41] ?_
    refine s1 tok [2, 5, 6, 7, 41, 42] ?_
    refine s1 tok [2, 5, 6, 7, 10, 42] ?_
    refine s1 tok [2, 5, 6, 7, 10, 11] ?_
    refine AOpsO.nil ?_
    refine AW.seq ?_
    refine AW.seqRegionO [.int .u8 (W.getD 0 0).toNat] ?_
    refine s1 tok [2, 5, 6, 7, 10, 43] ?_
    refine s1 tok [2, 5, 6, 7, 10, 44] ?_ (hv := by first | with_reducible exact True.intro | (first | exact fun h1 h2 h3 => ⟨⟨⟨h1, h2⟩, h3⟩, _, hix h2, rfl⟩ | exact fun h1 h2 => ⟨⟨h1, h2⟩, fun h3 => ⟨⟨h1, h2⟩, h3⟩⟩ | simp; done) | omega | simp | (simp; omega) | (simp +contextual; omega))
    refine s1 tok [2, 5, 6, 7, 10, 45] ?_
    refine s2 tok [2, 5, 6, 7, 10, 45, 46] 45 rfl rfl ?_
    refine s2 tok [2, 5, 6, 7, 10, 45, 47] 45 rfl rfl ?_ (hv := by first | with_reducible exact True.intro | (first | exact fun h1 h2 h3 => ⟨⟨⟨h1, h2⟩, h3⟩, _, hix h2, rfl⟩ | exact fun h1 h2 => ⟨⟨h1, h2⟩, fun h3 => ⟨⟨h1, h2⟩, h3⟩⟩ | simp; done) | omega | simp | (simp; omega) | (simp +contextual; omega))
    refine s1 tok [2, 5, 6, 7, 10, 48] ?_ (hv := by first | with_reducible exact True.intro | (first | exact fun h1 h2 h3 => ⟨⟨⟨h1, h2⟩, h3⟩, _, hix h2, rfl⟩ | exact fun h1 h2 => ⟨⟨h1, h2⟩, fun h3 => ⟨⟨h1, h2⟩, h3⟩⟩ | simp; done) | omega | simp | (simp; omega) | (simp +contextual; omega))
    refine s1 tok [2, 5, 6, 7, 10, 49] ?_
    refine s2 tok [2, 5, 6, 7, 10, 49, 50] 49 rfl rfl ?_
    refine s2 tok [2, 5, 6, 7, 10, 49, 51] 49 rfl rfl ?_ (hv := by first | with_reducible exact True.intro | (first | exact fun h1 h2 h3 => ⟨⟨⟨h1, h2⟩, h3⟩, _, hix h2, rfl⟩ | exact fun h1 h2 => ⟨⟨h1, h2⟩, fun h3 => ⟨⟨h1, h2⟩, h3⟩⟩ | simp; done) | omega | simp | (simp; omega) | (simp +contextual; omega))
    refine s2 tok [2, 5, 6, 7, 10, 49, 52] 49 rfl rfl ?_ (hv := by first | with_reducible exact True.intro | (first | exact fun h1 h2 h3 => ⟨⟨⟨h1, h2⟩, h3⟩, _, hix h2, rfl⟩ | exact fun h1 h2 => ⟨⟨h1, h2⟩, fun h3 => ⟨⟨h1, h2⟩, h3⟩⟩ | simp; done) | omega | simp | (simp; omega) | (simp +contextual; omega))
    refine s2 tok [2, 5, 6, 7, 10, 49, 53] 49 rfl rfl ?_
    refine s2 tok [2, 5, 6, 7, 10, 49, 53, 54] 53 rfl rfl ?_
    refine s2 tok [2, 5, 6, 7, 10, 49, 53, 55] 53 rfl rfl ?_ (hv := by first | with_reducible exact True.intro | (first | exact fun h1 h2 h3 => ⟨⟨⟨h1, h2⟩, h3⟩, _, hix h2, rfl⟩ | exact fun h1 h2 => ⟨⟨h1, h2⟩, fun h3 => ⟨⟨h1, h2⟩, h3⟩⟩ | simp; done) | omega | simp | (simp; omega) | (simp +contextual; omega))
    refine s2 tok [2, 5, 6, 7, 10, 49, 53, 56] 53 rfl rfl ?_ (hv := by first | with_reducible exact True.intro | (first | exact fun h1 h2 h3 => ⟨⟨⟨h1, h2⟩, h3⟩, _, hix h2, rfl⟩ | exact fun h1 h2 => ⟨⟨h1, h2⟩, fun h3 => ⟨⟨h1, h2⟩, h3⟩⟩ | simp; done) | omega | simp | (simp; omega) | (simp +contextual; omega))
    refine s2 tok [2, 5, 6, 7, 10, 49, 57] 49 rfl rfl ?_ (hv := by first | with_reducible exact True.intro | (first | exact fun h1 h2 h3 => ⟨⟨⟨h1, h2⟩, h3⟩, _, hix h2, rfl⟩ | exact fun h1 h2 => ⟨⟨h1, h2⟩, fun h3 => ⟨⟨h1, h2⟩, h3⟩⟩ | simp; done) | omega | simp | (simp; omega) | (simp +contextual; omega))
    refine s1 tok [2, 5, 6, 7, 10, 58] ?_ (hv := by first | with_reducible exact True.intro | (first | exact fun h1 h2 h3 => ⟨⟨⟨h1, h2⟩, h3⟩, _, hix h2, rfl⟩ | exact fun h1 h2 => ⟨⟨h1, h2⟩, fun h3 => ⟨⟨h1, h2⟩, h3⟩⟩ | simp; done) | omega | simp | (simp; omega) | (simp +contextual; omega))
    refine AOpsO.nil ?_
    refine AW.cond (c := .tmp 58) (by conv => lhs; simp) trivial ?_ ?_
    · intro h58
      try simp at h58
      have hbad : endL ng W P e = badDc := by
        cases e with
        | none => rfl
        | some up =>
          simp only [endL]
          rw [if_pos]
          rcases h58 with (h | h) | h
          · cases h
          · exact .inl h
          · exact .inr ⟨by omega, head48 h.2⟩
      rw [hbad]
      refine AW.seqRegionO [] ?_
      refine s1 tok [2, 59] ?_
      refine s1 tok [2] ?_
      refine s1 tok [2, 3] ?_
      refine AOpsO.nil ?_
      exact AW.ret ⟨.inr rfl, _, _, by (conv => lhs; simp), trivial, by simp [badDc]⟩
    · intro h58
      try simp at h58
      obtain ⟨up, rfl⟩ : ∃ up, e = some up := by
        cases e with
        | none => exact absurd rfl h58.1.1
        | some up => exact ⟨up, rfl⟩
      have hend : endL ng W P (some up) = lastM ng (W ++ P) (P.length - up) := by
        simp only [endL]; rw [if_neg]
        rintro (h | ⟨h, h'⟩)
        · exact h58.1.2 h
        · refine h58.2 (by omega) ?_
          cases W with
          | nil => simp at h'
          | cons b W => simp at h'; subst h'; rfl
      rw [hend]
      simp only [Option.getD_some] at hrg ⊢
      have hWP : (W ++ P).length ≤ 2000000000 := by simp; omega
      refine AW.skip ?_
      refine AW.seqRegionO [] ?_
      refine s1 tok [2, 5, 7, 10, 60] ?_
      refine s1 tok [2, 5, 7, 10, 60, 61] ?_
      refine s1 tok [2, 5, 7, 10, 62] ?_
      refine s1 tok [2, 5, 10, 62, 63] ?_
      refine s1 tok [2, 5, 10, 62, 64] ?_
      refine s1 tok [2, 5, 62, 64, 65] ?_
      refine s1 tok [2, 5, 62, 66] ?_
      refine s1 tok [2, 5, 12, 66] ?_
      refine s1 tok [2, 5, 12, 13] ?_
      refine AOpsO.nil ?_
      refine AW.seq ?_
      refine AW.seqRegionO [] ?_
      refine s1 tok [2, 5, 12, 13, 67] ?_
      refine s1 tok [2, 5, 12, 13, 68] ?_
      refine AOpsO.nil ?_
      refine AW.cond (c := .tmp 68) (by conv => lhs; simp) trivial ?_ ?_
      · intro h68
        try simp at h68
        obtain ⟨z, hz⟩ : ∃ z : Nat, (z : Int) = up - P.length := ⟨(up - P.length).toNat, by omega⟩
        have hw3 : IntKind.i64.wrap (-((P.length : Int) - up)) = (z : Int) := by simp [IntKind.wrap, IntKind.bits, IntKind.signed]; omega
        have hrp := Repeat_ev (G := G) [48] z (by simp; omega)
        rw [rep48] at hrp
        have hL : lastM ng (W ++ P) ((P.length : Int) - up) = NormM ng (W ++ (P ++ zerosM z)) 0 := by
          unfold lastM; rw [if_pos h68, show (-((P.length : Int) - up)).toNat = z by omega, List.append_assoc]
        have hzl : (zerosM z).length = z := by simp [zerosM]
        rw [hL]
        have hmd := made_ev (G := G) ng (W ++ (P ++ zerosM z)) 0 (by simp [zerosM] at hWP ⊢; omega) (by omega)
        refine AW.regionO [.nilp, .str (zerosM z)] ?_
        refine s1 tok [2, 5, 13, 69] ?_
        refine s1 tok [2, 5, 69, 70] ?_
        refine s1 tok [2, 5, 69, 71] ?_ (hv := by first | with_reducible exact True.intro | (first | (rw [hw3]; exact hrp) | (simp at hWP; omega); done) | omega | simp | (simp; omega) | (simp +contextual; omega))
        refine s1 tok [2, 5, 69, 72] ?_ (hv := by first | with_reducible exact True.intro | (first | (rw [hw3]; exact hrp) | (simp at hWP; omega); done) | omega | simp | (simp; omega) | (simp +contextual; omega))
        refine s1 tok [2, 5, 73] ?_ (hv := by first | with_reducible exact True.intro | (first | (rw [hw3]; exact hrp) | (simp at hWP; omega); done) | omega | simp | (simp; omega) | (simp +contextual; omega))
        refine s1 tok [2, 5, 12] ?_
        refine s1 tok [2, 5, 12, 13] ?_
        refine AOpsO.nil ?_
        refine AW.seqRegionO [.nilp, .tup [(NormM ng (W ++ (P ++ zerosM z)) 0).1.enc, .int .i64 (NormM ng (W ++ (P ++ zerosM z)) 0).2]] ?_
        refine s1 tok [2, 12, 13, 74] ?_
        refine s1 tok [2, 13, 74, 75] ?_
        refine s1 tok [2, 74, 75, 76] ?_
        refine s1 tok [2, 77] ?_ (hv := by first | with_reducible exact True.intro | (exact hmd; done) | omega | simp | (simp; omega) | (simp +contextual; omega))
        refine s1 tok [2, 77, 78] ?_
        refine s1 tok [2, 78, 79] ?_
        refine s1 tok [2, 79] ?_ (hv := by first | with_reducible exact True.intro | (exact hmd; done) | omega | simp | (simp; omega) | (simp +contextual; omega))
        refine s1 tok [2, 3] ?_
        refine AOpsO.nil ?_
        exact AW.ret ⟨.inr rfl, _, _, by (conv => lhs; simp), trivial, by simp⟩
      · intro h68
        try simp at h68
        obtain ⟨sc, hsc⟩ : ∃ sc : Nat, (sc : Int) = P.length - up := ⟨((P.length : Int) - up).toNat, by omega⟩
        have hL : lastM ng (W ++ P) ((P.length : Int) - up) = NormM ng (W ++ P) sc := by
          unfold lastM; rw [if_neg (by omega), show ((P.length : Int) - up).toNat = sc by omega]
        rw [hL]
        have hmd := made_ev (G := G) ng (W ++ P) sc (by omega) (by omega)
        rw [hsc] at hmd
        refine AW.skip ?_
        refine AW.seqRegionO [.nilp, .tup [(NormM ng (W ++ P) sc).1.enc, .int .i64 (NormM ng (W ++ P) sc).2]] ?_
        refine s1 tok [2, 12, 13, 74] ?_
        refine s1 tok [2, 13, 74, 75] ?_
        refine s1 tok [2, 74, 75, 76] ?_
        refine s1 tok [2, 77] ?_ (hv := by first | with_reducible exact True.intro | (exact hmd; done) | omega | simp | (simp; omega) | (simp +contextual; omega))
        refine s1 tok [2, 77, 78] ?_
        refine s1 tok [2, 78, 79] ?_
        refine s1 tok [2, 79] ?_ (hv := by first | with_reducible exact True.intro | (exact hmd; done) | omega | simp | (simp; omega) | (simp +contextual; omega))
        refine s1 tok [2, 3] ?_
        refine AOpsO.nil ?_
        exact AW.ret ⟨.inr rfl, _, _, by (conv => lhs; simp), trivial, by simp⟩
theorem DecPrint_ev (d : Dc) (hd : dcMay d = true) : AFn Tryz.prog G 21 [d.enc] (.str (PrintM d)) := by
  refine AFn.introU tok Tryz.func21 (by kernel_rfl) rfl rfl ?_
  simp only [Tryz.f21, enumA, List.map_cons, List.map_nil]
  have hb := dc_bounds hd
  have hrp := Repeat_ev (G := G) [48] (d.scale.toNat + 1 - d.digits.length) (by simp; omega)
  rw [rep48] at hrp
  have hmx : (if (d.digits.length : Int) < d.scale + 1 then d.scale + 1 - d.digits.length else 0) = ((d.scale.toNat + 1 - d.digits.length : Nat) : Int) := by split <;> omega
  have hzl : (zerosM (d.scale.toNat + 1 - d.digits.length)).length = d.scale.toNat + 1 - d.digits.length := by simp [zerosM]
  have hpl : (padM d).length = d.scale.toNat + 1 - d.digits.length + d.digits.length := by simp [padM, zerosM]
  have hP : PrintM d = (if d.neg = true then [45] else []) ++ (if d.scale = 0 then padM d else (padM d).take ((padM d).length - d.scale.toNat) ++ 46 :: (padM d).drop ((padM d).length - d.scale.toNat)) := rfl
  have hpad : zerosM (d.scale.toNat + 1 - d.digits.length) ++ d.digits = padM d := rfl
  rw [hP]
  refine AW.seqRegionO [] ?_
  refine s1 tok [1] ?_
  refine s1 tok [1] ?_
  refine AOpsO.nil ?_
  refine AW.seqRunDrawK tok mixed [1, 3] 12 [[1], [6], [7], [1], [9], [10], [8, 11], [12], [13], [1], [15], [14, 16]] [.nilp, .str (zerosM (d.scale.toNat + 1 - d.digits.length))] [] (by kernel_rfl) (by intro C; conv => lhs; simp) (by rw [hmx]; refine ⟨by omega, by omega, hrp, by omega⟩) (by simp [Sm.sum, Sm.foot, Sm.tch, Sm.refs]; kernel_rfl) (by intro C; conv => lhs; simp) (by first | with_reducible exact True.intro | omega | simp | (simp; omega) | (simp +contextual; omega)) ?_
  refine AW.seqRegionO [] ?_
  refine s1 tok [1, 3, 4] ?_
  refine AOpsO.nil ?_
  refine AW.join (α := Unit) (fun _ => True) (fun a => ⟨upds 41 [(1, .ptr 1 0), (3, .p (.str (padM d))), (4, .p (.str (if d.neg = true then [45] else [])))], [], [(1, .vars 26 [.p (.bool d.neg), .p (.str d.digits), .p (.int .i64 d.scale)])], 0⟩) ?_ ?_
  ·
    refine AW.seqRegionO [] ?_
    refine s1 tok [1, 3, 4, 18] ?_
    refine s1 tok [1, 3, 4, 19] ?_
    refine AOpsO.nil ?_
    refine AW.cond (c := .tmp 19) (by conv => lhs; simp) trivial ?_ ?_
    · intro h19
      try simp at h19
      refine AW.regionO [] ?_
      refine s1 tok [1, 3, 4] ?_
      refine AOpsO.nil ?_
      exact ⟨(), trivial, upds_le (by simp [hpad, h19]), rfl, by simp [hpad, h19], by simp [hpad, h19]⟩
    · intro h19
      try simp at h19
      refine AW.skip ?_
      exact ⟨(), trivial, upds_le (by simp [hpad, h19]), rfl, by simp [hpad, h19], by simp [hpad, h19]⟩
  ·
    rintro a hI
    have hsg : (if d.neg = true then [45] else [] : List UInt8).length ≤ 1 := by split <;> simp
    generalize (if d.neg = true then [45] else [] : List UInt8) = sg at *
    have hk : ((padM d).length - d.scale).toNat = (padM d).length - d.scale.toNat := by omega
    generalize padM d = pd at *
    refine AW.seq ?_
    refine AW.seqRegionO [] ?_
    refine s1 tok [1, 3, 4, 20] ?_
    refine s1 tok [1, 3, 4, 21] ?_
    refine s1 tok [1, 3, 4, 22] ?_
    refine AOpsO.nil ?_
    refine AW.cond (c := .tmp 22) (by conv => lhs; simp) trivial ?_ ?_
    · intro h22
      try simp at h22
      refine AW.seqRegionO [] ?_
      refine s1 tok [3, 23] ?_
      refine s1 tok [23, 24] ?_
      refine s1 tok [25] ?_ (hv := by first | with_reducible exact True.intro | (omega; done) | omega | simp | (simp; omega) | (simp +contextual; omega))
      refine s1 tok [2] ?_
      refine AOpsO.nil ?_
      exact AW.ret ⟨.inr rfl, _, _, by (conv => lhs; simp), trivial, by simp [h22]⟩
    · intro h22
      try simp at h22
      refine AW.skip ?_
      refine AW.seqRegionO [] ?_
      refine s1 tok [1, 3, 4, 26] ?_
      refine s1 tok [1, 3, 4, 27] ?_
      refine s1 tok [3, 4, 27, 28] ?_
      refine s1 tok [3, 4, 27, 29] ?_
      refine s1 tok [3, 4, 30] ?_
      refine s1 tok [3, 4, 5] ?_
      refine AOpsO.nil ?_
      refine AW.seqRunDrawK tok mixed [2] 10 [[4], [3], [5], [32, 33], [31, 34], [35], [3], [5], [37, 38], [36, 39]] [] [] (by kernel_rfl) (by intro C; conv => lhs; simp) (by omega) (by simp [Sm.sum, Sm.foot, Sm.tch, Sm.refs]; kernel_rfl) (by intro C; conv => lhs; simp) (by first | with_reducible exact True.intro | omega | simp | (simp; omega) | (simp +contextual; omega)) ?_
      exact AW.ret ⟨.inr rfl, _, _, by (conv => lhs; simp), trivial, by simp [h22, hk]⟩
theorem RefPrint_ev (d : Dc) (hd : dcMay d = true) : AFn Tryz.prog G 29 [d.enc] (.str (PrintM d)) := by
  refine AFn.introU tok Tryz.func29 (by kernel_rfl) rfl rfl ?_
  simp only [Tryz.f29, enumA, List.map_cons, List.map_nil]
  have hb := dc_bounds hd
  have hzl : (zerosM (d.scale.toNat + 1 - d.digits.length)).length = d.scale.toNat + 1 - d.digits.length := by simp [zerosM]
  have hpl : (padM d).length = d.scale.toNat + 1 - d.digits.length + d.digits.length := by simp [padM, zerosM]
  have hP : PrintM d = (if d.neg = true then [45] else []) ++ (if d.scale = 0 then padM d else (padM d).take ((padM d).length - d.scale.toNat) ++ 46 :: (padM d).drop ((padM d).length - d.scale.toNat)) := rfl
  have hpad : zerosM (d.scale.toNat + 1 - d.digits.length) ++ d.digits = padM d := rfl
  rw [hP]
  have hz := zeros_ev (G := G) (d.scale - d.digits.length + 1) (by omega)
  rw [show (d.scale - (d.digits.length : Int) + 1).toNat = d.scale.toNat + 1 - d.digits.length by omega] at hz
  refine AW.seqRegionO [] ?_
  refine s1 tok [1] ?_
  refine s1 tok [1] ?_
  refine AOpsO.nil ?_
  refine AW.seqRegionO [] ?_
  refine s1 tok [1, 4] ?_
  refine s1 tok [1, 5] ?_
  refine s1 tok [1, 3] ?_
  refine AOpsO.nil ?_
  refine AW.join (α := Unit) (fun _ => True) (fun a => ⟨upds 44 [(1, .ptr 1 0), (3, .p (.str (padM d)))], [], [(1, .vars 26 [.p (.bool d.neg), .p (.str d.digits), .p (.int .i64 d.scale)])], 0⟩) ?_ ?_
  ·
    refine AW.seqRegionO [] ?_
    refine s1 tok [1, 3, 6] ?_
    refine s1 tok [1, 3, 7] ?_
    refine s1 tok [1, 3, 7, 8] ?_
    refine s1 tok [1, 3, 7, 9] ?_
    refine s1 tok [1, 3, 10] ?_
    refine AOpsO.nil ?_
    refine AW.cond (c := .tmp 10) (by conv => lhs; simp) trivial ?_ ?_
    · intro h10
      try simp at h10
      refine AW.regionO [.nilp, .str (zerosM (d.scale.toNat + 1 - d.digits.length))] ?_
      refine s1 tok [1, 3, 11] ?_
      refine s1 tok [1, 3, 12] ?_ (hv := by first | with_reducible exact True.intro | (first | exact hz | omega; done) | omega | simp | (simp; omega) | (simp +contextual; omega))
      refine s1 tok [1, 3, 12, 13] ?_
      refine s1 tok [1, 3, 12, 14] ?_ (hv := by first | with_reducible exact True.intro | (first | exact hz | omega; done) | omega | simp | (simp; omega) | (simp +contextual; omega))
      refine s1 tok [1, 3, 15] ?_ (hv := by first | with_reducible exact True.intro | (first | exact hz | omega; done) | omega | simp | (simp; omega) | (simp +contextual; omega))
      refine s1 tok [1, 3, 16] ?_ (hv := by first | with_reducible exact True.intro | (first | exact hz | omega; done) | omega | simp | (simp; omega) | (simp +contextual; omega))
      refine s1 tok [1, 3, 17] ?_ (hv := by first | with_reducible exact True.intro | (first | exact hz | omega; done) | omega | simp | (simp; omega) | (simp +contextual; omega))
      refine s1 tok [1, 17, 18] ?_
      refine s1 tok [1, 19] ?_ (hv := by first | with_reducible exact True.intro | (first | exact hz | omega; done) | omega | simp | (simp; omega) | (simp +contextual; omega))
      refine s1 tok [1, 3] ?_
      refine AOpsO.nil ?_
      exact ⟨(), trivial, upds_le (by simp [hpad]), rfl, by simp [hpad], by simp [hpad]⟩
    · intro h10
      try simp at h10
      have hnp : padM d = d.digits := by unfold padM; rw [show d.scale.toNat + 1 - d.digits.length = 0 by omega]; rfl
      refine AW.skip ?_
      exact ⟨(), trivial, upds_le (by simp [hnp]), rfl, by simp [hnp], by simp [hnp]⟩
  ·
    rintro a hI
    have hk : ((padM d).length - d.scale).toNat = (padM d).length - d.scale.toNat := by omega
    generalize padM d = pd at *
    refine AW.seq ?_
    refine AW.seqRegionO [] ?_
    refine s1 tok [1, 3, 20] ?_
    refine s1 tok [1, 3, 21] ?_
    refine s1 tok [1, 3, 22] ?_
    refine AOpsO.nil ?_
    refine AW.cond (c := .tmp 22) (by conv => lhs; simp) trivial ?_ ?_
    · intro h22
      try simp at h22
      refine AW.runDrawK tok mixed [1, 3] 16 [[3], [3], [24], [1], [26], [25, 27], [23, 28], [29], [3], [3], [32], [1], [34], [33, 35], [31, 36], [30, 37]] [] [] (by kernel_rfl) (by intro C; conv => lhs; simp) (by omega) (by simp [Sm.sum, Sm.foot, Sm.tch, Sm.refs]; kernel_rfl) (by intro C; conv => lhs; simp) (by first | with_reducible exact True.intro | omega | simp | (simp; omega) | (simp +contextual; omega)) ?_
      refine AW.seq ?_
      refine AW.seqRegionO [] ?_
      refine s1 tok [3, 39] ?_
      refine s1 tok [3, 40] ?_
      refine AOpsO.nil ?_
      refine AW.cond (c := .tmp 40) (by conv => lhs; simp) trivial ?_ ?_
      · intro h40
        try simp at h40
        refine AW.seqRegionO [] ?_
        refine s1 tok [41] ?_
        refine s1 tok [42] ?_
        refine s1 tok [2] ?_
        refine AOpsO.nil ?_
        exact AW.ret ⟨.inr rfl, _, _, by (conv => lhs; simp), trivial, by simp [show ¬ d.scale = 0 by omega, h40, hk]⟩
      · intro h40
        try simp at h40
        refine AW.skip ?_
        refine AW.seqRegionO [] ?_
        refine s1 tok [43] ?_
        refine s1 tok [2] ?_
        refine AOpsO.nil ?_
        exact AW.ret ⟨.inr rfl, _, _, by (conv => lhs; simp), trivial, by simp [show ¬ d.scale = 0 by omega, h40, hk]⟩
    · intro h22
      try simp at h22
      refine AW.skip ?_
      refine AW.seq ?_
      refine AW.seqRegionO [] ?_
      refine s1 tok [3, 39] ?_
      refine s1 tok [3, 40] ?_
      refine AOpsO.nil ?_
      refine AW.cond (c := .tmp 40) (by conv => lhs; simp) trivial ?_ ?_
      · intro h40
        try simp at h40
        refine AW.seqRegionO [] ?_
        refine s1 tok [41] ?_
        refine s1 tok [42] ?_
        refine s1 tok [2] ?_
        refine AOpsO.nil ?_
        exact AW.ret ⟨.inr rfl, _, _, by (conv => lhs; simp), trivial, by simp [show d.scale = 0 by omega, h40]⟩
      · intro h40
        try simp at h40
        refine AW.skip ?_
        refine AW.seqRegionO [] ?_
        refine s1 tok [43] ?_
        refine s1 tok [2] ?_
        refine AOpsO.nil ?_
        exact AW.ret ⟨.inr rfl, _, _, by (conv => lhs; simp), trivial, by simp [show d.scale = 0 by omega, h40]⟩
end Go.Proofs.YtdlejiiiifhiiaaGreatDoor
/-
  OUR OWN LAYER: strings.Builder: copyCheck and String.
-/
namespace Go.Proofs.YtdlejiiiifhiiaaGreatDoor
open Sy Go
set_option maxRecDepth 100000
set_option linter.unusedSimpArgs false
set_option linter.unusedVariables false
variable {G : Glob}
/-- What a builder's first field holds: whether it was written. -/
def bldA (u : Bool) : V := if u then .ptr 2 0 else .p .nilp
/-- A builder that is box 2, its bytes box 3. -/
def bldH (u : Bool) (bs : List UInt8) : List (Nat × Box) := [(2, .vars 70 [bldA u, .ms 3]), (3, .row 5 1 (bytesP bs))]
theorem bld_size : (Tryz.prog.info? 70).map (·.size) = some 2 := by kernel_rfl
theorem bld_lies : liesAt Tryz.prog Tryz.prog.depth 70 (2 / Tryz.prog.cellsOf 70) 0 70 1 = true := by kernel_rfl
section
set_option maxHeartbeats 1000000 in
theorem cc_used (b : Nat) (w : World) (h0 : w.cell? ⟨b, 0, none⟩ = some (.pointer (some ⟨b, 0, none⟩))) :
    Calls Tryz.prog 64 #[.pointer (some ⟨b, 0, none⟩)] w fun e w' => e = .returned (.tuple #[]) ∧ w' = w := by
  obtain ⟨j, hj, _⟩ := Option.map_eq_some_iff.1 bld_size
  go_enter Tryz.func64, Tryz.ntmps64
  go_wp2
  rw [Lib.run_neq_ptr_same w _ Tryz.underlying67 hj]
  go_wp2
  go_end0
  exact ⟨rfl, rfl⟩
set_option maxHeartbeats 1000000 in
theorem cc_fresh (b : Nat) (w : World) (h0 : w.cell? ⟨b, 0, none⟩ = some (.pointer none)) (hsh : w.shape? b = some (70, 2)) (hfz : w.frozen? ⟨b, 0, none⟩ = false) :
    Calls Tryz.prog 64 #[.pointer (some ⟨b, 0, none⟩)] w fun e w' => e = .returned (.tuple #[]) ∧ w' = w.setCell ⟨b, 0, none⟩ (.pointer (some ⟨b, 0, none⟩)) := by
  obtain ⟨j, hj, hjs⟩ := Option.map_eq_some_iff.1 bld_size
  go_enter Tryz.func64, Tryz.ntmps64
  go_wp2
  rw [Lib.run_to_unsafe w ⟨b, 0, none⟩ Tryz.underlying67 Tryz.underlying118 hj (by rw [hjs]; decide) hsh (Nat.zero_lt_succ 1)]
  simp only [Result.andThen]
  rw [Oper.upon_value]
  go_wp2
  rw [run_callFunc_extern Tryz.func87 (by kernel_rfl) (by kernel_rfl) (by kernel_rfl) (e := Extern.AbiNoEscape.same) (by kernel_rfl)]
  rw [Lib.run_noEscape]
  simp only [Result.andThen]
  rw [Oper.upon_value]
  go_wp2
  rw [Lib.run_from_unsafe w ⟨b, 0, none⟩ Tryz.underlying118 Tryz.underlying67 hj hsh bld_lies]
  simp only [Result.andThen]
  rw [Oper.upon_value]
  go_wp2
  go_end0
  exact ⟨rfl, rfl⟩
end
theorem copyCheck_ax (u : Bool) (bs : List UInt8) : AX Tryz.prog G 64 [.ptr 2 0] (bldH u bs) (.tuple []) [2, 3] (bldH true bs) := by
  refine ⟨callable_of Tryz.func64 (by kernel_rfl) rfl, fun M μ w vs hg rel => ?_⟩
  obtain ⟨l⟩ := vs
  have hsz : l.length = 1 := by simpa using rel.slots.1
  match l, hsz with
  | [v], _ =>
  have hv := rel.slots.2 0 v (.ptr 2 0) rfl rfl
  cases hv with
  | @ptr _ _ b hb =>
  have hbx := rel.box 2 (.vars 70 [bldA u, .ms 3]) (by simp [bldH])
  cases hbx with
  | @vars _ _ b' arr h0 hh hs ho hc =>
  rw [hb] at h0; cases h0
  obtain ⟨x, y, rfl⟩ : ∃ x y, arr = #[x, y] := by
    obtain ⟨l⟩ := arr
    match l, hs with
    | [x, y], _ => exact ⟨x, y, rfl⟩
  have hx := hc 0 x (bldA u) rfl rfl
  have hy := hc 1 y (.ms 3) rfl rfl
  have hfin : ∀ w', Rel ⟨w.heap.size, w, M, μ, lentBy μ (bldH u bs)⟩ M μ ⟨[.ptr 2 0], (bldH u bs).map (·.1), bldH true bs, 0⟩ #[.pointer (some ⟨b, 0, none⟩)] w' →
      ∃ v M' μ', (Ending.returned (.tuple #[]) : Ending) = .returned v ∧ Rel ⟨w.heap.size, w, M, μ, lentBy μ (bldH u bs)⟩ M' μ' ⟨[.tuple []], [2, 3], bldH true bs, 0⟩ #[v] w' := by
    intro w' r
    refine ⟨_, M, μ, rfl, { r with slots := ⟨rfl, fun i u x hu hx => ?_⟩, pins := fun _ _ => rfl }⟩
    cases i with
    | zero => simp at hu hx; subst hu; subst hx; exact .tuple rfl fun i u x hu => by simp at hu
    | succ i => simp at hx
  cases u with
  | true =>
    obtain rfl : x = .pointer (some ⟨b, 0, none⟩) := by
      cases hx with
      | ptr h => rw [hb] at h; cases h; rfl
    refine (cc_used b w (by rw [cell_of_block hh]; rfl)).mono ?_
    rintro e w' ⟨rfl, rfl⟩
    exact hfin _ rel
  | false =>
    obtain rfl : x = .pointer none := by
      cases hx with
      | p h => cases h; rfl
    refine (cc_fresh b w (by rw [cell_of_block hh]; rfl) (by simp [World.shape?, hh]) (by simp [World.frozen?, hh])).mono ?_
    rintro e w' ⟨rfl, rfl⟩
    refine hfin _ ?_
    have ht : Turned w (w.setCell ⟨b, 0, none⟩ (.pointer (some ⟨b, 0, none⟩))) b :=
      ⟨rfl, rfl, rfl, by simp [World.setCell], fun k hk => RowKit.Below.heap_setCell w ⟨b, 0, none⟩ _ k hk⟩
    have := rel.write (id := 2) (bx := .vars 70 [bldA true, .ms 3]) (by simp [keyIn, bldH]) hb ht (.vars (arr := #[.pointer (some ⟨b, 0, none⟩), y]) hb (by simp only [World.setCell, Array.getElem?_modify, if_pos, hh]; simp) rfl (fun i u hu => ?_) (fun i u x hu hx => ?_))
    · simpa [bldH, setBox] using this
    · match i, hu with
      | 0, hu => simp at hu; subst hu; rfl
      | 1, hu => exact ho 1 u (by simpa using hu)
      | i + 2, hu => simp at hu
    · match i, hu, hx with
      | 0, hu, hx => simp at hu hx; subst hu; subst hx; exact .ptr hb
      | 1, hu, hx => simp at hu hx; subst hu; subst hx; exact hy
      | i + 2, hu, hx => simp at hu
theorem ccF_ax (bs : List UInt8) : AX Tryz.prog G 64 [.ptr 2 0] [(2, .vars 70 [.p .nilp, .ms 3]), (3, .row 5 1 (bytesP bs))] (.tuple []) [2, 3] [(2, .vars 70 [.ptr 2 0, .ms 3]), (3, .row 5 1 (bytesP bs))] := copyCheck_ax false bs
theorem cc_ax (bs : List UInt8) : AX Tryz.prog G 64 [.ptr 2 0] [(2, .vars 70 [.ptr 2 0, .ms 3]), (3, .row 5 1 (bytesP bs))] (.tuple []) [2, 3] [(2, .vars 70 [.ptr 2 0, .ms 3]), (3, .row 5 1 (bytesP bs))] := copyCheck_ax true bs
open Go.Shelf Go.RowKit
section
variable {P : Program} {ρ : Ren}
abbrev Mild (g : Nat) (w w' : World) : Prop := Kept (fun k => k = g ∨ w.heap.size ≤ k) w w'
theorem mild_drew (g : Nat) (w : World) : Mild g w w.drew := ⟨rfl, rfl, rfl, Nat.le_refl _, fun _ _ => rfl⟩
theorem mild_freeze (g : Nat) (w : World) (n : Nat) : Mild g w (w.drew.freeze ⟨g, 0, none⟩ n) := by
  unfold World.freeze
  split
  · exact mild_drew g w
  · exact ⟨rfl, rfl, rfl, by simp only [Array.size_modify]; exact Nat.le_refl _, fun k hk => by
      simp only [Array.getElem?_modify]
      rw [if_neg (by omega)]; rfl⟩
theorem mild_alloc (g : Nat) (w : World) (o : Obj) : Mild g w (w.alloc o).drew := ⟨rfl, rfl, rfl, by show w.heap.size ≤ (w.heap.push o).size; simp, fun k hk => by
  show (w.heap.push o)[k]? = _
  rw [Array.getElem?_push, if_neg (by omega)]⟩
theorem mild_alloc' (g : Nat) (w : World) (o : Obj) : Mild g w (w.drew.alloc o) := mild_alloc g w o
set_option maxHeartbeats 1000000 in
theorem bld_row (L : Lays.n169 P ρ) (X : Builder.Extra P ρ) (b g cap : Nat) (p : Value) (cur : Array Value) (l : List UInt8) (w : World) (hbk : w.heap[b]? = some (.cells #[p, .slice (some ⟨g, 0, none⟩) l.length cap] (ρ.t 72) (0, 0)))
    (hg : w.heap[g]? = some (.cells cur (ρ.t 5) (0, 0))) (hnc : l.length ≤ cap) (hcm : cap ≤ maxLen) (hcs : cur.size = cap) (hcells : ∀ (j : Nat) (x : UInt8), l[j]? = some x → cur[j]? = some (Value.int .u8 x.toNat)) (h0 : l ≠ []) :
    Calls P (ρ.f 169) #[.pointer (some ⟨b, 0, none⟩)] w fun e w' => e = .returned (.string ⟨l.toArray⟩) ∧ Mild g w w' := by
  have hl0 : l.length ≠ 0 := by simpa using h0
  have c1 : w.drew.cell? ⟨b, 1, none⟩ = some (.slice (some ⟨g, 0, none⟩) l.length cap) := by
    have : w.drew.heap[b]? = some (.cells #[p, .slice (some ⟨g, 0, none⟩) l.length cap] (ρ.t 72) (0, 0)) := hbk
    rw [Lib.cell_of_heap this]; rfl
  have hSD : (Builtin.unsafeSliceData_ #[(ρ.t 37)] (ρ.t 127) #[.slice (some ⟨g, 0, none⟩) l.length cap]).run P w.drew = .ok (.pointer (some ⟨g, 0, none⟩)) w.drew :=
    Lib.run_unsafeSliceData_row _ _ _ _ _ _ (by omega)
  have hUS : (Builtin.unsafeString_ #[(ρ.t 127), (ρ.t 3)] (ρ.t 9) #[.pointer (some ⟨g, 0, none⟩), .int .i64 l.length]).run P w.drew = .ok (.string ⟨l.toArray⟩) (w.drew.freeze ⟨g, 0, none⟩ l.length) := by
    refine Lib.run_unsafeString_row w.drew (ρ.t 127) (ρ.t 3) (ρ.t 9) (ρ.t 5) L.t127 X.cellsByte g cur.size (by have hg' : w.drew.heap[g]? = some (.cells cur (ρ.t 5) (0, 0)) := hg; simp [World.shape?, hg']) l h0 (by omega) (by unfold maxLen at hcm; omega) ?_
    intro j x hx
    have hg' : w.drew.heap[g]? = some (.cells cur (ρ.t 5) (0, 0)) := hg
    rw [add_eq, Nat.zero_add, Lib.cell_of_heap hg']
    exact hcells j x hx
  have mixed := L.mixed
  have t72 := L.t72; have a72 := L.a72; have z72 := L.z72; have v72 := L.v72; have u72 := run_underlying L.t72
  have t70 := L.t70; have a70 := L.a70; have z70 := L.z70; have v70 := L.v70; have u70 := run_underlying L.t70
  have t37 := L.t37; have a37 := L.a37; have z37 := L.z37; have v37 := L.v37; have u37 := run_underlying L.t37
  have t127 := L.t127; have a127 := L.a127; have z127 := L.z127; have v127 := L.v127; have u127 := run_underlying L.t127
  have t3 := L.t3; have a3 := L.a3; have z3 := L.z3; have v3 := L.v3; have u3 := run_underlying L.t3
  have t9 := L.t9; have a9 := L.a9; have z9 := L.z9; have v9 := L.v9; have u9 := run_underlying L.t9
  have t5 := X.t5; have a5 := X.a5; have z5 := X.z5; have v5 := X.v5; have u5 := run_underlying X.t5
  go_enter L.f169, Body.n169_ntmps ρ
  go_wp2
  go_region_o
  all_goals (go_wp2; go_ret; exact ⟨rfl, mild_freeze g w _⟩)
set_option maxHeartbeats 2000000 in
theorem bld_nil (L : Lays.n169 P ρ) (X : Builder.Extra P ρ) (b : Nat) (p : Value) (w : World) (hbk : w.heap[b]? = some (.cells #[p, .slice none 0 0] (ρ.t 72) (0, 0))) :
    Calls P (ρ.f 169) #[.pointer (some ⟨b, 0, none⟩)] w fun e w' => e = .returned (.string ⟨#[]⟩) ∧ Mild w.heap.size w w' := by
  have hUS := Any.unsafeString_none L X
  have c1 : w.drew.cell? ⟨b, 1, none⟩ = some (.slice none 0 0) := by
    have : w.drew.heap[b]? = some (.cells #[p, .slice none 0 0] (ρ.t 72) (0, 0)) := hbk
    rw [Lib.cell_of_heap this]; rfl
  have hSD : (Builtin.unsafeSliceData_ #[(ρ.t 37)] (ρ.t 127) #[.slice none 0 0]).run P w.drew = .ok (.pointer none) w.drew := rfl
  have mixed := L.mixed
  have t72 := L.t72; have a72 := L.a72; have z72 := L.z72; have v72 := L.v72; have u72 := run_underlying L.t72
  have t70 := L.t70; have a70 := L.a70; have z70 := L.z70; have v70 := L.v70; have u70 := run_underlying L.t70
  have t37 := L.t37; have a37 := L.a37; have z37 := L.z37; have v37 := L.v37; have u37 := run_underlying L.t37
  have t127 := L.t127; have a127 := L.a127; have z127 := L.z127; have v127 := L.v127; have u127 := run_underlying L.t127
  have t3 := L.t3; have a3 := L.a3; have z3 := L.z3; have v3 := L.v3; have u3 := run_underlying L.t3
  have t9 := L.t9; have a9 := L.a9; have z9 := L.z9; have v9 := L.v9; have u9 := run_underlying L.t9
  have t5 := X.t5; have a5 := X.a5; have z5 := X.z5; have v5 := X.v5; have u5 := run_underlying X.t5
  go_enter L.f169, Body.n169_ntmps ρ
  go_wp2
  go_region_o
  all_goals (go_wp2; go_ret; exact ⟨rfl, mild_drew _ w⟩)
set_option maxHeartbeats 2000000 in
theorem bld_none (L : Lays.n169 P ρ) (X : Builder.Extra P ρ) (b g : Nat) (p : Value) (cur : Array Value) (w : World) (hlt : b < w.heap.size) (hbk : w.heap[b]? = some (.cells #[p, .slice (some ⟨g, 0, none⟩) 0 0] (ρ.t 72) (0, 0))) (hg : w.heap[g]? = some (.cells cur (ρ.t 5) (0, 0))) :
    Calls P (ρ.f 169) #[.pointer (some ⟨b, 0, none⟩)] w fun e w' => e = .returned (.string ⟨#[]⟩) ∧ Mild g w w' := by
  have hUS := Any.unsafeString_none L X
  have c1 : w.drew.cell? ⟨b, 1, none⟩ = some (.slice (some ⟨g, 0, none⟩) 0 0) := by
    have : w.drew.heap[b]? = some (.cells #[p, .slice (some ⟨g, 0, none⟩) 0 0] (ρ.t 72) (0, 0)) := hbk
    rw [Lib.cell_of_heap this]; rfl
  have hSD : (Builtin.unsafeSliceData_ #[(ρ.t 37)] (ρ.t 127) #[.slice (some ⟨g, 0, none⟩) 0 0]).run P w.drew = .ok (.pointer (some ⟨w.drew.heap.size, 0, none⟩)) (w.drew.alloc (.view ⟨g, 0, none⟩ (ρ.t 5))) :=
    Lib.run_unsafeSliceData_zero w.drew _ _ (ρ.t 5) L.t127 ⟨g, 0, none⟩ 0 ((ρ.t 5), cur.size) (by have hg' : w.drew.heap[g]? = some (.cells cur (ρ.t 5) (0, 0)) := hg; simp [World.shape?, hg'])
  have c2 : (w.drew.alloc (.view ⟨g, 0, none⟩ (ρ.t 5))).cell? ⟨b, 1, none⟩ = some (.slice (some ⟨g, 0, none⟩) 0 0) := by
    have : (w.drew.alloc (.view ⟨g, 0, none⟩ (ρ.t 5))).heap[b]? = _ := (Lib.alloc_old w.drew _ b hlt).trans hbk
    rw [Lib.cell_of_heap this]; rfl
  have c3 : (w.alloc (.view ⟨g, 0, none⟩ (ρ.t 5))).drew.cell? ⟨b, 1, none⟩ = some (.slice (some ⟨g, 0, none⟩) 0 0) := c2
  have c0 : w.cell? ⟨b, 1, none⟩ = some (.slice (some ⟨g, 0, none⟩) 0 0) := c1
  have mixed := L.mixed
  have t72 := L.t72; have a72 := L.a72; have z72 := L.z72; have v72 := L.v72; have u72 := run_underlying L.t72
  have t70 := L.t70; have a70 := L.a70; have z70 := L.z70; have v70 := L.v70; have u70 := run_underlying L.t70
  have t37 := L.t37; have a37 := L.a37; have z37 := L.z37; have v37 := L.v37; have u37 := run_underlying L.t37
  have t127 := L.t127; have a127 := L.a127; have z127 := L.z127; have v127 := L.v127; have u127 := run_underlying L.t127
  have t3 := L.t3; have a3 := L.a3; have z3 := L.z3; have v3 := L.v3; have u3 := run_underlying L.t3
  have t9 := L.t9; have a9 := L.a9; have z9 := L.z9; have v9 := L.v9; have u9 := run_underlying L.t9
  have t5 := X.t5; have a5 := X.a5; have z5 := X.z5; have v5 := X.v5; have u5 := run_underlying X.t5
  go_enter L.f169, Body.n169_ntmps ρ
  go_wp2
  go_region_o
  all_goals (go_wp2; go_ret; first | exact ⟨rfl, mild_alloc g w _⟩ | exact ⟨rfl, mild_alloc' g w _⟩)
set_option maxHeartbeats 2000000 in
theorem bld_room (L : Lays.n169 P ρ) (X : Builder.Extra P ρ) (b g cap : Nat) (p : Value) (w : World) (hc0 : cap ≠ 0) (hbk : w.heap[b]? = some (.cells #[p, .slice (some ⟨g, 0, none⟩) 0 cap] (ρ.t 72) (0, 0))) :
    Calls P (ρ.f 169) #[.pointer (some ⟨b, 0, none⟩)] w fun e w' => e = .returned (.string ⟨#[]⟩) ∧ Mild g w w' := by
  have hUS := Any.unsafeString_none L X
  have c1 : w.drew.cell? ⟨b, 1, none⟩ = some (.slice (some ⟨g, 0, none⟩) 0 cap) := by
    have : w.drew.heap[b]? = some (.cells #[p, .slice (some ⟨g, 0, none⟩) 0 cap] (ρ.t 72) (0, 0)) := hbk
    rw [Lib.cell_of_heap this]; rfl
  have hSD : (Builtin.unsafeSliceData_ #[(ρ.t 37)] (ρ.t 127) #[.slice (some ⟨g, 0, none⟩) 0 cap]).run P w.drew = .ok (.pointer (some ⟨g, 0, none⟩)) w.drew :=
    Lib.run_unsafeSliceData_row _ _ _ _ _ _ hc0
  clear hc0
  have mixed := L.mixed
  have t72 := L.t72; have a72 := L.a72; have z72 := L.z72; have v72 := L.v72; have u72 := run_underlying L.t72
  have t70 := L.t70; have a70 := L.a70; have z70 := L.z70; have v70 := L.v70; have u70 := run_underlying L.t70
  have t37 := L.t37; have a37 := L.a37; have z37 := L.z37; have v37 := L.v37; have u37 := run_underlying L.t37
  have t127 := L.t127; have a127 := L.a127; have z127 := L.z127; have v127 := L.v127; have u127 := run_underlying L.t127
  have t3 := L.t3; have a3 := L.a3; have z3 := L.z3; have v3 := L.v3; have u3 := run_underlying L.t3
  have t9 := L.t9; have a9 := L.a9; have z9 := L.z9; have v9 := L.v9; have u9 := run_underlying L.t9
  have t5 := X.t5; have a5 := X.a5; have z5 := X.z5; have v5 := X.v5; have u5 := run_underlying X.t5
  go_enter L.f169, Body.n169_ntmps ρ
  go_wp2
  go_region_o
  all_goals (go_wp2; go_ret; exact ⟨rfl, mild_drew _ w⟩)
end
theorem bldS_extra : Builder.Extra Tryz.prog Tryz.lays169_ren where
  sizeBuilder := by kernel_rfl
  liesBuilder := by kernel_rfl
  t5 := Tryz.underlying5
  a5 := Tryz.isAgg5
  z5 := Tryz.sizeOf5
  v5 := Tryz.zeroValue5
  infoByte := by kernel_rfl
  cellsByte := by kernel_rfl
  sizeByte := by kernel_rfl
  neB5 := by decide
theorem bld_String_ax (u : Bool) (bs : List UInt8) : AX Tryz.prog G 41 [.ptr 2 0] (bldH u bs) (.p (.str bs)) [] [] := by
  refine ⟨callable_of Tryz.func41 (by kernel_rfl) rfl, fun M μ w vs hg rel => ?_⟩
  obtain ⟨l⟩ := vs
  have hsz : l.length = 1 := by simpa using rel.slots.1
  match l, hsz with
  | [v], _ =>
  have hv := rel.slots.2 0 v (.ptr 2 0) rfl rfl
  cases hv with
  | @ptr _ _ b hb =>
  have hbx := rel.box 2 (.vars 70 [bldA u, .ms 3]) (by simp [bldH])
  cases hbx with
  | @vars _ _ b' arr h0 hh hs ho hc =>
  rw [hb] at h0; cases h0
  obtain ⟨x, y, rfl⟩ : ∃ x y, arr = #[x, y] := by
    obtain ⟨l⟩ := arr
    match l, hs with
    | [x, y], _ => exact ⟨x, y, rfl⟩
  have hy := hc 1 y (.ms 3) rfl rfl
  have hblt : b < w.heap.size := (Array.getElem?_eq_some_iff.1 hh).1
  have hfin : ∀ (g : Nat) (w' : World), (g < w.heap.size → lentBy μ (bldH u bs) g ∧ ∀ o, M g o = none) → bs.length ≤ maxLen → Mild g w w' →
      ∃ v M' μ', (Ending.returned (.string ⟨bs.toArray⟩) : Ending) = .returned v ∧ Rel ⟨w.heap.size, w, M, μ, lentBy μ (bldH u bs)⟩ M' μ' ⟨[.p (.str bs)], [], [], 0⟩ #[v] w' := by
    intro g w' hl hm hk
    refine ⟨_, M, μ, rfl, ?_⟩
    have hko : ∀ k, k < w.heap.size → k ≠ g → w'.heap[k]? = w.heap[k]? := fun k h1 h2 => hk.block k (by omega)
    refine ⟨fun b o v hv => ?_, fun _ _ _ h => h, fun _ _ _ => rfl, ⟨rfl, fun i u x hu hx => ?_⟩, fun _ h => (by cases h), fun _ _ h => (by cases h), by simp, fun _ _ _ h => by simp [keyIn] at h, fun _ _ h => by simp [keyIn] at h, hk.size, ?_⟩
    · have h1 := rel.mem b o v hv
      have hlt := lt_of_cell h1
      exact (World.cell?_of_block (w := w) (hko b hlt (by rintro rfl; rw [(hl hlt).2 o] at hv; cases hv))).trans h1
    · cases i with
      | zero => simp at hu hx; subst hu; subst hx; exact .p (.str (by simp) hm)
      | succ i => simp at hx
    · refine ⟨hk.os, hk.tape, hk.output, hk.size, fun k h => ?_⟩
      have h1 : k < w.heap.size := Nat.not_le.1 fun h' => h (.inl h')
      exact hko k h1 (by rintro rfl; exact h (.inr (hl h1).1))
  have hrow := rel.box 3 (.row 5 1 (bytesP bs)) (by simp [bldH])
  have key : ∃ g, (g < w.heap.size → lentBy μ (bldH u bs) g ∧ ∀ o, M g o = none) ∧ bs.length ≤ maxLen ∧ Calls Tryz.prog 41 #[.pointer (some ⟨b, 0, none⟩)] w fun e w' => e = .returned (.string ⟨bs.toArray⟩) ∧ Mild g w w' := by
    rcases hrow.cells with ⟨he, hn, hval⟩ | ⟨g, cap, cur, hg0, hval, hgh, hcs, hlc, hcm, hone, hro⟩
    · obtain rfl : bs = [] := by simpa [bytesP] using he
      have hy' : y = .slice none 0 0 := by cases hy with | ms h _ => rw [h, hval]
      subst hy'
      exact ⟨w.heap.size, fun h => absurd h (Nat.lt_irrefl _), by simp, bld_nil Tryz.lays169 bldS_extra b x w hh⟩
    · have hy' : y = .slice (some ⟨g, 0, none⟩) bs.length cap := by cases hy with | ms h _ => rw [h, hval]; simp [bytesP]
      subst hy'
      have hown := rel.own 3 g (by simp [keyIn, bldH]) hg0
      refine ⟨g, fun h => ⟨⟨3, by simp [keyIn, bldH], hg0⟩, hown.2.2⟩, by simp [bytesP] at hlc; omega, ?_⟩
      by_cases hbs : bs = []
      · subst hbs
        by_cases hc0 : cap = 0
        · subst hc0; exact bld_none Tryz.lays169 bldS_extra b g x cur w hblt hh hgh
        · exact bld_room Tryz.lays169 bldS_extra b g cap x w hc0 hh
      · refine bld_row Tryz.lays169 bldS_extra b g cap x cur bs w hh hgh (by simpa [bytesP] using hlc) hcm (by simpa using hcs) (fun j z hz => ?_) hbs
        have hjl := (List.getElem?_eq_some_iff.1 hz).1
        have hj : j < cur.size := by rw [hcs]; simp [bytesP] at hlc; omega
        have := hro.get j (.int .u8 z.toNat) 0 (.int .u8 z.toNat) cur[j] (by simp [bytesP, hz]) rfl (by simp [bytesP, List.getElem?_take, hjl, hj])
        rw [Array.getElem?_eq_getElem hj]
        generalize cur[j] = q at this
        cases this
        rfl
  obtain ⟨g, h1, h2, h3⟩ := key
  refine h3.mono ?_
  rintro e w' ⟨rfl, hk⟩
  exact hfin g w' h1 h2 hk
theorem String_ax (bs : List UInt8) : AX Tryz.prog G 41 [.ptr 2 0] [(2, .vars 70 [.ptr 2 0, .ms 3]), (3, .row 5 1 (bytesP bs))] (.p (.str bs)) [] [] := bld_String_ax true bs
theorem StringF_ax (bs : List UInt8) : AX Tryz.prog G 41 [.ptr 2 0] [(2, .vars 70 [.p .nilp, .ms 3]), (3, .row 5 1 (bytesP bs))] (.p (.str bs)) [] [] := bld_String_ax false bs
end Go.Proofs.YtdlejiiiifhiiaaGreatDoor
/-
  A PLAIN LAW: a text in quotes, written and read.
-/
namespace Go.Proofs.YtdlejiiiifhiiaaGreatDoor
open Go
open Go.Lib
set_option linter.unusedSimpArgs false
set_option linter.unusedVariables false

def hexD (n : Nat) : UInt8 := if n < 10 then UInt8.ofNat (48 + n) else UInt8.ofNat (87 + n)
/-- A byte, as it stands in quotes. -/
def qb (b : UInt8) : List UInt8 :=
  if b = 34 ∨ b = 92 then [92, b] else if b = 10 then [92, 110] else if b = 13 then [92, 114] else if b = 9 then [92, 116]
  else if b < 32 ∨ b = 127 then [92, 117, 48, 48, hexD (b.toNat / 16), hexD (b.toNat % 16)] else [b]
def qBody (s : List UInt8) : List UInt8 := s.flatMap qb
def quoteT (s : List UInt8) : List UInt8 := 34 :: (qBody s ++ [34])

def hexV (c : UInt8) : Option Nat := if 48 ≤ c ∧ c ≤ 57 then some (c.toNat - 48) else if 97 ≤ c ∧ c ≤ 102 then some (c.toNat - 87) else if 65 ≤ c ∧ c ≤ 70 then some (c.toNat - 55) else none
def hexN : List UInt8 → Nat → Option Nat
  | [], x => some x
  | c :: l, x => match hexV c with
    | none => none
    | some k => hexN l (16 * x + k)
def unitL (s : List UInt8) : Option Nat := if s.length < 6 ∨ s.take 2 ≠ [92, 117] then none else hexN ((s.drop 2).take 4) 0
def escT (c : UInt8) : Option Nat := if c = 34 then some 34 else if c = 92 then some 92 else if c = 47 then some 47 else if c = 98 then some 8 else if c = 102 then some 12 else if c = 110 then some 10 else if c = 114 then some 13 else if c = 116 then some 9 else none
def escU (u w : Option Nat) : Nat × Nat × Bool :=
  if u.isSome = false ∨ u.getD 0 / 1024 ≠ 54 then (u.getD 0, 6, u.isSome && decide (u.getD 0 / 1024 ≠ 55)) else (65536 + u.getD 0 % 1024 * 1024 + w.getD 0 % 1024, 12, w.isSome && decide (w.getD 0 / 1024 = 55))
/-- What stands behind a backslash: the rune, how many bytes, whether there is one. -/
def escG (s : List UInt8) : Nat × Nat × Bool := match s with
  | _ :: c :: _ => match escT c with
    | some v => (v, 2, true)
    | none => escU (unitL s) (unitL (s.drop 6))
  | _ => (0, 0, false)
def escL (s : List UInt8) : Option (Nat × Nat) := if (escG s).2.2 = true then some ((escG s).1, (escG s).2.1) else none
def unqG : Nat → List UInt8 → Nat → List UInt8 → List UInt8 × Nat × Int
  | 0, _, _, _ => ([], 0, 6)
  | f + 1, s, at', out => if s = [] then ([], 0, 6)
    else if (decodeL s).1 = 34 then (if 4096 < out.length then ([], 0, 3) else (out, at' + 1, 0))
    else if (decodeL s).1 < 32 ∨ ((decodeL s).1 = 65533 ∧ (decodeL s).2 = 1) then ([], 0, 6)
    else if (decodeL s).1 = 92 then (match escL s with
      | none => ([], 0, 6)
      | some (c, n) => unqG f (s.drop n) (at' + n) (out ++ encodeRune c))
    else unqG f (s.drop (decodeL s).2) (at' + (decodeL s).2) (out ++ encodeRune (decodeL s).1)
def unquoteT (s : List UInt8) : List UInt8 × Nat × Int := if s.head? = some 34 then unqG s.length (s.drop 1) 1 [] else ([], 0, 6)

theorem decodeL_lt {b : UInt8} {t : List UInt8} (h : b.toNat < 128) : decodeL (b :: t) = (b.toNat, 1) := by
  unfold decodeL
  rw [decode_at]
  have e : (⟨(b :: t).toArray⟩ : ByteArray).get! 0 = b := rfl
  rw [e]
  unfold decodeN
  rw [if_pos h]
theorem ofNat_lt {b : UInt8} (h : b.toNat < 128) : encodeRune (b.toNat : Int) = [b] := by
  simp only [encodeRune, encodeRuneZ_one (r := (b.toNat : Int)) (by omega) (by omega), List.map_cons, List.map_nil]
  congr 1
  simp
theorem decodeL_get (l : List UInt8) : decodeL l = decodeN l.length (l.getD 0 0).toNat (l.getD 1 0).toNat (l.getD 2 0).toNat (l.getD 3 0).toNat := by
  unfold decodeL
  rw [decode_at]
  have e : ∀ k, (⟨l.toArray⟩ : ByteArray).get! k = l.getD k 0 := by
    intro k
    show l.toArray[k]! = _
    simp [List.getD_eq_getElem?_getD]
    rfl
  simp only [e]
  rfl
set_option maxRecDepth 100000 in
set_option maxHeartbeats 2000000 in
theorem decodeN_more (n b0 b1 b2 b3 n' b1' b2' b3' : Nat) (hv : ¬ ((decodeN n b0 b1 b2 b3).1 = 65533 ∧ (decodeN n b0 b1 b2 b3).2 = 1)) (h : (decodeN n b0 b1 b2 b3).2 ≤ n')
    (h1 : 1 < (decodeN n b0 b1 b2 b3).2 → b1' = b1) (h2 : 2 < (decodeN n b0 b1 b2 b3).2 → b2' = b2) (h3 : 3 < (decodeN n b0 b1 b2 b3).2 → b3' = b3) : decodeN n' b0 b1' b2' b3' = decodeN n b0 b1 b2 b3 := by
  revert hv h h1 h2 h3
  generalize e : decodeN n b0 b1 b2 b3 = p
  obtain ⟨r, w⟩ := p
  intro hv h h1 h2 h3
  simp only at hv h h1 h2 h3
  unfold decodeN at e
  by_cases c0 : b0 < 128
  · rw [if_pos c0] at e
    unfold decodeN; rw [if_pos c0]; exact e
  · rw [if_neg c0] at e
    by_cases c1 : b0 / 32 = 6 ∧ (1 < n ∧ b1 / 64 = 2)
    · rw [if_pos c1] at e
      split at e
      · rename_i k
        cases e
        have e1 := h1 (by omega)
        subst e1
        unfold decodeN; rw [if_neg c0, if_pos ⟨c1.1, by omega, c1.2.2⟩, if_pos k]
      · cases e; exact absurd ⟨rfl, rfl⟩ hv
    · rw [if_neg c1] at e
      by_cases c2 : b0 / 16 = 14 ∧ (1 < n ∧ b1 / 64 = 2) ∧ (2 < n ∧ b2 / 64 = 2)
      · rw [if_pos c2] at e
        split at e
        · rename_i k
          cases e
          have e1 := h1 (by omega)
          have e2 := h2 (by omega)
          subst e1; subst e2
          unfold decodeN; rw [if_neg c0, if_neg (by omega), if_pos ⟨c2.1, ⟨by omega, c2.2.1.2⟩, by omega, c2.2.2.2⟩, if_pos k]
        · cases e; exact absurd ⟨rfl, rfl⟩ hv
      · rw [if_neg c2] at e
        split at e
        · rename_i c3
          split at e
          · rename_i k
            cases e
            have e1 := h1 (by omega)
            have e2 := h2 (by omega)
            have e3 := h3 (by omega)
            subst e1; subst e2; subst e3
            unfold decodeN; rw [if_neg c0, if_neg (by omega), if_neg (by omega), if_pos ⟨c3.1, ⟨by omega, c3.2.1.2⟩, ⟨by omega, c3.2.2.1.2⟩, by omega, c3.2.2.2.2⟩, if_pos k]
          · cases e; exact absurd ⟨rfl, rfl⟩ hv
        · cases e; exact absurd ⟨rfl, rfl⟩ hv
theorem decodeL_pos (l : List UInt8) (hne : l ≠ []) : 1 ≤ (decodeL l).2 := by
  rw [decodeL_get l]
  unfold decodeN
  repeat' split
  all_goals simp
/-- What follows a rune does not matter. -/
theorem decodeL_more (l t : List UInt8) (hne : l ≠ []) (hv : ¬ ((decodeL l).1 = 65533 ∧ (decodeL l).2 = 1)) : decodeL (l.take (decodeL l).2 ++ t) = decodeL l := by
  have hle := decodeL_le l hne
  have hpos := decodeL_pos l hne
  have e := decodeL_get l
  generalize hk : (decodeL l).2 = k at *
  have g : ∀ j, j < k → (l.take k ++ t).getD j 0 = l.getD j 0 := by
    intro j hj
    rw [List.getD_eq_getElem?_getD, List.getD_eq_getElem?_getD, List.getElem?_append_left (by simp; omega), List.getElem?_take, if_pos hj]
  rw [decodeL_get (l.take k ++ t), e, g 0 (by omega)]
  rw [e] at hk hv
  refine decodeN_more _ _ _ _ _ _ _ _ _ (by rw [hk]; exact hv) ?_ ?_ ?_ ?_
  · rw [hk]; simp; omega
  · rw [hk]; intro h; rw [g 1 h]
  · rw [hk]; intro h; rw [g 2 h]
  · rw [hk]; intro h; rw [g 3 h]
theorem big_bytes (l : List UInt8) (hne : l ≠ []) (hv : ¬ ((decodeL l).1 = 65533 ∧ (decodeL l).2 = 1)) (hb : 128 ≤ (l.getD 0 0).toNat) : (∀ b ∈ l.take (decodeL l).2, 128 ≤ b.toNat) ∧ 128 ≤ (decodeL l).1 := by
  have hr := decodeL_get l
  have hle := decodeL_le l hne
  have hlen : 0 < l.length := by cases l with
    | nil => exact absurd rfl hne
    | cons a l => simp
  unfold decodeN at hr
  rw [if_neg (by omega)] at hr
  split at hr
  · rename_i c
    split at hr
    · rw [hr] at hv hle ⊢
      simp only at hle ⊢
      rw [takeB l (by omega)]
      refine ⟨fun b hb' => ?_, by omega⟩
      simp at hb'
      rcases hb' with h | h <;> (subst h; simp at hb c; omega)
    · rw [hr] at hv; exact absurd ⟨rfl, rfl⟩ hv
  · split at hr
    · rename_i c
      split at hr
      · rw [hr] at hv hle ⊢
        simp only at hle ⊢
        rw [takeC l (by omega)]
        refine ⟨fun b hb' => ?_, by omega⟩
        simp at hb'
        rcases hb' with h | h | h <;> (subst h; simp at hb c; omega)
      · rw [hr] at hv; exact absurd ⟨rfl, rfl⟩ hv
    · split at hr
      · rename_i c
        split at hr
        · rw [hr] at hv hle ⊢
          simp only at hle ⊢
          rw [takeD l (by omega)]
          refine ⟨fun b hb' => ?_, by omega⟩
          simp at hb'
          rcases hb' with h | h | h | h <;> (subst h; simp at hb c; omega)
        · rw [hr] at hv; exact absurd ⟨rfl, rfl⟩ hv
      · rw [hr] at hv; exact absurd ⟨rfl, rfl⟩ hv
theorem qBody_big {l : List UInt8} (h : ∀ b ∈ l, 128 ≤ b.toNat) : qBody l = l := by
  induction l with
  | nil => rfl
  | cons b l ih =>
    have hb := h b (by simp)
    have h1 : qb b = [b] := by
      unfold qb
      have ne : ∀ c : UInt8, c.toNat < 128 → b ≠ c := fun c hc e => by subst e; omega
      rw [if_neg (by rintro (e | e) <;> exact ne _ (by decide) e), if_neg (ne _ (by decide)), if_neg (ne _ (by decide)), if_neg (ne _ (by decide)), if_neg]
      rintro (e | e)
      · rw [UInt8.lt_iff_toNat_lt] at e
        simp at e; omega
      · exact ne _ (by decide) e
    show qb b ++ qBody l = _
    rw [h1, ih fun b hb => h b (List.mem_cons_of_mem _ hb)]
    rfl
theorem qBody_append (a b : List UInt8) : qBody (a ++ b) = qBody a ++ qBody b := by simp [qBody]
/-- A byte below 128 in quotes is read as it was. -/
theorem unq_byte (b : UInt8) (hb : b.toNat < 128) (f : Nat) (at' : Nat) (out t : List UInt8) : unqG (f + 1) (qb b ++ t) at' out = unqG f t (at' + (qb b).length) (out ++ [b]) := by
  have esc : ∀ (x : UInt8) (l : List UInt8) (c : UInt8), c.toNat < 128 → escL (92 :: x :: (l ++ t)) = some (c.toNat, l.length + 2) → unqG (f + 1) (92 :: x :: l ++ t) at' out = unqG f t (at' + (92 :: x :: l).length) (out ++ [c]) := by
    intro x l c hc he
    show unqG (f + 1) (92 :: x :: (l ++ t)) at' out = _
    simp only [unqG]
    rw [if_neg (by simp), decodeL_lt (show (92 : UInt8).toNat < 128 by decide), if_neg (by decide), if_neg (by decide), if_pos (by decide), he]
    simp only
    rw [ofNat_lt hc]
    rw [show (92 :: x :: (l ++ t)).drop (l.length + 2) = t by simp]
    simp
  unfold qb
  split
  · rename_i h
    rcases h with rfl | rfl
    · exact esc 34 [] 34 (by decide) rfl
    · exact esc 92 [] 92 (by decide) rfl
  · rename_i h0
    split
    · rename_i h; subst h; exact esc 110 [] 10 (by decide) rfl
    · split
      · rename_i h; subst h; exact esc 114 [] 13 (by decide) rfl
      · split
        · rename_i h; subst h; exact esc 116 [] 9 (by decide) rfl
        · split
          · rename_i h
            refine esc 117 [48, 48, hexD (b.toNat / 16), hexD (b.toNat % 16)] b hb ?_
            have hex : ∀ k : Fin 128, k.val < 32 ∨ k.val = 127 → hexN [48, 48, hexD (k.val / 16), hexD (k.val % 16)] 0 = some k.val := by decide +kernel
            have h' : b.toNat < 32 ∨ b.toNat = 127 := by
              rcases h with h | h
              · rw [UInt8.lt_iff_toNat_lt] at h; exact .inl h
              · subst h; exact .inr rfl
            have h2 := hex ⟨b.toNat, hb⟩ h'
            simp only at h2
            have h3 : unitL (92 :: 117 :: ([48, 48, hexD (b.toNat / 16), hexD (b.toNat % 16)] ++ t)) = some b.toNat := by
              unfold unitL
              rw [if_neg (by simp)]
              exact h2
            have h4 : escL (92 :: 117 :: ([48, 48, hexD (b.toNat / 16), hexD (b.toNat % 16)] ++ t)) = some (b.toNat, 6) := by
              have h5 : escG (92 :: 117 :: ([48, 48, hexD (b.toNat / 16), hexD (b.toNat % 16)] ++ t)) = (b.toNat, 6, true) := by
                unfold escG
                simp only [show escT 117 = none by decide, h3, escU, Option.isSome_some, Option.getD_some]
                rw [if_pos (by right; omega)]
                simp; omega
              unfold escL
              rw [h5]; rfl
            exact h4
          · rename_i h1 h2 h3 h4
            have n34 : b.toNat ≠ 34 := fun e => h0 (.inl (UInt8.toNat_inj.1 e))
            have n92 : b.toNat ≠ 92 := fun e => h0 (.inr (UInt8.toNat_inj.1 e))
            have n32 : ¬ b.toNat < 32 := fun e => h4 (.inl (by rw [UInt8.lt_iff_toNat_lt]; exact e))
            show unqG (f + 1) (b :: t) at' out = _
            simp only [unqG]
            rw [if_neg (by simp), decodeL_lt hb, if_neg (by simpa using n34), if_neg (by simp; omega), if_neg (by simpa using n92)]
            simp only
            rw [ofNat_lt hb]
            simp
theorem qb_pos (b : UInt8) : 1 ≤ (qb b).length := by unfold qb; repeat' split
                                                     all_goals simp
theorem unq_back : ∀ (n : Nat) (s : List UInt8), s.length ≤ n → validD s = true → ∀ (f at' : Nat) (out rest : List UInt8), s.length < f → (out ++ s).length ≤ 4096 →
    unqG f (qBody s ++ 34 :: rest) at' out = (out ++ s, at' + (qBody s).length + 1, 0)
  | n, [], _, _, f, at', out, rest, hf, hl => by
    obtain ⟨f, rfl⟩ : ∃ g, f = g + 1 := ⟨f - 1, by omega⟩
    simp only [qBody, List.flatMap_nil, List.nil_append, unqG]
    rw [if_neg (by simp), decodeL_lt (show (34 : UInt8).toNat < 128 by decide)]
    simp only [List.append_nil] at hl
    rw [if_pos (show ((34 : UInt8).toNat, 1).1 = 34 from rfl), if_neg (by omega)]
    simp
  | 0, b :: s, h, _, _, _, _, _, _, _ => by simp at h
  | n + 1, b :: s, h, hv, f, at', out, rest, hf, hl => by
    obtain ⟨f, rfl⟩ : ∃ g, f = g + 1 := ⟨f - 1, by omega⟩
    by_cases hb : b.toNat < 128
    · rw [validD_cons b s hb] at hv
      have e : qBody (b :: s) = qb b ++ qBody s := rfl
      rw [e, List.append_assoc, unq_byte b hb, unq_back n s (by simp at h; omega) hv f _ _ rest (by simp at hf; omega) (by simpa using hl)]
      simp; omega
    · have hne : (b :: s) ≠ [] := by simp
      rw [validD_step _ hne] at hv
      split at hv
      · cases hv
      · rename_i hok
        obtain ⟨h1, h2⟩ := big_bytes (b :: s) hne hok (by simpa using by omega)
        have hpos := decodeL_pos (b :: s) hne
        have hle := decodeL_le (b :: s) hne
        have hmore := decodeL_more (b :: s)
        have henc := encode_decode (b :: s) hne hok
        generalize hk : decodeL (b :: s) = p at *
        obtain ⟨r, k⟩ := p
        simp only at *
        have hsplit : (b :: s) = (b :: s).take k ++ (b :: s).drop k := (List.take_append_drop k _).symm
        have hb2 : qBody (b :: s) = (b :: s).take k ++ qBody ((b :: s).drop k) := by
          conv => lhs; rw [hsplit]
          rw [qBody_append, qBody_big h1]
        have htl : ((b :: s).take k).length = k := by rw [List.length_take]; omega
        have hx : ∀ u, decodeL ((b :: s).take k ++ u) = (r, k) := fun u => hmore u hne hok
        generalize hA : (b :: s).take k = A at *
        generalize hD : (b :: s).drop k = D at *
        have hlenAD : (b :: s).length = A.length + D.length := by rw [hsplit]; simp
        rw [hb2, List.append_assoc]
        simp only [unqG, hx]
        rw [if_neg (by intro e; have := congrArg List.length e; simp at this), if_neg (by omega), if_neg (by omega), if_neg (by omega), henc]
        rw [show (A ++ (qBody D ++ 34 :: rest)).drop k = qBody D ++ 34 :: rest by rw [← htl, List.drop_left]]
        rw [unq_back n D (by omega) hv f _ _ rest (by omega) (by rw [List.append_assoc, ← hsplit]; exact hl)]
        rw [hsplit]
        simp; omega
theorem qBody_len : ∀ s : List UInt8, s.length ≤ (qBody s).length
  | [] => Nat.le_refl _
  | b :: s => by
    have h1 := qb_pos b
    have h2 := qBody_len s
    show s.length + 1 ≤ (qb b ++ qBody s).length
    rw [List.length_append]; omega
theorem unquote_back (s rest : List UInt8) (hv : validD s = true) (hl : s.length ≤ 4096) : unquoteT (quoteT s ++ rest) = (s, (quoteT s).length, 0) := by
  unfold unquoteT quoteT
  simp only [List.cons_append, List.head?_cons, if_true, List.drop_succ_cons, List.drop_zero, List.append_assoc, List.singleton_append, List.nil_append]
  have hb := qBody_len s
  rw [unq_back s.length s (Nat.le_refl _) hv _ 1 [] rest (by simp; omega) (by simpa using hl)]
  simp; omega
end Go.Proofs.YtdlejiiiifhiiaaGreatDoor
namespace Go.Proofs.YtdlejiiiifhiiaaGreatDoor
open Sy Go
set_option maxRecDepth 100000
set_option maxHeartbeats 4000000
set_option linter.unusedSimpArgs false
set_option linter.unusedVariables false
variable {G : Glob}
@[simp] theorem bytesP_app (a s : List UInt8) : bytesP (a ++ s) = bytesP a ++ s.map fun b => .int .u8 b.toNat := by simp [bytesP]
theorem WriteByteF_ax (bs : List UInt8) (c : UInt8) (hb : bs.length ≤ 100000000000) : AX Tryz.prog G 38 [.ptr 2 0, .p (.int .u8 c.toNat)] [(2, .vars 70 [.p .nilp, .ms 3]), (3, .row 5 1 (bytesP bs))] (.dead) [2] [(2, .vars 70 [.ptr 2 0, .ms 3]), (3, .row 5 1 (bytesP (bs ++ [c])))] := by
  refine AX.introU tok 900 Tryz.func38 (by kernel_rfl) rfl rfl ?_
  simp only [Tryz.f38, enumA, List.map_cons, List.map_nil]
  refine AW.seqRegionO [] ?_
  refine s1 tok [0, 1] ?_
  refine AOpsO.nil ?_
  refine AW.seqRegionO [] ?_
  refine s1 tok [0, 1, 5] ?_
  refine AOpsO.stepK [0, 1] (y_cx rfl (ccF_ax bs) (by simp)) (by conv => lhs; simp) rfl ?_
  refine AOpsO.nil ?_
  refine AW.seqRegionO [.int .u8 c.toNat] ?_
  refine s1 tok [0, 1, 7] ?_
  refine s1 tok [1, 7, 8] ?_
  refine s1 tok [1, 7, 9] ?_
  refine s1 tok [1, 7, 10] ?_
  refine s1 tok [1, 7, 11] ?_
  refine s1 tok [7, 11, 12] ?_
  refine s1 tok [7, 11, 13] ?_
  refine s1 tok [7, 14] ?_
  refine s1 tok [14, 15] ?_
  refine s1 tok [14, 16] ?_
  refine s1 tok [] ?_
  refine AOpsO.nil ?_
  refine AW.seqRegionO [] ?_
  refine s1 tok [4] ?_
  refine AOpsO.nil ?_
  exact AW.ret ⟨.inr rfl, _, _, by (conv => lhs; simp), trivial, by simp, by simp, by simp, by simp⟩
theorem WriteStringF_ax (bs s : List UInt8) (hb : bs.length ≤ 100000000000) (hs : s.length ≤ 100000000000) : AX Tryz.prog G 40 [.ptr 2 0, .p (.str s)] [(2, .vars 70 [.p .nilp, .ms 3]), (3, .row 5 1 (bytesP bs))] (.dead) [2] [(2, .vars 70 [.ptr 2 0, .ms 3]), (3, .row 5 1 (bytesP (bs ++ s)))] := by
  refine AX.introU tok 900 Tryz.func40 (by kernel_rfl) rfl rfl ?_
  simp only [Tryz.f40, enumA, List.map_cons, List.map_nil]
  refine AW.seqRegionO [] ?_
  refine s1 tok [0, 1] ?_
  refine s1 tok [0, 1] ?_
  refine AOpsO.nil ?_
  refine AW.seqRegionO [] ?_
  refine s1 tok [0, 1, 6] ?_
  refine AOpsO.stepK [0, 1] (y_cx rfl (ccF_ax bs) (by simp)) (by conv => lhs; simp) rfl ?_
  refine AOpsO.nil ?_
  refine AW.seqRegionO [] ?_
  refine s1 tok [0, 1, 8] ?_
  refine s1 tok [1, 8, 9] ?_
  refine s1 tok [1, 8, 10] ?_
  refine s1 tok [1, 8, 11] ?_
  refine s1 tok [1, 8, 12] ?_
  refine s1 tok [1, 8, 12, 13] ?_
  refine s1 tok [1, 8, 14] ?_
  refine s1 tok [1, 14, 15] ?_
  refine s1 tok [1, 14, 16] ?_
  refine s1 tok [1] ?_
  refine AOpsO.nil ?_
  refine AW.seqRegionO [] ?_
  refine s1 tok [17] ?_
  refine s1 tok [18] ?_
  refine s1 tok [4] ?_
  refine s1 tok [4, 5] ?_
  refine AOpsO.nil ?_
  exact AW.ret ⟨.inr rfl, _, _, by (conv => lhs; simp), trivial, by simp, by simp, by simp, by simp⟩
theorem WriteByte_ax (bs : List UInt8) (c : UInt8) (hb : bs.length ≤ 100000000000) : AX Tryz.prog G 38 [.ptr 2 0, .p (.int .u8 c.toNat)] [(2, .vars 70 [.ptr 2 0, .ms 3]), (3, .row 5 1 (bytesP bs))] (.dead) [2] [(2, .vars 70 [.ptr 2 0, .ms 3]), (3, .row 5 1 (bytesP (bs ++ [c])))] := by
  refine AX.introU tok 900 Tryz.func38 (by kernel_rfl) rfl rfl ?_
  simp only [Tryz.f38, enumA, List.map_cons, List.map_nil]
  refine AW.seqRegionO [] ?_
  refine s1 tok [0, 1] ?_
  refine AOpsO.nil ?_
  refine AW.seqRegionO [] ?_
  refine s1 tok [0, 1, 5] ?_
  refine AOpsO.stepK [0, 1] (y_cx rfl (cc_ax bs) (by simp)) (by conv => lhs; simp) rfl ?_
  refine AOpsO.nil ?_
  refine AW.seqRegionO [.int .u8 c.toNat] ?_
  refine s1 tok [0, 1, 7] ?_
  refine s1 tok [1, 7, 8] ?_
  refine s1 tok [1, 7, 9] ?_
  refine s1 tok [1, 7, 10] ?_
  refine s1 tok [1, 7, 11] ?_
  refine s1 tok [7, 11, 12] ?_
  refine s1 tok [7, 11, 13] ?_
  refine s1 tok [7, 14] ?_
  refine s1 tok [14, 15] ?_
  refine s1 tok [14, 16] ?_
  refine s1 tok [] ?_
  refine AOpsO.nil ?_
  refine AW.seqRegionO [] ?_
  refine s1 tok [4] ?_
  refine AOpsO.nil ?_
  exact AW.ret ⟨.inr rfl, _, _, by (conv => lhs; simp), trivial, by simp, by simp, by simp, by simp⟩
theorem WriteString_ax (bs s : List UInt8) (hb : bs.length ≤ 100000000000) (hs : s.length ≤ 100000000000) : AX Tryz.prog G 40 [.ptr 2 0, .p (.str s)] [(2, .vars 70 [.ptr 2 0, .ms 3]), (3, .row 5 1 (bytesP bs))] (.dead) [2] [(2, .vars 70 [.ptr 2 0, .ms 3]), (3, .row 5 1 (bytesP (bs ++ s)))] := by
  refine AX.introU tok 900 Tryz.func40 (by kernel_rfl) rfl rfl ?_
  simp only [Tryz.f40, enumA, List.map_cons, List.map_nil]
  refine AW.seqRegionO [] ?_
  refine s1 tok [0, 1] ?_
  refine s1 tok [0, 1] ?_
  refine AOpsO.nil ?_
  refine AW.seqRegionO [] ?_
  refine s1 tok [0, 1, 6] ?_
  refine AOpsO.stepK [0, 1] (y_cx rfl (cc_ax bs) (by simp)) (by conv => lhs; simp) rfl ?_
  refine AOpsO.nil ?_
  refine AW.seqRegionO [] ?_
  refine s1 tok [0, 1, 8] ?_
  refine s1 tok [1, 8, 9] ?_
  refine s1 tok [1, 8, 10] ?_
  refine s1 tok [1, 8, 11] ?_
  refine s1 tok [1, 8, 12] ?_
  refine s1 tok [1, 8, 12, 13] ?_
  refine s1 tok [1, 8, 14] ?_
  refine s1 tok [1, 14, 15] ?_
  refine s1 tok [1, 14, 16] ?_
  refine s1 tok [1] ?_
  refine AOpsO.nil ?_
  refine AW.seqRegionO [] ?_
  refine s1 tok [17] ?_
  refine s1 tok [18] ?_
  refine s1 tok [4] ?_
  refine s1 tok [4, 5] ?_
  refine AOpsO.nil ?_
  exact AW.ret ⟨.inr rfl, _, _, by (conv => lhs; simp), trivial, by simp, by simp, by simp, by simp⟩
@[simp] theorem bytesP_nil : bytesP [] = [] := rfl
theorem encP (r : Int) (l : List Int) (h : Lib.encodeRuneZ r = l) : bytesP (Lib.encodeRune r) = l.map (PD.int .u8) := by
  subst h
  simp only [bytesP, Lib.encodeRune, List.map_map]
  apply List.map_congr_left
  intro x hx
  obtain ⟨h0, h1⟩ := Lib.encodeRuneZ_byte r x hx
  simp [Function.comp]
  omega
theorem fin_of {k : Nat} {n : Int} (h : 0 ≤ n ∧ n < k) : ∃ x : Fin k, n = x.val := ⟨⟨n.toNat, by omega⟩, by simp; omega⟩
theorem wrap8 (n : Int) (h : 0 ≤ n) : IntKind.u8.wrap n = n % 256 := by simp [IntKind.wrap, IntKind.bits, IntKind.signed]
theorem lead192 (n : Int) (h : 0 ≤ n ∧ n < 32) : IntKind.u8.wrap ↑(192 % 2 ^ IntKind.u8.bits ||| (IntKind.u8.wrap n % 2 ^ IntKind.u8.bits).toNat) = 192 + n := by
  obtain ⟨x, rfl⟩ := fin_of h; revert x; decide +kernel
theorem lead224 (n : Int) (h : 0 ≤ n ∧ n < 16) : IntKind.u8.wrap ↑(224 % 2 ^ IntKind.u8.bits ||| (IntKind.u8.wrap n % 2 ^ IntKind.u8.bits).toNat) = 224 + n := by
  obtain ⟨x, rfl⟩ := fin_of h; revert x; decide +kernel
theorem lead240 (n : Int) (h : 0 ≤ n ∧ n < 8) : IntKind.u8.wrap ↑(240 % 2 ^ IntKind.u8.bits ||| (IntKind.u8.wrap n % 2 ^ IntKind.u8.bits).toNat) = 240 + n := by
  obtain ⟨x, rfl⟩ := fin_of h; revert x; decide +kernel
theorem cont256 : ∀ x : Fin 256, IntKind.u8.wrap ↑(128 % 2 ^ IntKind.u8.bits ||| (IntKind.u8.wrap ↑((((x.val : Nat) : Int) % 2 ^ IntKind.u8.bits).toNat &&& 63 % 2 ^ IntKind.u8.bits) % 2 ^ IntKind.u8.bits).toNat) = 128 + ((x.val : Nat) : Int) % 64 := by decide +kernel
theorem cont8 (n : Int) (h : 0 ≤ n) : IntKind.u8.wrap ↑(128 % 2 ^ IntKind.u8.bits ||| (IntKind.u8.wrap ↑((IntKind.u8.wrap n % 2 ^ IntKind.u8.bits).toNat &&& 63 % 2 ^ IntKind.u8.bits) % 2 ^ IntKind.u8.bits).toNat) = 128 + n % 64 := by
  rw [wrap8 n h]
  obtain ⟨x, hx⟩ := fin_of (k := 256) (n := n % 256) (by omega)
  rw [hx, cont256 x, ← hx]
  omega
theorem shr6 (r : Int) : r.fdiv (2 ^ min 6 IntKind.i32.bits) = r / 64 := Int.fdiv_eq_ediv_of_nonneg _ (by decide)
theorem shr12 (r : Int) : r.fdiv (2 ^ min 12 IntKind.i32.bits) = r / 4096 := Int.fdiv_eq_ediv_of_nonneg _ (by decide)
theorem shr18 (r : Int) : r.fdiv (2 ^ min 18 IntKind.i32.bits) = r / 262144 := Int.fdiv_eq_ediv_of_nonneg _ (by decide)
theorem appendNon_ax (bs : List UInt8) (r : Int) (hb : bs.length ≤ 100000000000) (h0 : 128 ≤ r) (h1 : r ≤ 1114111) (h2 : r < 55296 ∨ 57343 < r) : AX Tryz.prog G 88 [.ms 3, .p (.int .i32 r)] [(3, .row 5 1 (bytesP bs))] (.ms 3) [] [(3, .row 5 1 (bytesP bs ++ bytesP (Lib.encodeRune r)))] := by
  refine AX.introU tok 900 Tryz.func88 (by kernel_rfl) rfl rfl ?_
  simp only [Tryz.f88, enumA, List.map_cons, List.map_nil]
  have hw : IntKind.u32.wrap r = r := by simp [IntKind.wrap, IntKind.bits, IntKind.signed]; omega
  refine AW.seqRegionO [] ?_
  refine s1 tok [0, 1] ?_
  refine AOpsO.nil ?_
  refine AW.seqRegionO [] ?_
  refine s1 tok [0, 1, 6] ?_
  refine s1 tok [0, 1, 7] ?_
  refine s1 tok [0, 1, 5] ?_
  refine AOpsO.nil ?_
  refine AW.block ?_
  refine AW.seqRegionO [] ?_
  refine s1 tok [0, 1, 5, 12] ?_
  refine s1 tok [0, 1, 5, 13] ?_
  refine s1 tok [0, 1, 5, 11] ?_
  refine AOpsO.nil ?_
  refine AW.cond (c := .tmp 11) (by conv => lhs; simp) trivial ?_ ?_
  · intro h11
    try simp at h11
    rw [encP r _ (Lib.encodeRuneZ_two (by omega) (by omega))]
    refine AW.seqRegionO [.int .u8 (192 + r / 64), .int .u8 (128 + r % 64)] ?_
    refine s1 tok [1, 14] ?_
    refine s1 tok [1, 14, 15] ?_
    refine s1 tok [1, 14, 16] ?_ (hv := by first | with_reducible exact True.intro | (simp only [shr6, shr12, shr18]; exact ⟨lead192 _ (by omega), cont8 _ (by omega)⟩; done) | omega | simp | (simp; omega) | (simp +contextual; omega))
    refine s1 tok [1, 14, 17] ?_ (hv := by first | with_reducible exact True.intro | (simp only [shr6, shr12, shr18]; exact ⟨lead192 _ (by omega), cont8 _ (by omega)⟩; done) | omega | simp | (simp; omega) | (simp +contextual; omega))
    refine s1 tok [1, 14, 18] ?_ (hv := by first | with_reducible exact True.intro | (simp only [shr6, shr12, shr18]; exact ⟨lead192 _ (by omega), cont8 _ (by omega)⟩; done) | omega | simp | (simp; omega) | (simp +contextual; omega))
    refine s1 tok [14, 18, 19] ?_
    refine s1 tok [14, 18, 20] ?_ (hv := by first | with_reducible exact True.intro | (simp only [shr6, shr12, shr18]; exact ⟨lead192 _ (by omega), cont8 _ (by omega)⟩; done) | omega | simp | (simp; omega) | (simp +contextual; omega))
    refine s1 tok [14, 18, 21] ?_ (hv := by first | with_reducible exact True.intro | (simp only [shr6, shr12, shr18]; exact ⟨lead192 _ (by omega), cont8 _ (by omega)⟩; done) | omega | simp | (simp; omega) | (simp +contextual; omega))
    refine s1 tok [14, 18, 22] ?_ (hv := by first | with_reducible exact True.intro | (simp only [shr6, shr12, shr18]; exact ⟨lead192 _ (by omega), cont8 _ (by omega)⟩; done) | omega | simp | (simp; omega) | (simp +contextual; omega))
    refine s1 tok [14, 23] ?_ (hv := by first | with_reducible exact True.intro | (simp only [shr6, shr12, shr18]; exact ⟨lead192 _ (by omega), cont8 _ (by omega)⟩; done) | omega | simp | (simp; omega) | (simp +contextual; omega))
    refine s1 tok [24] ?_ (hv := by first | with_reducible exact True.intro | (simp only [shr6, shr12, shr18]; exact ⟨lead192 _ (by omega), cont8 _ (by omega)⟩; done) | omega | simp | (simp; omega) | (simp +contextual; omega))
    refine s1 tok [4] ?_
    refine AOpsO.nil ?_
    exact AW.ret ⟨.inr rfl, _, _, by (conv => lhs; simp), trivial, by simp, by simp, by simp, by simp⟩
  · intro h11
    try simp at h11
    refine AW.seq ?_
    refine AW.seqRegionO [] ?_
    refine s1 tok [0, 1, 5, 26] ?_
    refine s1 tok [0, 1, 5, 27] ?_
    refine s1 tok [0, 1, 5, 25] ?_
    refine AOpsO.nil ?_
    refine AW.cond (c := .tmp 25) (by conv => lhs; simp) trivial ?_ ?_
    · intro h25
      try simp at h25
      refine AW.skip ?_
      refine AW.cond (c := .tmp 25) (by conv => lhs; simp) trivial ?_ ?_
      · intro h25
        try simp at h25
        rw [encP r _ (Lib.encodeRuneZ_three (by omega))]
        refine AW.seqRegionO [.int .u8 (224 + r / 4096), .int .u8 (128 + r / 64 % 64), .int .u8 (128 + r % 64)] ?_
        refine s1 tok [1, 34] ?_
        refine s1 tok [1, 34, 35] ?_
        refine s1 tok [1, 34, 36] ?_ (hv := by first | with_reducible exact True.intro | (simp only [shr6, shr12, shr18]; exact ⟨lead224 _ (by omega), cont8 _ (by omega), cont8 _ (by omega)⟩; done) | omega | simp | (simp; omega) | (simp +contextual; omega))
        refine s1 tok [1, 34, 37] ?_ (hv := by first | with_reducible exact True.intro | (simp only [shr6, shr12, shr18]; exact ⟨lead224 _ (by omega), cont8 _ (by omega), cont8 _ (by omega)⟩; done) | omega | simp | (simp; omega) | (simp +contextual; omega))
        refine s1 tok [1, 34, 38] ?_ (hv := by first | with_reducible exact True.intro | (simp only [shr6, shr12, shr18]; exact ⟨lead224 _ (by omega), cont8 _ (by omega), cont8 _ (by omega)⟩; done) | omega | simp | (simp; omega) | (simp +contextual; omega))
        refine s1 tok [1, 34, 38, 39] ?_
        refine s1 tok [1, 34, 38, 40] ?_ (hv := by first | with_reducible exact True.intro | (simp only [shr6, shr12, shr18]; exact ⟨lead224 _ (by omega), cont8 _ (by omega), cont8 _ (by omega)⟩; done) | omega | simp | (simp; omega) | (simp +contextual; omega))
        refine s1 tok [1, 34, 38, 41] ?_ (hv := by first | with_reducible exact True.intro | (simp only [shr6, shr12, shr18]; exact ⟨lead224 _ (by omega), cont8 _ (by omega), cont8 _ (by omega)⟩; done) | omega | simp | (simp; omega) | (simp +contextual; omega))
        refine s1 tok [1, 34, 38, 42] ?_ (hv := by first | with_reducible exact True.intro | (simp only [shr6, shr12, shr18]; exact ⟨lead224 _ (by omega), cont8 _ (by omega), cont8 _ (by omega)⟩; done) | omega | simp | (simp; omega) | (simp +contextual; omega))
        refine s1 tok [1, 34, 38, 43] ?_ (hv := by first | with_reducible exact True.intro | (simp only [shr6, shr12, shr18]; exact ⟨lead224 _ (by omega), cont8 _ (by omega), cont8 _ (by omega)⟩; done) | omega | simp | (simp; omega) | (simp +contextual; omega))
        refine s1 tok [34, 38, 43, 44] ?_
        refine s1 tok [34, 38, 43, 45] ?_ (hv := by first | with_reducible exact True.intro | (simp only [shr6, shr12, shr18]; exact ⟨lead224 _ (by omega), cont8 _ (by omega), cont8 _ (by omega)⟩; done) | omega | simp | (simp; omega) | (simp +contextual; omega))
        refine s1 tok [34, 38, 43, 46] ?_ (hv := by first | with_reducible exact True.intro | (simp only [shr6, shr12, shr18]; exact ⟨lead224 _ (by omega), cont8 _ (by omega), cont8 _ (by omega)⟩; done) | omega | simp | (simp; omega) | (simp +contextual; omega))
        refine s1 tok [34, 38, 43, 47] ?_ (hv := by first | with_reducible exact True.intro | (simp only [shr6, shr12, shr18]; exact ⟨lead224 _ (by omega), cont8 _ (by omega), cont8 _ (by omega)⟩; done) | omega | simp | (simp; omega) | (simp +contextual; omega))
        refine s1 tok [34, 48] ?_ (hv := by first | with_reducible exact True.intro | (simp only [shr6, shr12, shr18]; exact ⟨lead224 _ (by omega), cont8 _ (by omega), cont8 _ (by omega)⟩; done) | omega | simp | (simp; omega) | (simp +contextual; omega))
        refine s1 tok [49] ?_ (hv := by first | with_reducible exact True.intro | (simp only [shr6, shr12, shr18]; exact ⟨lead224 _ (by omega), cont8 _ (by omega), cont8 _ (by omega)⟩; done) | omega | simp | (simp; omega) | (simp +contextual; omega))
        refine s1 tok [4] ?_
        refine AOpsO.nil ?_
        exact AW.ret ⟨.inr rfl, _, _, by (conv => lhs; simp), trivial, by simp, by simp, by simp, by simp⟩
      · intro h25
        try simp at h25
        refine AW.seqRegionO [] ?_
        refine s1 tok [0, 1, 5, 51] ?_
        refine s1 tok [0, 1, 5, 52] ?_
        refine s1 tok [0, 1, 5, 53] ?_
        refine s2 tok [0, 1, 53, 54] 53 rfl rfl ?_
        refine s2 tok [0, 1, 53, 55] 53 rfl rfl ?_
        refine s1 tok [0, 1, 56] ?_
        refine s1 tok [0, 1, 50] ?_
        refine AOpsO.nil ?_
        refine AW.cond (c := .tmp 50) (by conv => lhs; simp) trivial ?_ ?_
        · intro h50
          try simp at h50
          rw [encP r _ (Lib.encodeRuneZ_four (by omega) (by omega))]
          refine AW.seqRegionO [.int .u8 (240 + r / 262144), .int .u8 (128 + r / 4096 % 64), .int .u8 (128 + r / 64 % 64), .int .u8 (128 + r % 64)] ?_
          refine s1 tok [1, 57] ?_
          refine s1 tok [1, 57, 58] ?_
          refine s1 tok [1, 57, 59] ?_ (hv := by first | with_reducible exact True.intro | (simp only [shr6, shr12, shr18]; exact ⟨lead240 _ (by omega), cont8 _ (by omega), cont8 _ (by omega), cont8 _ (by omega)⟩; done) | omega | simp | (simp; omega) | (simp +contextual; omega))
          refine s1 tok [1, 57, 60] ?_ (hv := by first | with_reducible exact True.intro | (simp only [shr6, shr12, shr18]; exact ⟨lead240 _ (by omega), cont8 _ (by omega), cont8 _ (by omega), cont8 _ (by omega)⟩; done) | omega | simp | (simp; omega) | (simp +contextual; omega))
          refine s1 tok [1, 57, 61] ?_ (hv := by first | with_reducible exact True.intro | (simp only [shr6, shr12, shr18]; exact ⟨lead240 _ (by omega), cont8 _ (by omega), cont8 _ (by omega), cont8 _ (by omega)⟩; done) | omega | simp | (simp; omega) | (simp +contextual; omega))
          refine s1 tok [1, 57, 61, 62] ?_
          refine s1 tok [1, 57, 61, 63] ?_ (hv := by first | with_reducible exact True.intro | (simp only [shr6, shr12, shr18]; exact ⟨lead240 _ (by omega), cont8 _ (by omega), cont8 _ (by omega), cont8 _ (by omega)⟩; done) | omega | simp | (simp; omega) | (simp +contextual; omega))
          refine s1 tok [1, 57, 61, 64] ?_ (hv := by first | with_reducible exact True.intro | (simp only [shr6, shr12, shr18]; exact ⟨lead240 _ (by omega), cont8 _ (by omega), cont8 _ (by omega), cont8 _ (by omega)⟩; done) | omega | simp | (simp; omega) | (simp +contextual; omega))
          refine s1 tok [1, 57, 61, 65] ?_ (hv := by first | with_reducible exact True.intro | (simp only [shr6, shr12, shr18]; exact ⟨lead240 _ (by omega), cont8 _ (by omega), cont8 _ (by omega), cont8 _ (by omega)⟩; done) | omega | simp | (simp; omega) | (simp +contextual; omega))
          refine s1 tok [1, 57, 61, 66] ?_ (hv := by first | with_reducible exact True.intro | (simp only [shr6, shr12, shr18]; exact ⟨lead240 _ (by omega), cont8 _ (by omega), cont8 _ (by omega), cont8 _ (by omega)⟩; done) | omega | simp | (simp; omega) | (simp +contextual; omega))
          refine s1 tok [1, 57, 61, 66, 67] ?_
          refine s1 tok [1, 57, 61, 66, 68] ?_ (hv := by first | with_reducible exact True.intro | (simp only [shr6, shr12, shr18]; exact ⟨lead240 _ (by omega), cont8 _ (by omega), cont8 _ (by omega), cont8 _ (by omega)⟩; done) | omega | simp | (simp; omega) | (simp +contextual; omega))
          refine s1 tok [1, 57, 61, 66, 69] ?_ (hv := by first | with_reducible exact True.intro | (simp only [shr6, shr12, shr18]; exact ⟨lead240 _ (by omega), cont8 _ (by omega), cont8 _ (by omega), cont8 _ (by omega)⟩; done) | omega | simp | (simp; omega) | (simp +contextual; omega))
          refine s1 tok [1, 57, 61, 66, 70] ?_ (hv := by first | with_reducible exact True.intro | (simp only [shr6, shr12, shr18]; exact ⟨lead240 _ (by omega), cont8 _ (by omega), cont8 _ (by omega), cont8 _ (by omega)⟩; done) | omega | simp | (simp; omega) | (simp +contextual; omega))
          refine s1 tok [1, 57, 61, 66, 71] ?_ (hv := by first | with_reducible exact True.intro | (simp only [shr6, shr12, shr18]; exact ⟨lead240 _ (by omega), cont8 _ (by omega), cont8 _ (by omega), cont8 _ (by omega)⟩; done) | omega | simp | (simp; omega) | (simp +contextual; omega))
          refine s1 tok [57, 61, 66, 71, 72] ?_
          refine s1 tok [57, 61, 66, 71, 73] ?_ (hv := by first | with_reducible exact True.intro | (simp only [shr6, shr12, shr18]; exact ⟨lead240 _ (by omega), cont8 _ (by omega), cont8 _ (by omega), cont8 _ (by omega)⟩; done) | omega | simp | (simp; omega) | (simp +contextual; omega))
          refine s1 tok [57, 61, 66, 71, 74] ?_ (hv := by first | with_reducible exact True.intro | (simp only [shr6, shr12, shr18]; exact ⟨lead240 _ (by omega), cont8 _ (by omega), cont8 _ (by omega), cont8 _ (by omega)⟩; done) | omega | simp | (simp; omega) | (simp +contextual; omega))
          refine s1 tok [57, 61, 66, 71, 75] ?_ (hv := by first | with_reducible exact True.intro | (simp only [shr6, shr12, shr18]; exact ⟨lead240 _ (by omega), cont8 _ (by omega), cont8 _ (by omega), cont8 _ (by omega)⟩; done) | omega | simp | (simp; omega) | (simp +contextual; omega))
          refine s1 tok [57, 76] ?_ (hv := by first | with_reducible exact True.intro | (simp only [shr6, shr12, shr18]; exact ⟨lead240 _ (by omega), cont8 _ (by omega), cont8 _ (by omega), cont8 _ (by omega)⟩; done) | omega | simp | (simp; omega) | (simp +contextual; omega))
          refine s1 tok [77] ?_ (hv := by first | with_reducible exact True.intro | (simp only [shr6, shr12, shr18]; exact ⟨lead240 _ (by omega), cont8 _ (by omega), cont8 _ (by omega), cont8 _ (by omega)⟩; done) | omega | simp | (simp; omega) | (simp +contextual; omega))
          refine s1 tok [4] ?_
          refine AOpsO.nil ?_
          exact AW.ret ⟨.inr rfl, _, _, by (conv => lhs; simp), trivial, by simp, by simp, by simp, by simp⟩
        · intro h50
          try simp at h50
          omega
    · intro h25
      try simp at h25
      refine AW.regionO [] ?_
      refine s1 tok [0, 1, 5, 28] ?_
      refine s1 tok [0, 1, 5, 29] ?_
      refine s1 tok [0, 1, 5, 30] ?_
      refine s2 tok [0, 1, 5, 30, 31] 30 rfl rfl ?_
      refine s2 tok [0, 1, 5, 30, 32] 30 rfl rfl ?_
      refine s1 tok [0, 1, 5, 33] ?_
      refine s1 tok [0, 1, 5, 25] ?_
      refine AOpsO.nil ?_
      refine AW.cond (c := .tmp 25) (by conv => lhs; simp) trivial ?_ ?_
      · intro h25
        try simp at h25
        rw [encP r _ (Lib.encodeRuneZ_three (by omega))]
        refine AW.seqRegionO [.int .u8 (224 + r / 4096), .int .u8 (128 + r / 64 % 64), .int .u8 (128 + r % 64)] ?_
        refine s1 tok [1, 34] ?_
        refine s1 tok [1, 34, 35] ?_
        refine s1 tok [1, 34, 36] ?_ (hv := by first | with_reducible exact True.intro | (simp only [shr6, shr12, shr18]; exact ⟨lead224 _ (by omega), cont8 _ (by omega), cont8 _ (by omega)⟩; done) | omega | simp | (simp; omega) | (simp +contextual; omega))
        refine s1 tok [1, 34, 37] ?_ (hv := by first | with_reducible exact True.intro | (simp only [shr6, shr12, shr18]; exact ⟨lead224 _ (by omega), cont8 _ (by omega), cont8 _ (by omega)⟩; done) | omega | simp | (simp; omega) | (simp +contextual; omega))
        refine s1 tok [1, 34, 38] ?_ (hv := by first | with_reducible exact True.intro | (simp only [shr6, shr12, shr18]; exact ⟨lead224 _ (by omega), cont8 _ (by omega), cont8 _ (by omega)⟩; done) | omega | simp | (simp; omega) | (simp +contextual; omega))
        refine s1 tok [1, 34, 38, 39] ?_
        refine s1 tok [1, 34, 38, 40] ?_ (hv := by first | with_reducible exact True.intro | (simp only [shr6, shr12, shr18]; exact ⟨lead224 _ (by omega), cont8 _ (by omega), cont8 _ (by omega)⟩; done) | omega | simp | (simp; omega) | (simp +contextual; omega))
        refine s1 tok [1, 34, 38, 41] ?_ (hv := by first | with_reducible exact True.intro | (simp only [shr6, shr12, shr18]; exact ⟨lead224 _ (by omega), cont8 _ (by omega), cont8 _ (by omega)⟩; done) | omega | simp | (simp; omega) | (simp +contextual; omega))
        refine s1 tok [1, 34, 38, 42] ?_ (hv := by first | with_reducible exact True.intro | (simp only [shr6, shr12, shr18]; exact ⟨lead224 _ (by omega), cont8 _ (by omega), cont8 _ (by omega)⟩; done) | omega | simp | (simp; omega) | (simp +contextual; omega))
        refine s1 tok [1, 34, 38, 43] ?_ (hv := by first | with_reducible exact True.intro | (simp only [shr6, shr12, shr18]; exact ⟨lead224 _ (by omega), cont8 _ (by omega), cont8 _ (by omega)⟩; done) | omega | simp | (simp; omega) | (simp +contextual; omega))
        refine s1 tok [34, 38, 43, 44] ?_
        refine s1 tok [34, 38, 43, 45] ?_ (hv := by first | with_reducible exact True.intro | (simp only [shr6, shr12, shr18]; exact ⟨lead224 _ (by omega), cont8 _ (by omega), cont8 _ (by omega)⟩; done) | omega | simp | (simp; omega) | (simp +contextual; omega))
        refine s1 tok [34, 38, 43, 46] ?_ (hv := by first | with_reducible exact True.intro | (simp only [shr6, shr12, shr18]; exact ⟨lead224 _ (by omega), cont8 _ (by omega), cont8 _ (by omega)⟩; done) | omega | simp | (simp; omega) | (simp +contextual; omega))
        refine s1 tok [34, 38, 43, 47] ?_ (hv := by first | with_reducible exact True.intro | (simp only [shr6, shr12, shr18]; exact ⟨lead224 _ (by omega), cont8 _ (by omega), cont8 _ (by omega)⟩; done) | omega | simp | (simp; omega) | (simp +contextual; omega))
        refine s1 tok [34, 48] ?_ (hv := by first | with_reducible exact True.intro | (simp only [shr6, shr12, shr18]; exact ⟨lead224 _ (by omega), cont8 _ (by omega), cont8 _ (by omega)⟩; done) | omega | simp | (simp; omega) | (simp +contextual; omega))
        refine s1 tok [49] ?_ (hv := by first | with_reducible exact True.intro | (simp only [shr6, shr12, shr18]; exact ⟨lead224 _ (by omega), cont8 _ (by omega), cont8 _ (by omega)⟩; done) | omega | simp | (simp; omega) | (simp +contextual; omega))
        refine s1 tok [4] ?_
        refine AOpsO.nil ?_
        exact AW.ret ⟨.inr rfl, _, _, by (conv => lhs; simp), trivial, by simp, by simp, by simp, by simp⟩
      · intro h25
        try simp at h25
        refine AW.seqRegionO [] ?_
        refine s1 tok [0, 1, 5, 51] ?_
        refine s1 tok [0, 1, 5, 52] ?_
        refine s1 tok [0, 1, 5, 53] ?_
        refine s2 tok [0, 1, 53, 54] 53 rfl rfl ?_
        refine s2 tok [0, 1, 53, 55] 53 rfl rfl ?_
        refine s1 tok [0, 1, 56] ?_
        refine s1 tok [0, 1, 50] ?_
        refine AOpsO.nil ?_
        refine AW.cond (c := .tmp 50) (by conv => lhs; simp) trivial ?_ ?_
        · intro h50
          try simp at h50
          rw [encP r _ (Lib.encodeRuneZ_four (by omega) (by omega))]
          refine AW.seqRegionO [.int .u8 (240 + r / 262144), .int .u8 (128 + r / 4096 % 64), .int .u8 (128 + r / 64 % 64), .int .u8 (128 + r % 64)] ?_
          refine s1 tok [1, 57] ?_
          refine s1 tok [1, 57, 58] ?_
          refine s1 tok [1, 57, 59] ?_ (hv := by first | with_reducible exact True.intro | (simp only [shr6, shr12, shr18]; exact ⟨lead240 _ (by omega), cont8 _ (by omega), cont8 _ (by omega), cont8 _ (by omega)⟩; done) | omega | simp | (simp; omega) | (simp +contextual; omega))
          refine s1 tok [1, 57, 60] ?_ (hv := by first | with_reducible exact True.intro | (simp only [shr6, shr12, shr18]; exact ⟨lead240 _ (by omega), cont8 _ (by omega), cont8 _ (by omega), cont8 _ (by omega)⟩; done) | omega | simp | (simp; omega) | (simp +contextual; omega))
          refine s1 tok [1, 57, 61] ?_ (hv := by first | with_reducible exact True.intro | (simp only [shr6, shr12, shr18]; exact ⟨lead240 _ (by omega), cont8 _ (by omega), cont8 _ (by omega), cont8 _ (by omega)⟩; done) | omega | simp | (simp; omega) | (simp +contextual; omega))
          refine s1 tok [1, 57, 61, 62] ?_
          refine s1 tok [1, 57, 61, 63] ?_ (hv := by first | with_reducible exact True.intro | (simp only [shr6, shr12, shr18]; exact ⟨lead240 _ (by omega), cont8 _ (by omega), cont8 _ (by omega), cont8 _ (by omega)⟩; done) | omega | simp | (simp; omega) | (simp +contextual; omega))
          refine s1 tok [1, 57, 61, 64] ?_ (hv := by first | with_reducible exact True.intro | (simp only [shr6, shr12, shr18]; exact ⟨lead240 _ (by omega), cont8 _ (by omega), cont8 _ (by omega), cont8 _ (by omega)⟩; done) | omega | simp | (simp; omega) | (simp +contextual; omega))
          refine s1 tok [1, 57, 61, 65] ?_ (hv := by first | with_reducible exact True.intro | (simp only [shr6, shr12, shr18]; exact ⟨lead240 _ (by omega), cont8 _ (by omega), cont8 _ (by omega), cont8 _ (by omega)⟩; done) | omega | simp | (simp; omega) | (simp +contextual; omega))
          refine s1 tok [1, 57, 61, 66] ?_ (hv := by first | with_reducible exact True.intro | (simp only [shr6, shr12, shr18]; exact ⟨lead240 _ (by omega), cont8 _ (by omega), cont8 _ (by omega), cont8 _ (by omega)⟩; done) | omega | simp | (simp; omega) | (simp +contextual; omega))
          refine s1 tok [1, 57, 61, 66, 67] ?_
          refine s1 tok [1, 57, 61, 66, 68] ?_ (hv := by first | with_reducible exact True.intro | (simp only [shr6, shr12, shr18]; exact ⟨lead240 _ (by omega), cont8 _ (by omega), cont8 _ (by omega), cont8 _ (by omega)⟩; done) | omega | simp | (simp; omega) | (simp +contextual; omega))
          refine s1 tok [1, 57, 61, 66, 69] ?_ (hv := by first | with_reducible exact True.intro | (simp only [shr6, shr12, shr18]; exact ⟨lead240 _ (by omega), cont8 _ (by omega), cont8 _ (by omega), cont8 _ (by omega)⟩; done) | omega | simp | (simp; omega) | (simp +contextual; omega))
          refine s1 tok [1, 57, 61, 66, 70] ?_ (hv := by first | with_reducible exact True.intro | (simp only [shr6, shr12, shr18]; exact ⟨lead240 _ (by omega), cont8 _ (by omega), cont8 _ (by omega), cont8 _ (by omega)⟩; done) | omega | simp | (simp; omega) | (simp +contextual; omega))
          refine s1 tok [1, 57, 61, 66, 71] ?_ (hv := by first | with_reducible exact True.intro | (simp only [shr6, shr12, shr18]; exact ⟨lead240 _ (by omega), cont8 _ (by omega), cont8 _ (by omega), cont8 _ (by omega)⟩; done) | omega | simp | (simp; omega) | (simp +contextual; omega))
          refine s1 tok [57, 61, 66, 71, 72] ?_
          refine s1 tok [57, 61, 66, 71, 73] ?_ (hv := by first | with_reducible exact True.intro | (simp only [shr6, shr12, shr18]; exact ⟨lead240 _ (by omega), cont8 _ (by omega), cont8 _ (by omega), cont8 _ (by omega)⟩; done) | omega | simp | (simp; omega) | (simp +contextual; omega))
          refine s1 tok [57, 61, 66, 71, 74] ?_ (hv := by first | with_reducible exact True.intro | (simp only [shr6, shr12, shr18]; exact ⟨lead240 _ (by omega), cont8 _ (by omega), cont8 _ (by omega), cont8 _ (by omega)⟩; done) | omega | simp | (simp; omega) | (simp +contextual; omega))
          refine s1 tok [57, 61, 66, 71, 75] ?_ (hv := by first | with_reducible exact True.intro | (simp only [shr6, shr12, shr18]; exact ⟨lead240 _ (by omega), cont8 _ (by omega), cont8 _ (by omega), cont8 _ (by omega)⟩; done) | omega | simp | (simp; omega) | (simp +contextual; omega))
          refine s1 tok [57, 76] ?_ (hv := by first | with_reducible exact True.intro | (simp only [shr6, shr12, shr18]; exact ⟨lead240 _ (by omega), cont8 _ (by omega), cont8 _ (by omega), cont8 _ (by omega)⟩; done) | omega | simp | (simp; omega) | (simp +contextual; omega))
          refine s1 tok [77] ?_ (hv := by first | with_reducible exact True.intro | (simp only [shr6, shr12, shr18]; exact ⟨lead240 _ (by omega), cont8 _ (by omega), cont8 _ (by omega), cont8 _ (by omega)⟩; done) | omega | simp | (simp; omega) | (simp +contextual; omega))
          refine s1 tok [4] ?_
          refine AOpsO.nil ?_
          exact AW.ret ⟨.inr rfl, _, _, by (conv => lhs; simp), trivial, by simp, by simp, by simp, by simp⟩
        · intro h50
          try simp at h50
          omega
theorem AppendRune_ax (bs : List UInt8) (r : Int) (hb : bs.length ≤ 100000000000) (h0 : 0 ≤ r) (h1 : r ≤ 1114111) (h2 : r < 55296 ∨ 57343 < r) : AX Tryz.prog G 65 [.ms 3, .p (.int .i32 r)] [(3, .row 5 1 (bytesP bs))] (.ms 3) [] [(3, .row 5 1 (bytesP bs ++ bytesP (Lib.encodeRune r)))] := by
  refine AX.introU tok 900 Tryz.func65 (by kernel_rfl) rfl rfl ?_
  simp only [Tryz.f65, enumA, List.map_cons, List.map_nil]
  have hw : IntKind.u32.wrap r = r := by simp [IntKind.wrap, IntKind.bits, IntKind.signed]; omega
  have hw8 := wrap8 r h0
  refine AW.seqRegionO [] ?_
  refine s1 tok [0, 1] ?_
  refine AOpsO.nil ?_
  refine AW.seq ?_
  refine AW.seqRegionO [] ?_
  refine s1 tok [0, 1, 5] ?_
  refine s1 tok [0, 1, 6] ?_
  refine s1 tok [0, 1, 7] ?_
  refine AOpsO.nil ?_
  refine AW.cond (c := .tmp 7) (by conv => lhs; simp) trivial ?_ ?_
  · intro h7
    try simp at h7
    rw [encP r _ (Lib.encodeRuneZ_one (by omega) (by omega))]
    refine AW.seqRegionO [.int .u8 r] ?_
    refine s1 tok [1, 8] ?_
    refine s1 tok [8, 9] ?_
    refine s1 tok [8, 10] ?_ (hv := by first | with_reducible exact True.intro | ((rw [hw8]; omega); done) | omega | simp | (simp; omega) | (simp +contextual; omega))
    refine s1 tok [8, 11] ?_ (hv := by first | with_reducible exact True.intro | ((rw [hw8]; omega); done) | omega | simp | (simp; omega) | (simp +contextual; omega))
    refine s1 tok [12] ?_ (hv := by first | with_reducible exact True.intro | ((rw [hw8]; omega); done) | omega | simp | (simp; omega) | (simp +contextual; omega))
    refine s1 tok [4] ?_
    refine AOpsO.nil ?_
    exact AW.ret ⟨.inr rfl, _, _, by (conv => lhs; simp), trivial, by simp, by simp, by simp, by simp⟩
  · intro h7
    try simp at h7
    refine AW.skip ?_
    refine AW.seqRegionO [] ?_
    refine s1 tok [1, 13] ?_
    refine s1 tok [13, 14] ?_
    refine AOpsO.stepK [15] (y_cx rfl (appendNon_ax bs r hb (by omega) h1 h2) (by simp)) (by conv => lhs; simp) rfl ?_
    refine s1 tok [4] ?_
    refine AOpsO.nil ?_
    exact AW.ret ⟨.inr rfl, _, _, by (conv => lhs; simp), trivial, by simp, by simp, by simp, by simp⟩
theorem WriteRuneF_ax (bs : List UInt8) (r : Int) (hb : bs.length ≤ 100000000000) (h0 : 0 ≤ r) (h1 : r ≤ 1114111) (h2 : r < 55296 ∨ 57343 < r) : AX Tryz.prog G 39 [.ptr 2 0, .p (.int .i32 r)] [(2, .vars 70 [.p .nilp, .ms 3]), (3, .row 5 1 (bytesP bs))] (.dead) [2] [(2, .vars 70 [.ptr 2 0, .ms 3]), (3, .row 5 1 (bytesP bs ++ bytesP (Lib.encodeRune r)))] := by
  refine AX.introU tok 900 Tryz.func39 (by kernel_rfl) rfl rfl ?_
  simp only [Tryz.f39, enumA, List.map_cons, List.map_nil]
  have hel : (Lib.encodeRune r).length ≤ 4 := by simp only [Lib.encodeRune, List.length_map]; exact (Lib.encodeRuneZ_length r).2
  refine AW.seqRegionO [] ?_
  refine s1 tok [0, 1] ?_
  refine s1 tok [0, 1] ?_
  refine AOpsO.nil ?_
  refine AW.seqRegionO [] ?_
  refine s1 tok [0, 1, 7] ?_
  refine AOpsO.stepK [0, 1] (y_cx rfl (ccF_ax bs) (by simp)) (by conv => lhs; simp) rfl ?_
  refine AOpsO.nil ?_
  refine AW.seqRegionO [] ?_
  refine s1 tok [0, 1, 9] ?_
  refine s1 tok [0, 1, 10] ?_
  refine s1 tok [0, 1, 11] ?_
  refine s1 tok [0, 1, 12] ?_
  refine s1 tok [0, 1, 13] ?_
  refine s1 tok [0, 1, 6] ?_
  refine AOpsO.nil ?_
  refine AW.seqRegionO [] ?_
  refine s1 tok [0, 1, 6, 14] ?_
  refine s1 tok [0, 1, 6, 14, 15] ?_
  refine s1 tok [0, 1, 6, 14, 16] ?_
  refine s1 tok [0, 1, 6, 14, 17] ?_
  refine s1 tok [0, 1, 6, 14, 18] ?_
  refine s1 tok [0, 6, 14, 18, 19] ?_
  refine AOpsO.stepK [0, 6, 14, 20] (y_cx rfl (AppendRune_ax bs r hb h0 h1 h2) (by simp)) (by conv => lhs; simp) rfl ?_
  refine s1 tok [0, 6, 20, 21] ?_
  refine s1 tok [0, 6, 20, 22] ?_
  refine s1 tok [0, 6] ?_
  refine AOpsO.nil ?_
  refine AW.seqRegionO [] ?_
  refine s1 tok [6, 23] ?_
  refine s1 tok [6, 24] ?_
  refine s1 tok [6, 25] ?_
  refine s1 tok [6, 26] ?_
  refine s1 tok [6, 27] ?_
  refine s1 tok [27, 28] ?_
  refine s1 tok [29] ?_
  refine s1 tok [4] ?_
  refine s1 tok [4, 5] ?_
  refine AOpsO.nil ?_
  exact AW.ret ⟨.inr rfl, _, _, by (conv => lhs; simp), trivial, by simp, by simp, by simp, by simp⟩
theorem WriteRune_ax (bs : List UInt8) (r : Int) (hb : bs.length ≤ 100000000000) (h0 : 0 ≤ r) (h1 : r ≤ 1114111) (h2 : r < 55296 ∨ 57343 < r) : AX Tryz.prog G 39 [.ptr 2 0, .p (.int .i32 r)] [(2, .vars 70 [.ptr 2 0, .ms 3]), (3, .row 5 1 (bytesP bs))] (.dead) [2] [(2, .vars 70 [.ptr 2 0, .ms 3]), (3, .row 5 1 (bytesP bs ++ bytesP (Lib.encodeRune r)))] := by
  refine AX.introU tok 900 Tryz.func39 (by kernel_rfl) rfl rfl ?_
  simp only [Tryz.f39, enumA, List.map_cons, List.map_nil]
  have hel : (Lib.encodeRune r).length ≤ 4 := by simp only [Lib.encodeRune, List.length_map]; exact (Lib.encodeRuneZ_length r).2
  refine AW.seqRegionO [] ?_
  refine s1 tok [0, 1] ?_
  refine s1 tok [0, 1] ?_
  refine AOpsO.nil ?_
  refine AW.seqRegionO [] ?_
  refine s1 tok [0, 1, 7] ?_
  refine AOpsO.stepK [0, 1] (y_cx rfl (cc_ax bs) (by simp)) (by conv => lhs; simp) rfl ?_
  refine AOpsO.nil ?_
  refine AW.seqRegionO [] ?_
  refine s1 tok [0, 1, 9] ?_
  refine s1 tok [0, 1, 10] ?_
  refine s1 tok [0, 1, 11] ?_
  refine s1 tok [0, 1, 12] ?_
  refine s1 tok [0, 1, 13] ?_
  refine s1 tok [0, 1, 6] ?_
  refine AOpsO.nil ?_
  refine AW.seqRegionO [] ?_
  refine s1 tok [0, 1, 6, 14] ?_
  refine s1 tok [0, 1, 6, 14, 15] ?_
  refine s1 tok [0, 1, 6, 14, 16] ?_
  refine s1 tok [0, 1, 6, 14, 17] ?_
  refine s1 tok [0, 1, 6, 14, 18] ?_
  refine s1 tok [0, 6, 14, 18, 19] ?_
  refine AOpsO.stepK [0, 6, 14, 20] (y_cx rfl (AppendRune_ax bs r hb h0 h1 h2) (by simp)) (by conv => lhs; simp) rfl ?_
  refine s1 tok [0, 6, 20, 21] ?_
  refine s1 tok [0, 6, 20, 22] ?_
  refine s1 tok [0, 6] ?_
  refine AOpsO.nil ?_
  refine AW.seqRegionO [] ?_
  refine s1 tok [6, 23] ?_
  refine s1 tok [6, 24] ?_
  refine s1 tok [6, 25] ?_
  refine s1 tok [6, 26] ?_
  refine s1 tok [6, 27] ?_
  refine s1 tok [27, 28] ?_
  refine s1 tok [29] ?_
  refine s1 tok [4] ?_
  refine s1 tok [4, 5] ?_
  refine AOpsO.nil ?_
  exact AW.ret ⟨.inr rfl, _, _, by (conv => lhs; simp), trivial, by simp, by simp, by simp, by simp⟩
theorem BLenF_ax (bs : List UInt8) : AX Tryz.prog G 63 [.ptr 2 0] [(2, .vars 70 [.p .nilp, .ms 3]), (3, .row 5 1 (bytesP bs))] (.p (.int .i64 bs.length)) [2, 3] [(2, .vars 70 [.p .nilp, .ms 3]), (3, .row 5 1 (bytesP bs))] := by
  refine AX.introU tok 900 Tryz.func63 (by kernel_rfl) rfl rfl ?_
  simp only [Tryz.f63, enumA, List.map_cons, List.map_nil]
  refine AW.seqRegionO [] ?_
  refine s1 tok [0] ?_
  refine AOpsO.nil ?_
  refine AW.seqRegionO [] ?_
  refine s1 tok [3] ?_
  refine s1 tok [4] ?_
  refine s1 tok [5] ?_
  refine s1 tok [6] ?_
  refine s1 tok [7] ?_
  refine s1 tok [2] ?_
  refine AOpsO.nil ?_
  exact AW.ret ⟨.inr rfl, _, _, by (conv => lhs; simp), trivial, by simp, by simp, by simp, by simp⟩
theorem BLen_ax (bs : List UInt8) : AX Tryz.prog G 63 [.ptr 2 0] [(2, .vars 70 [.ptr 2 0, .ms 3]), (3, .row 5 1 (bytesP bs))] (.p (.int .i64 bs.length)) [2, 3] [(2, .vars 70 [.ptr 2 0, .ms 3]), (3, .row 5 1 (bytesP bs))] := by
  refine AX.introU tok 900 Tryz.func63 (by kernel_rfl) rfl rfl ?_
  simp only [Tryz.f63, enumA, List.map_cons, List.map_nil]
  refine AW.seqRegionO [] ?_
  refine s1 tok [0] ?_
  refine AOpsO.nil ?_
  refine AW.seqRegionO [] ?_
  refine s1 tok [3] ?_
  refine s1 tok [4] ?_
  refine s1 tok [5] ?_
  refine s1 tok [6] ?_
  refine s1 tok [7] ?_
  refine s1 tok [2] ?_
  refine AOpsO.nil ?_
  exact AW.ret ⟨.inr rfl, _, _, by (conv => lhs; simp), trivial, by simp, by simp, by simp, by simp⟩
end Go.Proofs.YtdlejiiiifhiiaaGreatDoor
/-
  OUR OWN LAYER: contracts of the kit's shelf as ours: utf8.DecodeRuneInString.
-/
namespace Go.Proofs.YtdlejiiiifhiiaaGreatDoor
open Sy Go
variable {G : Glob}
theorem decodeL_max (l : List UInt8) : (Lib.decodeL l).1 ≤ 1114111 := decode_range _ _
theorem DecodeRune_ev (hG : U8 G) (s : List UInt8) (hs : s ≠ []) : AFn Tryz.prog G 81 [.str s] (.tup [.int .i32 (Lib.decodeL s).1, .int .i64 (Lib.decodeL s).2]) := by
  refine AFn.of_calls (callable_of Tryz.func81 (by kernel_rfl) rfl) fun M w vs hg hmem hsz hrd => ?_
  obtain ⟨b, rfl, rfl, hm⟩ := arg_str hsz hrd
  refine (Any.utf8_DecodeRuneInString Tryz.lays197 b w (u8_tabs hG hg hmem)).mono ?_
  rintro e w' ⟨rfl, hb⟩
  have h0 : b.size ≠ 0 := fun h => hs (List.eq_nil_of_length_eq_zero (by simpa using h))
  have e : Lib.decodeGo b = Lib.decodeL b.data.toList := by
    unfold Lib.decodeGo Lib.decodeL
    rw [if_neg h0]
  rw [e]
  have h1 := decodeL_max b.data.toList
  have h2 := Lib.decodeL_le b.data.toList hs
  have h3 : b.data.toList.length ≤ maxLen := by simpa using hm
  refine ⟨_, rfl, .tup rfl fun i u d hu hd => ?_, hb⟩
  match i, hu, hd with
  | 0, hu, hd => simp at hu hd; subst hu; subst hd; exact .int (by rw [kmin_eq]; simp only [kmin]; omega) (by rw [kmax_eq]; simp only [kmax]; omega)
  | 1, hu, hd => simp at hu hd; subst hu; subst hd; exact .int (by rw [kmin_eq]; simp only [kmin]; omega) (by rw [kmax_eq]; simp only [kmax]; unfold maxLen at h3; omega)
  | i + 2, hu, hd => simp at hu
end Go.Proofs.YtdlejiiiifhiiaaGreatDoor
