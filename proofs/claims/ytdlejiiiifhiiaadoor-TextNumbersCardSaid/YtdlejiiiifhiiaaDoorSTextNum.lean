import Derived.Test.YtdlejiiiifhiiaaDoorSShown5
import Derived.Test.YtdlejiiiifhiiaaDoorM3
import Derived.Test.YtdlejiiiifhiiaaDoorSMayIn
namespace Go.Proofs.YtdlejiiiifhiiaaDoor
open Sy Go
set_option maxRecDepth 100000
set_option maxHeartbeats 4000000
set_option linter.unusedSimpArgs false
set_option linter.unusedVariables false
variable {G : Glob}
def objA (d : Dc) : Val := .mk 7 0 dc0 [] [[97]] [numV d] 0
def pairV (d : Dc) : Val := .mk 6 0 dc0 [] [] [numV d, objA d] 0
theorem num_may {d : Dc} (h : dcMay d = true) : mayT (numV d) = true := by
  refine mayT_intro ?_ ?_ ?_ ?_ ?_ ?_ ?_ ?_ ?_ ?_ <;> simp [numV, h]
theorem word_a : wordT [97] = true := by simp [wordT, valid_a]
theorem objA_may {d : Dc} (h : dcMay d = true) : mayT (objA d) = true := by
  refine mayT_intro ?_ ?_ ?_ ?_ ?_ ?_ ?_ ?_ ?_ ?_ <;> simp [objA, dc0, num_may h, keysT, word_a]
theorem pair_may {d : Dc} (h : dcMay d = true) : mayT (pairV d) = true := by
  refine mayT_intro ?_ ?_ ?_ ?_ ?_ ?_ ?_ ?_ ?_ ?_ <;> simp [pairV, dc0, num_may h, objA_may h]
theorem num_print (d : Dc) : printT (numV d) = PrintM d := print4 rfl
theorem pair_print (d : Dc) : printT (pairV d) = [91] ++ PrintM d ++ [44, 123, 34, 97, 34, 58] ++ PrintM d ++ [125, 93] := by
  rw [print6 rfl]
  show [91] ++ Lib.join [printT (numV d), printT (objA d)] [44] ++ [93] = _
  rw [print7 (v := objA d) rfl]
  show [91] ++ Lib.join [printT (numV d), [123] ++ Lib.join (entT [[97]] [printT (numV d)]) [44] ++ [125]] [44] ++ [93] = _
  rw [ent_cons, join_cons2, Lib.join_one, show entT [] [] = [] from rfl, Lib.join_one, num_print]
  simp [quoteT, qBody, qb]
theorem num_bare (d : Dc) : bareV (numV d) = numV d := by rw [bareV_setK]; rfl
theorem objA_bare (d : Dc) : bareV (objA d) = objA d := by rw [bareV_setK]; show setK (setM (objA d) 0) [bareV (numV d)] = _; rw [num_bare]; rfl
theorem pair_bare (d : Dc) : bareV (pairV d) = pairV d := by rw [bareV_setK]; show setK (setM (pairV d) 0) [bareV (numV d), bareV (objA d)] = _; rw [num_bare, objA_bare]; rfl
theorem one_numV {d : Dc} (h : dcMay d = true) : oneM (PrintM d) = (numV d, ((PrintM d).length : Int), 0) := by
  have := one_back (num_may h) (v := numV d) (by rw [poiV_eq]; simp [numV]) (by rw [depV_eq]; simp [numV]) (by rw [sz_eq]; simp [numV]) (ws := []) (rest := []) rfl (by simp)
  simpa [num_print, num_bare] using this
theorem one_pairV {d : Dc} (h : dcMay d = true) : oneM ([91] ++ PrintM d ++ [44, 123, 34, 97, 34, 58] ++ PrintM d ++ [125, 93]) = (pairV d, 2 * ((PrintM d).length : Int) + 9, 0) := by
  have hn : poiV (numV d) = false := by rw [poiV_eq]; simp [numV]
  have hA : poiV (objA d) = false := by rw [poiV_eq]; simp [objA, hn]
  have hd : depV (numV d) = 1 := by rw [depV_eq]; simp [numV]
  have hdA : depV (objA d) = 2 := by rw [depV_eq]; simp [objA, depL, hd]
  have hs : Val.sz (numV d) = 1 := by rw [sz_eq]; simp [numV]
  have hsA : Val.sz (objA d) = 2 := by rw [sz_eq]; simp [objA, hs]
  have := one_back (pair_may h) (v := pairV d) (by rw [poiV_eq]; simp [pairV, hn, hA]) (by rw [depV_eq]; simp [pairV, depL, hd, hdA]) (by rw [sz_eq]; simp [pairV, Val.szL, hs, hsA]) (ws := []) (rest := []) rfl (by simp)
  rw [List.nil_append, List.append_nil, pair_bare] at this
  rw [← pair_print, this]
  have hl := congrArg List.length (pair_print d)
  simp only [List.length_append, List.length_cons, List.length_nil] at hl ⊢
  rw [show ((0 + (printT (pairV d)).length : Nat) : Int) = 2 * ((PrintM d).length : Int) + 9 by omega]
theorem TextNumbers_ev (hG : U8 G) (d : Dc) (s : List UInt8) (hs : s.length ≤ 140737488351232) : AFn Tryd.prog G 4 [d.enc, .str s] (.bool true) := by
  refine AFn.introU tok Tryd.func4 (by kernel_rfl) rfl rfl ?_
  simp only [Tryd.f4, enumA, List.map_cons, List.map_nil]
  have hsh := shown5_ev hG
  have hmay := refDcMay_ev (G := G) d
  obtain ⟨s', hs'⟩ : ∃ s', s' = (if 60 < s.length then s.take 60 else s) := ⟨_, rfl⟩
  have hl' : s'.length ≤ 60 := by rw [hs']; split; exact (by simp; omega); omega
  have hP := Parse_ev (G := G) s' (by omega)
  rw [parse_eq] at hP
  have hO := one_ev hG s' (by omega)
  have hN := one_num (s := s')
  refine AW.seqRegionO [] ?_
  refine s1 tok [1, 2] ?_
  refine s1 tok [1, 2] ?_
  refine AOpsO.nil ?_
  refine AW.seqRegionO [.nilp, .bool true] ?_
  refine s1 tok [1, 2, 18] ?_ (hv := by first | with_reducible exact True.intro | (exact hsh; done) | omega | simp | (simp; omega) | (simp +contextual; omega))
  refine s1 tok [1, 2, 5] ?_
  refine AOpsO.nil ?_
  refine AW.join (α := Unit) (fun _ => True) (fun a => ⟨upds 157 [(1, .p (.str s')), (2, .ptr 2 0), (5, .p (.bool true))], [], [(2, .vars 28 [.p (.bool d.neg), .p (.str d.digits), .p (.int .i64 d.scale)])], 0⟩) ?_ ?_
  ·
    refine AW.seqRegionO [] ?_
    refine s1 tok [1, 2, 5, 19] ?_
    refine s1 tok [1, 2, 5, 20] ?_
    refine s1 tok [1, 2, 5, 21] ?_
    refine AOpsO.nil ?_
    refine AW.cond (c := .tmp 21) (by conv => lhs; simp) trivial ?_ ?_
    · intro h21
      try simp at h21
      refine AW.regionO [] ?_
      refine s1 tok [2, 5, 22] ?_
      refine s1 tok [2, 5, 23] ?_
      refine s1 tok [1, 2, 5] ?_
      refine AOpsO.nil ?_
      exact ⟨(), trivial, upds_le (by simp [show s' = s.take 60 from by rw [hs', if_pos (by omega)]]), rfl, by simp [show s' = s.take 60 from by rw [hs', if_pos (by omega)]], by simp [show s' = s.take 60 from by rw [hs', if_pos (by omega)]]⟩
    · intro h21
      try simp at h21
      refine AW.skip ?_
      exact ⟨(), trivial, upds_le (by simp [show s' = s from by rw [hs', if_neg (by omega)]]), rfl, by simp [show s' = s from by rw [hs', if_neg (by omega)]], by simp [show s' = s from by rw [hs', if_neg (by omega)]]⟩
  ·
    rintro a hI
    refine AW.join (α := Unit) (fun _ => True) (fun a => ⟨upds 157 [(1, .p (.str s')), (5, .p (.bool true))], [], [], 0⟩) ?_ ?_
    ·
      refine AW.seqRegionO [.nilp, .bool (dcMay d)] ?_
      refine s1 tok [1, 2, 5, 24] ?_ (hv := by first | with_reducible exact True.intro | (exact hmay; done) | omega | simp | (simp; omega) | (simp +contextual; omega))
      refine s1 tok [1, 2, 5, 25] ?_ (hv := by first | with_reducible exact True.intro | (exact hmay; done) | omega | simp | (simp; omega) | (simp +contextual; omega))
      refine AOpsO.nil ?_
      refine AW.cond (c := .tmp 25) (by conv => lhs; simp) trivial ?_ ?_
      · intro h25
        try simp at h25
        have hp := RefPrint_ev (G := G) d h25
        have hb := printM_le h25
        have ho1 := one_ev hG (PrintM d) (by omega)
        rw [one_numV h25] at ho1
        have ho2 := one_ev hG ([91] ++ PrintM d ++ [44, 123, 34, 97, 34, 58] ++ PrintM d ++ [125, 93]) (by simp; omega)
        rw [one_pairV h25] at ho2
        have hpr := print_clean (G := G) (num_may h25) (by rw [poiV_eq]; simp [numV]) (by rw [sz_eq]; simp [numV])
        rw [num_print] at hpr
        obtain ⟨n, hn⟩ : ∃ n, n = numV d := ⟨_, rfl⟩
        obtain ⟨o, ho⟩ : ∃ o, o = objA d := ⟨_, rfl⟩
        obtain ⟨w, hw⟩ : ∃ w, w = pairV d := ⟨_, rfl⟩
        have hwk : w.kids = [n, o] := by rw [hw, hn, ho]; rfl
        have hok : o.kids = [n] := by rw [hn, ho]; rfl
        have hnd : d = n.num := by rw [hn]; rfl
        rw [← hn] at ho1 hpr
        rw [← hw] at ho2
        clear hn ho hw
        subst hnd
        generalize PrintM n.num = p at *
        simp at ho1 ho2 hpr
        refine AW.seqRegionO [.nilp, .str p] ?_
        refine s1 tok [1, 2, 5, 26] ?_ (hv := by first | with_reducible exact True.intro | (exact hp; done) | omega | simp | (simp; omega) | (simp +contextual; omega))
        refine s1 tok [1, 2, 5, 27] ?_ (hv := by first | with_reducible exact True.intro | (exact hp; done) | omega | simp | (simp; omega) | (simp +contextual; omega))
        refine s1 tok [1, 2, 5, 6] ?_
        refine AOpsO.nil ?_
        refine AW.seqRegionO [.nilp, .tup [n.enc, .int .i64 p.length, .int .i64 0]] ?_
        refine s1 tok [1, 2, 5, 6, 29] ?_
        refine s1 tok [1, 2, 5, 6, 30] ?_ (hv := by first | with_reducible exact True.intro | (first | exact ho1 | (simp; exact ho1); done) | omega | simp | (simp; omega) | (simp +contextual; omega))
        refine s1 tok [1, 2, 5, 6, 28] ?_
        refine s1 tok [1, 2, 5, 6, 28, 31] ?_
        refine s1 tok [1, 2, 5, 6, 28, 31, 32] ?_
        refine s1 tok [1, 2, 5, 6, 31, 32, 33] ?_
        refine s1 tok [1, 2, 5, 6, 7, 31, 32, 33] ?_
        refine s1 tok [1, 2, 5, 6, 7, 32, 33] ?_ (hv := by first | with_reducible exact True.intro | (first | exact ho1 | (simp; exact ho1); done) | omega | simp | (simp; omega) | (simp +contextual; omega))
        refine s1 tok [1, 2, 5, 6, 7, 8, 33] ?_
        refine s1 tok [1, 2, 5, 6, 7, 8, 9] ?_
        refine AOpsO.nil ?_
        refine AW.seqRegionO [.nilp, .tup [w.enc, .int .i64 (2 * p.length + 9), .int .i64 0]] ?_
        refine s1 tok [1, 2, 5, 6, 7, 8, 9, 35] ?_
        refine s1 tok [1, 2, 5, 6, 7, 8, 9, 36] ?_ (hv := by first | with_reducible exact True.intro | (first | exact ho2 | (simp; exact ho2); done) | omega | simp | (simp; omega) | (simp +contextual; omega))
        refine s1 tok [1, 2, 5, 6, 7, 8, 9, 37] ?_ (hv := by first | with_reducible exact True.intro | (first | exact ho2 | (simp; exact ho2); done) | omega | simp | (simp; omega) | (simp +contextual; omega))
        refine s1 tok [1, 2, 5, 6, 7, 8, 9, 37, 38] ?_
        refine s1 tok [1, 2, 5, 6, 7, 8, 9, 39] ?_ (hv := by first | with_reducible exact True.intro | (first | exact ho2 | (simp; exact ho2); done) | omega | simp | (simp; omega) | (simp +contextual; omega))
        refine s1 tok [1, 2, 5, 6, 7, 8, 9, 40] ?_ (hv := by first | with_reducible exact True.intro | (first | exact ho2 | (simp; exact ho2); done) | omega | simp | (simp; omega) | (simp +contextual; omega))
        refine s1 tok [1, 2, 5, 6, 7, 8, 9, 41] ?_ (hv := by first | with_reducible exact True.intro | (first | exact ho2 | (simp; exact ho2); done) | omega | simp | (simp; omega) | (simp +contextual; omega))
        refine s1 tok [1, 2, 5, 6, 7, 8, 9, 34] ?_
        refine s1 tok [1, 2, 5, 6, 7, 8, 9, 34, 42] ?_
        refine s1 tok [1, 2, 5, 6, 7, 8, 9, 34, 42, 43] ?_
        refine s1 tok [1, 2, 5, 6, 7, 8, 9, 42, 43, 44] ?_
        refine s1 tok [1, 2, 5, 6, 7, 8, 9, 10, 42, 43, 44] ?_
        refine s1 tok [1, 2, 5, 6, 7, 8, 9, 10, 43, 44] ?_ (hv := by first | with_reducible exact True.intro | (first | exact ho2 | (simp; exact ho2); done) | omega | simp | (simp; omega) | (simp +contextual; omega))
        refine s1 tok [1, 2, 5, 6, 7, 8, 9, 10, 11, 44] ?_
        refine s1 tok [1, 2, 5, 6, 7, 8, 9, 10, 11, 12] ?_
        refine AOpsO.nil ?_
        refine AW.seqDrawS tok mixed 68 [[9], [45], [46], [8, 47], [6, 47], [49, 47], [48, 50, 47], [47, 51], [52], [7, 53], [54, 53], [2, 53], [55, 56, 53], [53, 57], [58], [7, 59], [60, 59], [6, 59], [61, 62, 59], [59, 63], [64], [12, 65], [66, 65], [65, 67], [68], [11, 69], [6, 69], [71, 69], [72, 69], [73, 69], [70, 74, 69], [69, 75], [76], [10, 77], [78, 77], [79, 77], [80, 77], [77, 81], [82], [10, 83], [84, 83], [85, 83], [86, 83], [87, 83], [2, 83], [88, 89, 83], [83, 90], [91], [10, 92], [93, 92], [94, 92], [95, 92], [96, 92], [97, 92], [98, 92], [92, 99], [100], [10, 101], [102, 101], [103, 101], [104, 101], [105, 101], [106, 101], [107, 101], [108, 101], [2, 101], [109, 110, 101], [101, 111]] [.nilp, .str p, n.enc, o.enc, o.enc, n.enc] [] (by kernel_rfl) ?_
        refine d1 ?_
        refine d1 ?_ (hv := by first | with_reducible exact True.intro | (first | exact hpr | (simp [hwk]; done) | (simp [hok]; done) | omega; done) | omega | simp | (simp; omega) | (simp +contextual; omega))
        refine d1 ?_
        refine d2 47 rfl rfl ?_
        refine d2 47 rfl rfl ?_
        refine d2 47 rfl rfl ?_ (hv := by first | with_reducible exact True.intro | (first | exact hpr | (simp [hwk]; done) | (simp [hok]; done) | omega; done) | omega | simp | (simp; omega) | (simp +contextual; omega))
        refine d2 47 rfl rfl ?_ (hv := by first | with_reducible exact True.intro | (first | exact hpr | (simp [hwk]; done) | (simp [hok]; done) | omega; done) | omega | simp | (simp; omega) | (simp +contextual; omega))
        refine d1 ?_ (hv := by first | with_reducible exact True.intro | (first | exact hpr | (simp [hwk]; done) | (simp [hok]; done) | omega; done) | omega | simp | (simp; omega) | (simp +contextual; omega))
        refine d1 ?_
        refine d2 53 rfl rfl ?_
        refine d2 53 rfl rfl ?_ (hv := by first | with_reducible exact True.intro | (first | exact hpr | (simp [hwk]; done) | (simp [hok]; done) | omega; done) | omega | simp | (simp; omega) | (simp +contextual; omega))
        refine d2 53 rfl rfl ?_ (hv := by first | with_reducible exact True.intro | (first | exact hpr | (simp [hwk]; done) | (simp [hok]; done) | omega; done) | omega | simp | (simp; omega) | (simp +contextual; omega))
        refine d2 53 rfl rfl ?_ (hv := by first | with_reducible exact True.intro | (first | exact hpr | (simp [hwk]; done) | (simp [hok]; done) | omega; done) | omega | simp | (simp; omega) | (simp +contextual; omega))
        refine d1 ?_ (hv := by first | with_reducible exact True.intro | (first | exact hpr | (simp [hwk]; done) | (simp [hok]; done) | omega; done) | omega | simp | (simp; omega) | (simp +contextual; omega))
        refine d1 ?_
        refine d2 59 rfl rfl ?_ (hv := by first | with_reducible exact True.intro | (first | exact hpr | (simp [hwk]; done) | (simp [hok]; done) | omega; done) | omega | simp | (simp; omega) | (simp +contextual; omega))
        refine d2 59 rfl rfl ?_ (hv := by first | with_reducible exact True.intro | (first | exact hpr | (simp [hwk]; done) | (simp [hok]; done) | omega; done) | omega | simp | (simp; omega) | (simp +contextual; omega))
        refine d2 59 rfl rfl ?_
        refine d2 59 rfl rfl ?_ (hv := by first | with_reducible exact True.intro | (first | exact hpr | (simp [hwk]; done) | (simp [hok]; done) | omega; done) | omega | simp | (simp; omega) | (simp +contextual; omega))
        refine d1 ?_ (hv := by first | with_reducible exact True.intro | (first | exact hpr | (simp [hwk]; done) | (simp [hok]; done) | omega; done) | omega | simp | (simp; omega) | (simp +contextual; omega))
        refine d1 ?_
        refine d2 65 rfl rfl ?_
        refine d2 65 rfl rfl ?_ (hv := by first | with_reducible exact True.intro | (first | exact hpr | (simp [hwk]; done) | (simp [hok]; done) | omega; done) | omega | simp | (simp; omega) | (simp +contextual; omega))
        refine d1 ?_ (hv := by first | with_reducible exact True.intro | (first | exact hpr | (simp [hwk]; done) | (simp [hok]; done) | omega; done) | omega | simp | (simp; omega) | (simp +contextual; omega))
        refine d1 ?_
        refine d2 69 rfl rfl ?_
        refine d2 69 rfl rfl ?_
        refine d2 69 rfl rfl ?_ (hv := by first | with_reducible exact True.intro | (first | exact hpr | (simp [hwk]; done) | (simp [hok]; done) | omega; done) | omega | simp | (simp; omega) | (simp +contextual; omega))
        refine d2 69 rfl rfl ?_ (hv := by first | with_reducible exact True.intro | (first | exact hpr | (simp [hwk]; done) | (simp [hok]; done) | omega; done) | omega | simp | (simp; omega) | (simp +contextual; omega))
        refine d2 69 rfl rfl ?_ (hv := by first | with_reducible exact True.intro | (first | exact hpr | (simp [hwk]; done) | (simp [hok]; done) | omega; done) | omega | simp | (simp; omega) | (simp +contextual; omega))
        refine d2 69 rfl rfl ?_ (hv := by first | with_reducible exact True.intro | (first | exact hpr | (simp [hwk]; done) | (simp [hok]; done) | omega; done) | omega | simp | (simp; omega) | (simp +contextual; omega))
        refine d1 ?_ (hv := by first | with_reducible exact True.intro | (first | exact hpr | (simp [hwk]; done) | (simp [hok]; done) | omega; done) | omega | simp | (simp; omega) | (simp +contextual; omega))
        refine d1 ?_
        refine d2 77 rfl rfl ?_
        refine d2 77 rfl rfl ?_ (hv := by first | with_reducible exact True.intro | (first | exact hpr | (simp [hwk]; done) | (simp [hok]; done) | omega; done) | omega | simp | (simp; omega) | (simp +contextual; omega))
        refine d2 77 rfl rfl ?_ (hv := by first | with_reducible exact True.intro | (first | exact hpr | (simp [hwk]; done) | (simp [hok]; done) | omega; done) | omega | simp | (simp; omega) | (simp +contextual; omega))
        refine d2 77 rfl rfl ?_ (hv := by first | with_reducible exact True.intro | (first | exact hpr | (simp [hwk]; done) | (simp [hok]; done) | omega; done) | omega | simp | (simp; omega) | (simp +contextual; omega))
        refine d1 ?_ (hv := by first | with_reducible exact True.intro | (first | exact hpr | (simp [hwk]; done) | (simp [hok]; done) | omega; done) | omega | simp | (simp; omega) | (simp +contextual; omega))
        refine d1 ?_
        refine d2 83 rfl rfl ?_
        refine d2 83 rfl rfl ?_ (hv := by first | with_reducible exact True.intro | (first | exact hpr | (simp [hwk]; done) | (simp [hok]; done) | omega; done) | omega | simp | (simp; omega) | (simp +contextual; omega))
        refine d2 83 rfl rfl ?_ (hv := by first | with_reducible exact True.intro | (first | exact hpr | (simp [hwk]; done) | (simp [hok]; done) | omega; done) | omega | simp | (simp; omega) | (simp +contextual; omega))
        refine d2 83 rfl rfl ?_
        refine d2 83 rfl rfl ?_ (hv := by first | with_reducible exact True.intro | (first | exact hpr | (simp [hwk]; done) | (simp [hok]; done) | omega; done) | omega | simp | (simp; omega) | (simp +contextual; omega))
        refine d2 83 rfl rfl ?_ (hv := by first | with_reducible exact True.intro | (first | exact hpr | (simp [hwk]; done) | (simp [hok]; done) | omega; done) | omega | simp | (simp; omega) | (simp +contextual; omega))
        refine d2 83 rfl rfl ?_ (hv := by first | with_reducible exact True.intro | (first | exact hpr | (simp [hwk]; done) | (simp [hok]; done) | omega; done) | omega | simp | (simp; omega) | (simp +contextual; omega))
        refine d1 ?_ (hv := by first | with_reducible exact True.intro | (first | exact hpr | (simp [hwk]; done) | (simp [hok]; done) | omega; done) | omega | simp | (simp; omega) | (simp +contextual; omega))
        refine d1 ?_
        refine d2 92 rfl rfl ?_
        refine d2 92 rfl rfl ?_ (hv := by first | with_reducible exact True.intro | (first | exact hpr | (simp [hwk]; done) | (simp [hok]; done) | omega; done) | omega | simp | (simp; omega) | (simp +contextual; omega))
        refine d2 92 rfl rfl ?_ (hv := by first | with_reducible exact True.intro | (first | exact hpr | (simp [hwk]; done) | (simp [hok]; done) | omega; done) | omega | simp | (simp; omega) | (simp +contextual; omega))
        refine d2 92 rfl rfl ?_
        refine d2 92 rfl rfl ?_ (hv := by first | with_reducible exact True.intro | (first | exact hpr | (simp [hwk]; done) | (simp [hok]; done) | omega; done) | omega | simp | (simp; omega) | (simp +contextual; omega))
        refine d2 92 rfl rfl ?_ (hv := by first | with_reducible exact True.intro | (first | exact hpr | (simp [hwk]; done) | (simp [hok]; done) | omega; done) | omega | simp | (simp; omega) | (simp +contextual; omega))
        refine d2 92 rfl rfl ?_ (hv := by first | with_reducible exact True.intro | (first | exact hpr | (simp [hwk]; done) | (simp [hok]; done) | omega; done) | omega | simp | (simp; omega) | (simp +contextual; omega))
        refine d1 ?_ (hv := by first | with_reducible exact True.intro | (first | exact hpr | (simp [hwk]; done) | (simp [hok]; done) | omega; done) | omega | simp | (simp; omega) | (simp +contextual; omega))
        refine d1 ?_
        refine d2 101 rfl rfl ?_
        refine d2 101 rfl rfl ?_ (hv := by first | with_reducible exact True.intro | (first | exact hpr | (simp [hwk]; done) | (simp [hok]; done) | omega; done) | omega | simp | (simp; omega) | (simp +contextual; omega))
        refine d2 101 rfl rfl ?_ (hv := by first | with_reducible exact True.intro | (first | exact hpr | (simp [hwk]; done) | (simp [hok]; done) | omega; done) | omega | simp | (simp; omega) | (simp +contextual; omega))
        refine d2 101 rfl rfl ?_
        refine d2 101 rfl rfl ?_ (hv := by first | with_reducible exact True.intro | (first | exact hpr | (simp [hwk]; done) | (simp [hok]; done) | omega; done) | omega | simp | (simp; omega) | (simp +contextual; omega))
        refine d2 101 rfl rfl ?_ (hv := by first | with_reducible exact True.intro | (first | exact hpr | (simp [hwk]; done) | (simp [hok]; done) | omega; done) | omega | simp | (simp; omega) | (simp +contextual; omega))
        refine d2 101 rfl rfl ?_
        refine d2 101 rfl rfl ?_ (hv := by first | with_reducible exact True.intro | (first | exact hpr | (simp [hwk]; done) | (simp [hok]; done) | omega; done) | omega | simp | (simp; omega) | (simp +contextual; omega))
        refine d2 101 rfl rfl ?_ (hv := by first | with_reducible exact True.intro | (first | exact hpr | (simp [hwk]; done) | (simp [hok]; done) | omega; done) | omega | simp | (simp; omega) | (simp +contextual; omega))
        refine d2 101 rfl rfl ?_ (hv := by first | with_reducible exact True.intro | (first | exact hpr | (simp [hwk]; done) | (simp [hok]; done) | omega; done) | omega | simp | (simp; omega) | (simp +contextual; omega))
        refine d1 ?_ (hv := by first | with_reducible exact True.intro | (first | exact hpr | (simp [hwk]; done) | (simp [hok]; done) | omega; done) | omega | simp | (simp; omega) | (simp +contextual; omega))
        refine DGo.nil (by kernel_rfl) ⟨by kernel_rfl, ?_⟩
        refine AOpsO.nil ?_
        refine AW.cond (c := .tmp 112) (by conv => lhs; simp) trivial ?_ ?_
        · intro h112
          try simp at h112
          simp [hwk, hok] at h112
        · intro h112
          try simp at h112
          refine AW.skip ?_
          exact ⟨(), trivial, upds_le (by simp), rfl, by simp, by simp⟩
      · intro h25
        try simp at h25
        refine AW.skip ?_
        exact ⟨(), trivial, upds_le (by simp), rfl, by simp, by simp⟩
    ·
      rintro a hI
      generalize oneM s' = o at hO hN
      generalize hx : ParseL s' = x at hP hN
      obtain ⟨xd, xe⟩ := x
      obtain ⟨ov, on, oe⟩ := o
      simp at hP hO hN
      refine AW.seqRegionO [.nilp, .tup [xd.enc, .int .i64 xe]] ?_
      refine s1 tok [1, 5, 114] ?_
      refine s1 tok [1, 5, 115] ?_ (hv := by first | with_reducible exact True.intro | ((simp; exact hP); done) | omega | simp | (simp; omega) | (simp +contextual; omega))
      refine s1 tok [1, 5, 113] ?_
      refine s1 tok [1, 5, 113, 116] ?_
      refine s1 tok [1, 5, 116, 117] ?_
      refine s1 tok [1, 5, 13, 116, 117] ?_
      refine s1 tok [1, 5, 13, 117] ?_ (hv := by first | with_reducible exact True.intro | ((simp; exact hP); done) | omega | simp | (simp; omega) | (simp +contextual; omega))
      refine s1 tok [1, 5, 13, 14] ?_
      refine AOpsO.nil ?_
      have h3 : xe ≠ 3 ∨ oe = 3 := by
        by_cases h : xe = 3
        · have hN := hN (by omega)
          rw [if_pos h] at hN
          exact .inr (congrArg (fun x => x.2.2) hN)
        · exact .inl h
      refine AW.seqRegionO [.nilp, .tup [ov.enc, .int .i64 on, .int .i64 oe]] ?_
      refine s1 tok [1, 5, 13, 14, 119] ?_
      refine s1 tok [1, 5, 13, 14, 120] ?_ (hv := by first | with_reducible exact True.intro | ((simp; exact hO); done) | omega | simp | (simp; omega) | (simp +contextual; omega))
      refine s1 tok [1, 5, 13, 14, 118] ?_
      refine s1 tok [1, 5, 13, 14, 118, 121] ?_
      refine s1 tok [1, 5, 13, 14, 118, 121, 122] ?_
      refine s1 tok [1, 5, 13, 14, 121, 122, 123] ?_
      refine s1 tok [1, 5, 13, 14, 15, 121, 122, 123] ?_
      refine s1 tok [1, 5, 13, 14, 15, 122, 123] ?_ (hv := by first | with_reducible exact True.intro | ((simp; exact hO); done) | omega | simp | (simp; omega) | (simp +contextual; omega))
      refine s1 tok [1, 5, 13, 14, 15, 16, 123] ?_
      refine s1 tok [1, 5, 13, 14, 15, 16, 17] ?_
      refine AOpsO.nil ?_
      refine AW.seq ?_
      refine AW.seqRegionO [] ?_
      refine s1 tok [1, 5, 13, 14, 15, 16, 17, 124] ?_
      refine s1 tok [1, 5, 13, 14, 15, 16, 17, 125] ?_
      refine AOpsO.nil ?_
      refine AW.cond (c := .tmp 125) (by conv => lhs; simp) trivial ?_ ?_
      · intro h125
        try simp at h125
        have hN := hN (by omega)
        rw [if_neg (by omega)] at hN
        simp only [Prod.mk.injEq] at hN
        obtain ⟨e1, e2, e3⟩ := hN
        subst e1; subst e2; subst e3
        refine AW.seqRegionO [] ?_
        refine s1 tok [1, 13, 15, 16, 17, 126] ?_
        refine s1 tok [1, 13, 15, 16, 17, 127] ?_
        refine s2 tok [1, 13, 15, 16, 127, 128] 127 rfl rfl ?_
        refine s2 tok [1, 13, 15, 16, 127, 129] 127 rfl rfl ?_
        refine s1 tok [1, 13, 15, 16, 130] ?_
        refine s1 tok [1, 13, 15, 16, 131] ?_
        refine s2 tok [1, 13, 15, 16, 131, 132] 131 rfl rfl ?_
        refine s2 tok [1, 13, 15, 16, 131, 133] 131 rfl rfl ?_
        refine s2 tok [1, 13, 15, 16, 131, 134] 131 rfl rfl ?_
        refine s1 tok [1, 13, 15, 16, 135] ?_
        refine s1 tok [1, 13, 15, 16, 136] ?_
        refine s2 tok [1, 13, 16, 136, 137] 136 rfl rfl ?_
        refine s2 tok [1, 13, 16, 136, 138] 136 rfl rfl ?_
        refine s2 tok [1, 16, 136, 138, 139] 136 rfl rfl ?_
        refine s2 tok [1, 16, 136, 140] 136 rfl rfl ?_
        refine s1 tok [1, 16, 141] ?_
        refine s1 tok [1, 16, 142] ?_
        refine s2 tok [1, 142, 143] 142 rfl rfl ?_
        refine s2 tok [142, 143, 144] 142 rfl rfl ?_
        refine s2 tok [142, 143, 145] 142 rfl rfl ?_
        refine s2 tok [142, 146] 142 rfl rfl ?_
        refine s1 tok [147] ?_
        refine s1 tok [4] ?_
        refine AOpsO.nil ?_
        exact AW.ret ⟨.inr rfl, _, _, by (conv => lhs; simp), trivial, by simp [numV]⟩
      · intro h125
        try simp at h125
        refine AW.skip ?_
        refine AW.seqRegionO [] ?_
        refine s1 tok [14, 17, 148] ?_
        refine s1 tok [14, 17, 149] ?_
        refine s2 tok [17, 149, 150] 149 rfl rfl ?_
        refine s2 tok [17, 149, 151] 149 rfl rfl ?_
        refine s2 tok [17, 149, 152] 149 rfl rfl ?_
        refine s2 tok [149, 152, 153] 152 rfl rfl ?_
        refine s2 tok [149, 152, 154] 152 rfl rfl ?_
        refine s2 tok [149, 155] 149 rfl rfl ?_
        refine s1 tok [156] ?_
        refine s1 tok [4] ?_
        refine AOpsO.nil ?_
        exact AW.ret ⟨.inr rfl, _, _, by (conv => lhs; simp), trivial, by simp; exact h3⟩
end Go.Proofs.YtdlejiiiifhiiaaDoor
