import Derived.Test.YtdlejiiiifhiiaaGreatDoorSBlankL
import Derived.Test.YtdlejiiiifhiiaaGreatDoorSPois
import Derived.Test.YtdlejiiiifhiiaaGreatDoorSShown5
import Derived.Test.YtdlejiiiifhiiaaGreatDoorSBuiltL
import Derived.Test.YtdlejiiiifhiiaaGreatDoorSRefSB
namespace Go.Proofs.YtdlejiiiifhiiaaGreatDoor
open Sy Go
set_option maxRecDepth 100000
set_option maxHeartbeats 4000000
set_option linter.unusedSimpArgs false
set_option linter.unusedVariables false
variable {G : Glob}
theorem TextBlanks_ev (hG : U8 G) (l : List Item) (at' : Int) (hl : ∀ x ∈ l, x.keys.length ≤ 140737488351232) (ha : -9223372036854775808 ≤ at') (hb : at' ≤ 9223372036854775807) : AFn Tryz.prog G 4 [.sl 6 (l.map Item.enc), .int .i64 at'] (.bool true) := by
  refine AFn.introU tok Tryz.func4 (by kernel_rfl) rfl rfl ?_
  simp only [Tryz.f4, enumA, List.map_cons, List.map_nil]
  have hsh := shown5_ev hG
  have hB := Built_ev (G := G) l hl
  have hm0 := built_may l
  have hsz0 := built_sz l
  generalize builtM l = b at *
  have hBa := refBare_ev (G := G) b hm0
  obtain ⟨v, hv⟩ : ∃ v, v = bareV b := ⟨_, rfl⟩
  have hm : mayT v = true := by rw [hv, bare_may]; exact hm0
  have hsz : Val.sz v ≤ 80 := by rw [hv, bare_sz]; exact hsz0
  have hbb : bareV v = v := by rw [hv, bare_bare]
  rw [← hv] at hBa
  clear hv hm0 hsz0
  have hp := fun h => print_clean (G := G) hm h (by omega)
  have hpl := print_len v hm
  have hd := dep_le_sz v
  have hS := refSize_ev (G := G) v (by omega)
  have hP := pois_ev (G := G) v (by omega)
  have hSa := refSame_sz (G := G) v (by omega) v
  rw [(sameT_iff _ _).2 rfl] at hSa
  have hO1 := one_ev hG ([32, 9, 13, 10] ++ (printT v ++ [10])) (by simp; omega)
  have hO2 := one_ev hG (91 :: (printT v ++ (32 :: 44 :: 32 :: (printT v ++ [93])))) (by simp; omega)
  have hO3 := fun k => one_ev hG ((printT v).take k) (by simp; omega)
  have e1 : poiV v = false → depV v ≤ 12 → oneM ([32, 9, 13, 10] ++ (printT v ++ [10])) = (bareV v, ((([32, 9, 13, 10] : List UInt8).length + (printT v).length : Nat) : Int), 0) := fun h hd => one_back hm h hd (by omega) rfl (by intro b hb; simp at hb; subst hb; rfl)
  have e2 : poiV v = false → depV v ≤ 11 → oneM (91 :: (printT v ++ (32 :: 44 :: 32 :: (printT v ++ [93])))) = (pairB v, 2 * ((printT v).length : Int) + 5, 0) := fun h hd => one_two hm h hd (by omega)
  have e3 : poiV v = false → (v.kind = 5 ∨ v.kind = 6 ∨ v.kind = 7) → ∀ k, k < (printT v).length → oneM ((printT v).take k) = (zeroV, 0, 10) := fun h hk k => one_cut hm h hk
  have hwk : (pairB v).kids = [v, v] := by show [bareV v, bareV v] = _; rw [hbb]
  rw [hbb] at e1
  generalize pairB v = w at *
  generalize printT v = p at *
  simp at hB hp hS hP hBa hO1 hO2 hSa
  refine AW.seqRegionO [] ?_
  refine s1 tok [0, 1] ?_
  refine AOpsO.nil ?_
  refine AW.seqRegionO [.nilp, .bool true] ?_
  refine s1 tok [0, 1, 23] ?_ (hv := by first | with_reducible exact True.intro | (exact hsh; done) | omega | simp | (simp; omega) | (simp +contextual; omega))
  refine s1 tok [0, 1, 5] ?_
  refine AOpsO.nil ?_
  refine AW.seqRegionO [.nilp, b.enc, .nilp, v.enc] ?_
  refine s1 tok [1, 5, 24] ?_
  refine s1 tok [1, 5, 25] ?_ (hv := by first | with_reducible exact True.intro | (first | exact ⟨hB, hBa⟩ | (simp; exact ⟨hB, hBa⟩) | exact hB | exact hBa; done) | omega | simp | (simp; omega) | (simp +contextual; omega))
  refine s1 tok [1, 5, 26] ?_ (hv := by first | with_reducible exact True.intro | (first | exact ⟨hB, hBa⟩ | (simp; exact ⟨hB, hBa⟩) | exact hB | exact hBa; done) | omega | simp | (simp; omega) | (simp +contextual; omega))
  refine s1 tok [1, 5, 6, 26] ?_
  refine s1 tok [1, 5, 6] ?_ (hv := by first | with_reducible exact True.intro | (first | exact ⟨hB, hBa⟩ | (simp; exact ⟨hB, hBa⟩) | exact hB | exact hBa; done) | omega | simp | (simp; omega) | (simp +contextual; omega))
  refine AOpsO.nil ?_
  refine AW.seqRegionO [.nilp, .tup [.int .i64 (Val.sz v), .int .i64 (depV v)]] ?_
  refine s1 tok [1, 5, 6, 28] ?_ (hv := by first | with_reducible exact True.intro | ((simp; exact hS); done) | omega | simp | (simp; omega) | (simp +contextual; omega))
  refine s1 tok [1, 5, 6, 29] ?_ (hv := by first | with_reducible exact True.intro | ((simp; exact hS); done) | omega | simp | (simp; omega) | (simp +contextual; omega))
  refine s1 tok [1, 5, 6, 27] ?_
  refine s1 tok [1, 5, 6, 27, 30] ?_
  refine s1 tok [1, 5, 6, 30, 31] ?_
  refine s1 tok [1, 5, 6, 31] ?_
  refine s1 tok [1, 5, 6, 8] ?_
  refine AOpsO.nil ?_
  refine AW.seq ?_
  refine AW.seqRegionO [.nilp, .bool (poiV v)] ?_
  refine s1 tok [1, 5, 6, 8, 32] ?_ (hv := by first | with_reducible exact True.intro | ((simp; exact hP); done) | omega | simp | (simp; omega) | (simp +contextual; omega))
  refine s1 tok [1, 5, 6, 8, 33] ?_ (hv := by first | with_reducible exact True.intro | ((simp; exact hP); done) | omega | simp | (simp; omega) | (simp +contextual; omega))
  refine s1 tok [1, 5, 6, 8, 34] ?_
  refine s2 tok [1, 5, 6, 34, 35] 34 rfl rfl ?_
  refine s2 tok [1, 5, 6, 34, 36] 34 rfl rfl ?_ (hv := by first | with_reducible exact True.intro | ((simp; exact hP); done) | omega | simp | (simp; omega) | (simp +contextual; omega))
  refine s1 tok [1, 5, 6, 37] ?_ (hv := by first | with_reducible exact True.intro | ((simp; exact hP); done) | omega | simp | (simp; omega) | (simp +contextual; omega))
  refine AOpsO.nil ?_
  refine AW.cond (c := .tmp 37) (by conv => lhs; simp) trivial ?_ ?_
  · intro h37
    try simp at h37
    refine AW.seqRegionO [] ?_
    refine s1 tok [38] ?_
    refine s1 tok [4] ?_
    refine AOpsO.nil ?_
    exact AW.ret ⟨.inr rfl, _, _, by (conv => lhs; simp), trivial, by simp⟩
  · intro h37
    try simp at h37
    obtain ⟨hpo, hdd0⟩ := h37
    have hdd : depV v ≤ 11 := by omega
    have hp := hp hpo
    have e1 := e1 hpo (by omega)
    have e2 := e2 hpo hdd
    have e3 := e3 hpo
    simp at e1
    rw [e1] at hO1
    rw [e2] at hO2
    simp at hO1 hO2
    rw [show (4 + (p.length : Int)) = p.length + 4 from Int.add_comm _ _] at hO1
    refine AW.skip ?_
    refine AW.seqRegionO [.nilp, .str p] ?_
    refine s1 tok [1, 5, 6, 39] ?_ (hv := by first | with_reducible exact True.intro | ((simp; exact hp); done) | omega | simp | (simp; omega) | (simp +contextual; omega))
    refine s1 tok [1, 5, 6, 40] ?_ (hv := by first | with_reducible exact True.intro | ((simp; exact hp); done) | omega | simp | (simp; omega) | (simp +contextual; omega))
    refine s1 tok [1, 5, 6, 9] ?_
    refine AOpsO.nil ?_
    refine AW.seqRegionO [.nilp, .tup [v.enc, .int .i64 ((p.length : Int) + 4), .int .i64 0]] ?_
    refine s1 tok [1, 5, 6, 9, 42] ?_
    refine s1 tok [1, 5, 6, 9, 43] ?_ (hv := by first | with_reducible exact True.intro | (first | exact hO1 | (simp; exact hO1) | (simp; omega); done) | omega | simp | (simp; omega) | (simp +contextual; omega))
    refine s1 tok [1, 5, 6, 9, 44] ?_ (hv := by first | with_reducible exact True.intro | (first | exact hO1 | (simp; exact hO1) | (simp; omega); done) | omega | simp | (simp; omega) | (simp +contextual; omega))
    refine s1 tok [1, 5, 6, 9, 45] ?_ (hv := by first | with_reducible exact True.intro | (first | exact hO1 | (simp; exact hO1) | (simp; omega); done) | omega | simp | (simp; omega) | (simp +contextual; omega))
    refine s1 tok [1, 5, 6, 9, 41] ?_
    refine s1 tok [1, 5, 6, 9, 41, 46] ?_
    refine s1 tok [1, 5, 6, 9, 41, 46, 47] ?_
    refine s1 tok [1, 5, 6, 9, 46, 47, 48] ?_
    refine s1 tok [1, 5, 6, 9, 10, 46, 47, 48] ?_
    refine s1 tok [1, 5, 6, 9, 10, 47, 48] ?_ (hv := by first | with_reducible exact True.intro | (first | exact hO1 | (simp; exact hO1) | (simp; omega); done) | omega | simp | (simp; omega) | (simp +contextual; omega))
    refine s1 tok [1, 5, 6, 9, 10, 11, 48] ?_
    refine s1 tok [1, 5, 6, 9, 10, 11, 12] ?_
    refine AOpsO.nil ?_
    refine AW.seqRegionO [.nilp, .tup [w.enc, .int .i64 (2 * (p.length : Int) + 5), .int .i64 0]] ?_
    refine s1 tok [1, 5, 6, 9, 10, 11, 12, 50] ?_
    refine s1 tok [1, 5, 6, 9, 10, 11, 12, 51] ?_ (hv := by first | with_reducible exact True.intro | (first | exact hO2 | (simp; exact hO2) | (simp; omega); done) | omega | simp | (simp; omega) | (simp +contextual; omega))
    refine s1 tok [1, 5, 6, 9, 10, 11, 12, 52] ?_ (hv := by first | with_reducible exact True.intro | (first | exact hO2 | (simp; exact hO2) | (simp; omega); done) | omega | simp | (simp; omega) | (simp +contextual; omega))
    refine s1 tok [1, 5, 6, 9, 10, 11, 12, 52, 53] ?_
    refine s1 tok [1, 5, 6, 9, 10, 11, 12, 54] ?_ (hv := by first | with_reducible exact True.intro | (first | exact hO2 | (simp; exact hO2) | (simp; omega); done) | omega | simp | (simp; omega) | (simp +contextual; omega))
    refine s1 tok [1, 5, 6, 9, 10, 11, 12, 55] ?_ (hv := by first | with_reducible exact True.intro | (first | exact hO2 | (simp; exact hO2) | (simp; omega); done) | omega | simp | (simp; omega) | (simp +contextual; omega))
    refine s1 tok [1, 5, 6, 9, 10, 11, 12, 56] ?_ (hv := by first | with_reducible exact True.intro | (first | exact hO2 | (simp; exact hO2) | (simp; omega); done) | omega | simp | (simp; omega) | (simp +contextual; omega))
    refine s1 tok [1, 5, 6, 9, 10, 11, 12, 49] ?_
    refine s1 tok [1, 5, 6, 9, 10, 11, 12, 49, 57] ?_
    refine s1 tok [1, 5, 6, 9, 10, 11, 12, 49, 57, 58] ?_
    refine s1 tok [1, 5, 6, 9, 10, 11, 12, 57, 58, 59] ?_
    refine s1 tok [1, 5, 6, 9, 10, 11, 12, 13, 57, 58, 59] ?_
    refine s1 tok [1, 5, 6, 9, 10, 11, 12, 13, 58, 59] ?_ (hv := by first | with_reducible exact True.intro | (first | exact hO2 | (simp; exact hO2) | (simp; omega); done) | omega | simp | (simp; omega) | (simp +contextual; omega))
    refine s1 tok [1, 5, 6, 9, 10, 11, 12, 13, 14, 59] ?_
    refine s1 tok [1, 5, 6, 9, 10, 11, 12, 13, 14, 15] ?_
    refine AOpsO.nil ?_
    refine AW.seqRegionO [.nilp, .bool true] ?_
    refine s1 tok [1, 5, 6, 9, 11, 12, 13, 14, 15, 60] ?_ (hv := by first | with_reducible exact True.intro | ((simp; exact hSa); done) | omega | simp | (simp; omega) | (simp +contextual; omega))
    refine s1 tok [1, 5, 6, 9, 11, 12, 13, 14, 15, 60, 61] ?_ (hv := by first | with_reducible exact True.intro | ((simp; exact hSa); done) | omega | simp | (simp; omega) | (simp +contextual; omega))
    refine s1 tok [1, 5, 6, 9, 11, 12, 13, 14, 15, 62] ?_ (hv := by first | with_reducible exact True.intro | ((simp; exact hSa); done) | omega | simp | (simp; omega) | (simp +contextual; omega))
    refine s1 tok [1, 5, 6, 9, 11, 12, 13, 14, 15, 16] ?_
    refine AOpsO.nil ?_
    refine AW.seq ?_
    refine AW.seqRegionO [] ?_
    refine s1 tok [1, 5, 6, 9, 11, 12, 13, 14, 15, 63] ?_ (h := by intro C; conv => lhs; simp [hwk])
    refine s1 tok [1, 5, 6, 9, 11, 12, 13, 14, 15, 64] ?_ (h := by intro C; conv => lhs; simp [hwk])
    refine s1 tok [1, 5, 6, 9, 11, 12, 13, 14, 15, 65] ?_ (h := by intro C; conv => lhs; simp [hwk])
    refine s2 tok [1, 5, 6, 9, 11, 13, 14, 15, 65, 66] 65 rfl rfl ?_ (h := by intro C; conv => lhs; simp [hwk])
    refine s2 tok [1, 5, 6, 9, 11, 13, 14, 15, 65, 67] 65 rfl rfl ?_ (h := by intro C; conv => lhs; simp [hwk])
    refine s1 tok [1, 5, 6, 9, 11, 13, 14, 15, 68] ?_ (h := by intro C; conv => lhs; simp [hwk])
    refine s1 tok [1, 5, 6, 9, 11, 13, 14, 15, 69] ?_ (h := by intro C; conv => lhs; simp [hwk])
    refine s2 tok [1, 5, 6, 9, 13, 14, 15, 69, 70] 69 rfl rfl ?_ (h := by intro C; conv => lhs; simp [hwk])
    refine s2 tok [1, 5, 6, 9, 13, 14, 15, 69, 70, 71] 69 rfl rfl ?_ (h := by intro C; conv => lhs; simp [hwk])
    refine s2 tok [1, 5, 6, 9, 13, 14, 15, 69, 70, 72] 69 rfl rfl ?_ (h := by intro C; conv => lhs; simp [hwk])
    refine s2 tok [1, 5, 6, 9, 13, 14, 15, 69, 70, 73] 69 rfl rfl ?_ (h := by intro C; conv => lhs; simp [hwk])
    refine s2 tok [1, 5, 6, 9, 13, 14, 15, 69, 74] 69 rfl rfl ?_ (h := by intro C; conv => lhs; simp [hwk])
    refine s1 tok [1, 5, 6, 9, 13, 14, 15, 75] ?_ (h := by intro C; conv => lhs; simp [hwk])
    refine s1 tok [1, 5, 6, 9, 13, 14, 15, 76] ?_ (h := by intro C; conv => lhs; simp [hwk])
    refine s2 tok [1, 5, 6, 9, 13, 14, 76, 77] 76 rfl rfl ?_ (h := by intro C; conv => lhs; simp [hwk])
    refine s2 tok [1, 5, 6, 9, 13, 14, 76, 78] 76 rfl rfl ?_ (h := by intro C; conv => lhs; simp [hwk])
    refine s1 tok [1, 5, 6, 9, 13, 14, 79] ?_ (h := by intro C; conv => lhs; simp [hwk])
    refine s1 tok [1, 5, 6, 9, 13, 14, 80] ?_ (h := by intro C; conv => lhs; simp [hwk])
    refine s2 tok [1, 5, 6, 9, 13, 80, 81] 80 rfl rfl ?_ (h := by intro C; conv => lhs; simp [hwk])
    refine s2 tok [1, 5, 6, 9, 13, 80, 81, 82] 80 rfl rfl ?_ (h := by intro C; conv => lhs; simp [hwk])
    refine s2 tok [1, 5, 6, 9, 13, 80, 81, 83] 80 rfl rfl ?_ (h := by intro C; conv => lhs; simp [hwk])
    refine s2 tok [1, 5, 6, 9, 13, 80, 81, 84] 80 rfl rfl ?_ (h := by intro C; conv => lhs; simp [hwk])
    refine s2 tok [1, 5, 6, 9, 13, 80, 81, 85] 80 rfl rfl ?_ (h := by intro C; conv => lhs; simp [hwk])
    refine s2 tok [1, 5, 6, 9, 13, 80, 86] 80 rfl rfl ?_ (h := by intro C; conv => lhs; simp [hwk])
    refine s1 tok [1, 5, 6, 9, 13, 87] ?_ (h := by intro C; conv => lhs; simp [hwk])
    refine s1 tok [1, 5, 6, 9, 13, 88] ?_ (h := by intro C; conv => lhs; simp [hwk])
    refine s2 tok [1, 5, 6, 9, 13, 88, 89] 88 rfl rfl ?_ (h := by intro C; conv => lhs; simp [hwk])
    refine s2 tok [1, 5, 6, 9, 13, 88, 90] 88 rfl rfl ?_ (h := by intro C; conv => lhs; simp [hwk])
    refine s2 tok [1, 5, 6, 9, 13, 88, 91] 88 rfl rfl ?_ (h := by intro C; conv => lhs; simp [hwk])
    refine s2 tok [1, 5, 6, 9, 13, 88, 92] 88 rfl rfl ?_ (h := by intro C; conv => lhs; simp [hwk])
    refine s1 tok [1, 5, 6, 9, 13, 93] ?_ (h := by intro C; conv => lhs; simp [hwk])
    refine AOpsO.nil ?_
    refine AW.cond (c := .tmp 93) (by conv => lhs; simp) trivial ?_ ?_
    · intro h93
      try simp at h93
    · intro h93
      try simp at h93
      refine AW.skip ?_
      refine AW.seqRunDrawK tok mixed [1, 5, 6, 9, 13, 17] 6 [[13], [94], [95], [96], [6], [97, 98]] [v.enc, .nilp, .bool true] [] (by kernel_rfl) (by intro C; conv => lhs; simp) (by (simp [hwk]; exact hSa)) (by simp [Sm.sum, Sm.foot, Sm.tch, Sm.refs]; kernel_rfl) (by intro C; conv => lhs; simp) (by first | with_reducible exact True.intro | omega | simp | (simp; omega) | (simp +contextual; omega)) ?_
      refine AW.seqRunDrawK tok mixed [1, 5, 6, 9, 17, 18] 6 [[13], [100], [101], [102], [6], [103, 104]] [v.enc, .nilp, .bool true] [] (by kernel_rfl) (by intro C; conv => lhs; simp) (by (simp [hwk]; exact hSa)) (by simp [Sm.sum, Sm.foot, Sm.tch, Sm.refs]; kernel_rfl) (by intro C; conv => lhs; simp) (by first | with_reducible exact True.intro | omega | simp | (simp; omega) | (simp +contextual; omega)) ?_
      refine AW.seqRegionO [] ?_
      refine s1 tok [1, 5, 6, 9, 17, 18, 106] ?_
      refine s1 tok [1, 5, 6, 9, 17, 18, 107] ?_
      refine s1 tok [1, 5, 6, 9, 17, 18, 108] ?_
      refine s1 tok [1, 5, 6, 9, 17, 18, 109] ?_
      refine s2 tok [1, 5, 6, 9, 17, 18, 109, 110] 109 rfl rfl ?_
      refine s2 tok [1, 5, 6, 9, 17, 18, 109, 111] 109 rfl rfl ?_
      refine s2 tok [1, 5, 6, 9, 17, 18, 109, 112] 109 rfl rfl ?_
      refine s1 tok [1, 5, 6, 9, 17, 18, 113] ?_
      refine s1 tok [1, 5, 6, 9, 17, 18, 114] ?_
      refine s2 tok [1, 5, 9, 17, 18, 114, 115] 114 rfl rfl ?_
      refine s2 tok [1, 5, 9, 17, 18, 114, 116] 114 rfl rfl ?_
      refine s2 tok [1, 5, 9, 17, 18, 114, 117] 114 rfl rfl ?_
      refine s1 tok [1, 5, 9, 17, 18, 118] ?_
      refine s1 tok [1, 5, 9, 17, 18, 19] ?_
      refine AOpsO.nil ?_
      refine AW.join (α := Unit) (fun _ => True) (fun a => ⟨upds 151 [(5, .p (.bool true)), (17, .p (.bool true)), (18, .p (.bool true))], [], [], 0⟩) ?_ ?_
      ·
        refine AW.seqRegionO [] ?_
        refine s1 tok [1, 5, 9, 17, 18, 119] ?_
        refine s1 tok [1, 5, 9, 17, 18, 120] ?_
        refine s2 tok [1, 5, 9, 17, 18, 120, 121] 120 rfl rfl ?_
        refine s2 tok [1, 5, 9, 17, 18, 120, 122] 120 rfl rfl ?_
        refine s1 tok [1, 5, 9, 17, 18, 123] ?_
        refine s1 tok [1, 5, 9, 17, 18, 124] ?_
        refine s2 tok [1, 5, 9, 17, 18, 124, 125] 124 rfl rfl ?_
        refine s2 tok [1, 5, 9, 17, 18, 124, 125, 126] 124 rfl rfl ?_
        refine s2 tok [1, 5, 9, 17, 18, 124, 125, 127] 124 rfl rfl ?_
        refine s2 tok [1, 5, 9, 17, 18, 124, 128] 124 rfl rfl ?_
        refine s1 tok [1, 5, 9, 17, 18, 129] ?_
        refine AOpsO.nil ?_
        refine AW.cond (c := .tmp 129) (by conv => lhs; simp) trivial ?_ ?_
        · intro h129
          try simp at h129
          have hcut := e3 (by omega) at'.toNat (by omega)
          have hO3k := hO3 at'.toNat
          rw [hcut] at hO3k
          simp [zeroV, dc0] at hO3k
          refine AW.seqRegionO [.nilp, .tup [zeroV.enc, .int .i64 0, .int .i64 10]] ?_
          refine s1 tok [1, 5, 17, 18, 131] ?_
          refine s1 tok [5, 17, 18, 131, 132] ?_
          refine s1 tok [5, 17, 18, 133] ?_ (hv := by first | with_reducible exact True.intro | (first | exact hO3k | (simp [zeroV, dc0]; exact hO3k) | omega; done) | omega | simp | (simp; omega) | (simp +contextual; omega))
          refine s1 tok [5, 17, 18, 134] ?_ (hv := by first | with_reducible exact True.intro | (first | exact hO3k | (simp [zeroV, dc0]; exact hO3k) | omega; done) | omega | simp | (simp; omega) | (simp +contextual; omega))
          refine s1 tok [5, 17, 18, 130] ?_
          refine s1 tok [5, 17, 18, 130, 135] ?_
          refine s1 tok [5, 17, 18, 130, 135, 136] ?_
          refine s1 tok [5, 17, 18, 135, 136, 137] ?_
          refine s1 tok [5, 17, 18, 20, 135, 136, 137] ?_
          refine s1 tok [5, 17, 18, 136, 137] ?_ (hv := by first | with_reducible exact True.intro | (first | exact hO3k | (simp [zeroV, dc0]; exact hO3k) | omega; done) | omega | simp | (simp; omega) | (simp +contextual; omega))
          refine s1 tok [5, 17, 18, 21, 137] ?_
          refine s1 tok [5, 17, 18, 21, 22] ?_
          refine AOpsO.nil ?_
          refine AW.seqRegionO [] ?_
          refine s1 tok [5, 17, 18, 21, 138] ?_
          refine s1 tok [5, 17, 18, 21, 139] ?_
          refine s1 tok [5, 17, 18, 21, 140] ?_
          refine s2 tok [5, 17, 18, 140, 141] 140 rfl rfl ?_
          refine s2 tok [5, 17, 18, 140, 142] 140 rfl rfl ?_
          refine s1 tok [5, 17, 18, 143] ?_
          refine AOpsO.nil ?_
          refine AW.cond (c := .tmp 143) (by conv => lhs; simp) trivial ?_ ?_
          · intro h143
            try simp at h143
          · intro h143
            try simp at h143
            refine AW.skip ?_
            exact ⟨(), trivial, upds_le (by simp), rfl, by simp, by simp⟩
        · intro h129
          try simp at h129
          refine AW.skip ?_
          exact ⟨(), trivial, upds_le (by simp), rfl, by simp, by simp⟩
      ·
        rintro a hI
        refine AW.seqRegionO [] ?_
        refine s1 tok [17, 18, 144] ?_
        refine s1 tok [17, 18, 145] ?_
        refine s2 tok [18, 145, 146] 145 rfl rfl ?_
        refine s1 tok [18, 147] ?_
        refine s1 tok [18, 148] ?_
        refine s2 tok [148, 149] 148 rfl rfl ?_
        refine s1 tok [150] ?_
        refine s1 tok [4] ?_
        refine AOpsO.nil ?_
        exact AW.ret ⟨.inr rfl, _, _, by (conv => lhs; simp), trivial, by simp⟩
end Go.Proofs.YtdlejiiiifhiiaaGreatDoor
