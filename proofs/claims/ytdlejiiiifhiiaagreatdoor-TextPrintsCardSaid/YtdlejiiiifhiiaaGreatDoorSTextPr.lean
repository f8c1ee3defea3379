import Derived.Test.YtdlejiiiifhiiaaGreatDoorSPois
import Derived.Test.YtdlejiiiifhiiaaGreatDoorSPrint5
import Derived.Test.YtdlejiiiifhiiaaGreatDoorSItoa
import Derived.Test.YtdlejiiiifhiiaaGreatDoorSShown5
import Derived.Test.YtdlejiiiifhiiaaGreatDoorSBuiltL
import Derived.Test.YtdlejiiiifhiiaaGreatDoorSRefSB
import Derived.Test.YtdlejiiiifhiiaaGreatDoorSBareL
namespace Go.Proofs.YtdlejiiiifhiiaaGreatDoor
open Sy Go
set_option maxRecDepth 100000
set_option maxHeartbeats 4000000
set_option linter.unusedSimpArgs false
set_option linter.unusedVariables false
variable {G : Glob}
theorem built_code (l : List Item) : codeAll 40 (builtM l) := by
  have := built_key (P := fun a => ∀ v ∈ a, codeAll 40 v) (Q := fun _ => True) (by simp) (fun a x hx ha v hv => by
    unfold itemM at hv
    rcases List.mem_append.1 hv with hv | hv
    · unfold itemRest at hv; split at hv
      · exact ha v (List.mem_of_mem_take hv)
      · exact ha v hv
    · simp at hv; rw [hv, codeAll_iff]
      refine ⟨fun h => ?_, fun k hk => ha k (itemKids_mem hk)⟩
      have h7 : low3 x.kind = 7 := by
        have : ((low3 x.kind : Int) + 1) = 8 := h
        omega
      show (if low3 x.kind = 7 then (40 : Int) else 0) = 40
      rw [if_pos h7]) l (fun _ _ => trivial)
  unfold builtM
  rw [List.getLastD_eq_getLast?]
  cases hx : (aloneM l).getLast? with
  | none => show codeAll 40 nullV; rw [codeAll_iff]; exact ⟨fun h => absurd h (by decide), fun k hk => by cases hk⟩
  | some v => exact this v (List.mem_of_getLast? hx)
theorem TextPrints_ev (hG : U8 G) (l : List Item) (s : List UInt8) (hl : ∀ x ∈ l, x.keys.length ≤ 140737488351232) (hs : s.length ≤ 140737488351232) : AFn Tryz.prog G 3 [.sl 6 (l.map Item.enc), .str s] (.bool true) := by
  refine AFn.introU tok Tryz.func3 (by kernel_rfl) rfl rfl ?_
  simp only [Tryz.f3, enumA, List.map_cons, List.map_nil]
  have hsh := shown5_ev hG
  have hB := Built_ev (G := G) l hl
  have hm := built_may l
  have hsz := built_sz l
  have hc := built_code l
  generalize builtM l = v at *
  have hI := fun (_ : poiV v = true) => Itoa_ok (G := G) 40 (by decide) (by decide)
  have hp := print_all v (prn_code v hm (by omega) hc hI)
  have hp5 := print5_all v hm (by omega) hc hI
  have hpl := print_len v hm
  have hS := refSize_ev (G := G) v (by omega)
  have hP := pois_ev (G := G) v (by omega)
  have hBa := refBare_ev (G := G) v hm
  obtain ⟨s', hs'⟩ : ∃ s', s' = (if 50 < s.length then s.take 50 else s) := ⟨_, rfl⟩
  have hl' : s'.length ≤ 50 := by rw [hs']; split; exact (by simp; omega); omega
  have hr : ∀ b, (32 :: s').head? = some b → numl b = false := by intro b hb; simp at hb; subst hb; rfl
  have hO := one_ev hG ([] ++ (printT v ++ 32 :: s')) (by simp; omega)
  have hd := dep_le_sz v
  have e10 : poiV v = true → oneM ([] ++ (printT v ++ 32 :: s')) = (zeroV, 0, 10) := fun h => one_poi hm h rfl
  have e11 : poiV v = false → 12 < depV v → oneM ([] ++ (printT v ++ 32 :: s')) = (zeroV, 0, 11) := fun h hd => one_deep hm h hd rfl hr
  have e0 : poiV v = false → depV v ≤ 12 → oneM ([] ++ (printT v ++ 32 :: s')) = (bareV v, ((([] : List UInt8).length + (printT v).length : Nat) : Int), 0) := fun h hd => one_back hm h hd (by omega) rfl hr
  rw [List.nil_append] at hO e10 e11 e0
  generalize oneM (printT v ++ 32 :: s') = o at *
  obtain ⟨ov, on, oe⟩ := o
  generalize printT v = p at *
  simp at hB hp hp5 hS hP hBa hO e10 e11 e0
  refine AW.seqRegionO [] ?_
  refine s1 tok [0, 1] ?_
  refine AOpsO.nil ?_
  refine AW.seqRegionO [.nilp, .bool true] ?_
  refine s1 tok [0, 1, 15] ?_ (hv := by first | with_reducible exact True.intro | (exact hsh; done) | omega | simp | (simp; omega) | (simp +contextual; omega))
  refine s1 tok [0, 1, 5] ?_
  refine AOpsO.nil ?_
  refine AW.seqRegionO [.nilp, v.enc] ?_
  refine s1 tok [1, 5, 16] ?_
  refine s1 tok [1, 5, 17] ?_ (hv := by first | with_reducible exact True.intro | ((simp; exact hB); done) | omega | simp | (simp; omega) | (simp +contextual; omega))
  refine s1 tok [1, 5, 6, 17] ?_
  refine s1 tok [1, 5, 6] ?_ (hv := by first | with_reducible exact True.intro | ((simp; exact hB); done) | omega | simp | (simp; omega) | (simp +contextual; omega))
  refine AOpsO.nil ?_
  refine AW.seqRegionO [.nilp, .str p] ?_
  refine s1 tok [1, 5, 6, 18] ?_ (hv := by first | with_reducible exact True.intro | ((simp; exact hp); done) | omega | simp | (simp; omega) | (simp +contextual; omega))
  refine s1 tok [1, 5, 6, 19] ?_ (hv := by first | with_reducible exact True.intro | ((simp; exact hp); done) | omega | simp | (simp; omega) | (simp +contextual; omega))
  refine s1 tok [1, 5, 6, 7] ?_
  refine AOpsO.nil ?_
  refine AW.join (α := Unit) (fun _ => True) (fun a => ⟨upds 84 [(1, .p (.str s')), (5, .p (.bool true)), (6, .ptr 6 0), (7, .p (.str p))], [], [(6, .vars 31 v.cells)], 0⟩) ?_ ?_
  ·
    refine AW.seqRegionO [] ?_
    refine s1 tok [1, 5, 6, 7, 20] ?_
    refine s1 tok [1, 5, 6, 7, 21] ?_
    refine s1 tok [1, 5, 6, 7, 22] ?_
    refine AOpsO.nil ?_
    refine AW.cond (c := .tmp 22) (by conv => lhs; simp) trivial ?_ ?_
    · intro h22
      try simp at h22
      refine AW.regionO [] ?_
      refine s1 tok [5, 6, 7, 23] ?_
      refine s1 tok [5, 6, 7, 24] ?_
      refine s1 tok [1, 5, 6, 7] ?_
      refine AOpsO.nil ?_
      exact ⟨(), trivial, upds_le (by simp [show s' = s.take 50 from by rw [hs', if_pos (by omega)]]), rfl, by simp [show s' = s.take 50 from by rw [hs', if_pos (by omega)]], by simp [show s' = s.take 50 from by rw [hs', if_pos (by omega)]]⟩
    · intro h22
      try simp at h22
      refine AW.skip ?_
      exact ⟨(), trivial, upds_le (by simp [show s' = s from by rw [hs', if_neg (by omega)]]), rfl, by simp [show s' = s from by rw [hs', if_neg (by omega)]], by simp [show s' = s from by rw [hs', if_neg (by omega)]]⟩
  ·
    rintro a hI
    refine AW.seqRegionO [.nilp, .tup [ov.enc, .int .i64 on, .int .i64 oe]] ?_
    refine s1 tok [1, 5, 6, 7, 26] ?_
    refine s1 tok [1, 5, 6, 7, 27] ?_ (hv := by first | with_reducible exact True.intro | (first | exact hO | (simp; exact hO) | (simp; omega); done) | omega | simp | (simp; omega) | (simp +contextual; omega))
    refine s1 tok [5, 6, 7, 27, 28] ?_
    refine s1 tok [5, 6, 7, 29] ?_ (hv := by first | with_reducible exact True.intro | (first | exact hO | (simp; exact hO) | (simp; omega); done) | omega | simp | (simp; omega) | (simp +contextual; omega))
    refine s1 tok [5, 6, 7, 30] ?_ (hv := by first | with_reducible exact True.intro | (first | exact hO | (simp; exact hO) | (simp; omega); done) | omega | simp | (simp; omega) | (simp +contextual; omega))
    refine s1 tok [5, 6, 7, 25] ?_
    refine s1 tok [5, 6, 7, 25, 31] ?_
    refine s1 tok [5, 6, 7, 25, 31, 32] ?_
    refine s1 tok [5, 6, 7, 31, 32, 33] ?_
    refine s1 tok [5, 6, 7, 8, 31, 32, 33] ?_
    refine s1 tok [5, 6, 7, 8, 32, 33] ?_ (hv := by first | with_reducible exact True.intro | (first | exact hO | (simp; exact hO) | (simp; omega); done) | omega | simp | (simp; omega) | (simp +contextual; omega))
    refine s1 tok [5, 6, 7, 8, 9, 33] ?_
    refine s1 tok [5, 6, 7, 8, 9, 10] ?_
    refine AOpsO.nil ?_
    refine AW.seqRegionO [.nilp, .tup [.int .i64 (Val.sz v), .int .i64 (depV v)]] ?_
    refine s1 tok [5, 6, 7, 8, 9, 10, 35] ?_ (hv := by first | with_reducible exact True.intro | ((simp; exact hS); done) | omega | simp | (simp; omega) | (simp +contextual; omega))
    refine s1 tok [5, 6, 7, 8, 9, 10, 36] ?_ (hv := by first | with_reducible exact True.intro | ((simp; exact hS); done) | omega | simp | (simp; omega) | (simp +contextual; omega))
    refine s1 tok [5, 6, 7, 8, 9, 10, 34] ?_
    refine s1 tok [5, 6, 7, 8, 9, 10, 34, 37] ?_
    refine s1 tok [5, 6, 7, 8, 9, 10, 37, 38] ?_
    refine s1 tok [5, 6, 7, 8, 9, 10, 38] ?_
    refine s1 tok [5, 6, 7, 8, 9, 10, 12] ?_
    refine AOpsO.nil ?_
    refine AW.seqRegionO [.nilp, .str p] ?_
    refine s1 tok [5, 6, 7, 8, 9, 10, 12, 39] ?_
    refine s1 tok [5, 6, 7, 8, 9, 10, 12, 39, 40] ?_ (hv := by first | with_reducible exact True.intro | ((simp; exact hp5); done) | omega | simp | (simp; omega) | (simp +contextual; omega))
    refine s1 tok [5, 6, 7, 8, 9, 10, 12, 39, 41] ?_ (hv := by first | with_reducible exact True.intro | ((simp; exact hp5); done) | omega | simp | (simp; omega) | (simp +contextual; omega))
    refine s1 tok [5, 6, 7, 8, 9, 10, 12, 42] ?_ (hv := by first | with_reducible exact True.intro | ((simp; exact hp5); done) | omega | simp | (simp; omega) | (simp +contextual; omega))
    refine s1 tok [5, 6, 7, 8, 9, 10, 12, 13] ?_
    refine AOpsO.nil ?_
    refine AW.seq ?_
    refine AW.seqRegionO [.nilp, .bool (poiV v)] ?_
    refine s1 tok [5, 6, 7, 8, 9, 10, 12, 13, 43] ?_ (hv := by first | with_reducible exact True.intro | ((simp; exact hP); done) | omega | simp | (simp; omega) | (simp +contextual; omega))
    refine s1 tok [5, 6, 7, 8, 9, 10, 12, 13, 44] ?_ (hv := by first | with_reducible exact True.intro | ((simp; exact hP); done) | omega | simp | (simp; omega) | (simp +contextual; omega))
    refine AOpsO.nil ?_
    refine AW.cond (c := .tmp 44) (by conv => lhs; simp) trivial ?_ ?_
    · intro h44
      try simp at h44
      obtain ⟨rfl, rfl, rfl⟩ := e10 h44
      refine AW.seqRegionO [] ?_
      refine s1 tok [10, 13, 45] ?_
      refine s1 tok [10, 13, 46] ?_
      refine s2 tok [10, 46, 47] 46 rfl rfl ?_
      refine s1 tok [10, 48] ?_
      refine s1 tok [10, 49] ?_
      refine s2 tok [49, 50] 49 rfl rfl ?_
      refine s2 tok [49, 51] 49 rfl rfl ?_
      refine s1 tok [52] ?_
      refine s1 tok [4] ?_
      refine AOpsO.nil ?_
      exact AW.ret ⟨.inr rfl, _, _, by (conv => lhs; simp), trivial, by simp⟩
    · intro h44
      try simp at h44
      refine AW.skip ?_
      refine AW.seq ?_
      refine AW.seqRegionO [] ?_
      refine s1 tok [5, 6, 7, 8, 9, 10, 13, 53] ?_
      refine s1 tok [5, 6, 7, 8, 9, 10, 13, 54] ?_
      refine AOpsO.nil ?_
      refine AW.cond (c := .tmp 54) (by conv => lhs; simp) trivial ?_ ?_
      · intro h54
        try simp at h54
        obtain ⟨rfl, rfl, rfl⟩ := e11 h44 (by omega)
        refine AW.seqRegionO [] ?_
        refine s1 tok [10, 13, 55] ?_
        refine s1 tok [10, 13, 56] ?_
        refine s2 tok [10, 56, 57] 56 rfl rfl ?_
        refine s1 tok [10, 58] ?_
        refine s1 tok [10, 59] ?_
        refine s2 tok [59, 60] 59 rfl rfl ?_
        refine s2 tok [59, 61] 59 rfl rfl ?_
        refine s1 tok [62] ?_
        refine s1 tok [4] ?_
        refine AOpsO.nil ?_
        exact AW.ret ⟨.inr rfl, _, _, by (conv => lhs; simp), trivial, by simp⟩
      · intro h54
        try simp at h54
        obtain ⟨rfl, rfl, rfl⟩ := e0 h44 (by omega)
        have hSa := refSame_sz (G := G) (bareV v) (by rw [bare_sz]; omega) (bareV v)
        rw [(sameT_iff _ _).2 rfl] at hSa
        simp at hSa
        refine AW.skip ?_
        refine AW.seqRunDrawK tok mixed [5, 7, 9, 10, 13, 14] 4 [[8], [6], [64], [63, 65]] [.nilp, (bareV v).enc, .nilp, .bool true] [] (by kernel_rfl) (by intro C; conv => lhs; simp) (by exact ⟨hBa, hSa⟩) (by simp [Sm.sum, Sm.foot, Sm.tch, Sm.refs]; kernel_rfl) (by intro C; conv => lhs; simp) (by first | with_reducible exact True.intro | omega | simp | (simp; omega) | (simp +contextual; omega)) ?_
        refine AW.seqRegionO [] ?_
        refine s1 tok [7, 9, 10, 13, 14, 67] ?_
        refine s1 tok [7, 9, 10, 13, 14, 68] ?_
        refine s2 tok [7, 9, 10, 14, 68, 69] 68 rfl rfl ?_
        refine s1 tok [7, 9, 10, 14, 70] ?_
        refine s1 tok [7, 9, 10, 14, 71] ?_
        refine s2 tok [7, 9, 14, 71, 72] 71 rfl rfl ?_
        refine s2 tok [7, 9, 14, 71, 73] 71 rfl rfl ?_
        refine s1 tok [7, 9, 14, 74] ?_
        refine s1 tok [7, 9, 14, 75] ?_
        refine s2 tok [7, 14, 75, 76] 75 rfl rfl ?_
        refine s2 tok [14, 75, 76, 77] 75 rfl rfl ?_
        refine s2 tok [14, 75, 76, 78] 75 rfl rfl ?_
        refine s2 tok [14, 75, 79] 75 rfl rfl ?_
        refine s1 tok [14, 80] ?_
        refine s1 tok [14, 81] ?_
        refine s2 tok [81, 82] 81 rfl rfl ?_
        refine s1 tok [83] ?_
        refine s1 tok [4] ?_
        refine AOpsO.nil ?_
        exact AW.ret ⟨.inr rfl, _, _, by (conv => lhs; simp), trivial, by simp⟩
end Go.Proofs.YtdlejiiiifhiiaaGreatDoor
