import Derived.Test.YtgoepemmcibdaaaGreatDoorSRefDecLaw
import Derived.Test.YtgoepemmcibdaaaGreatDoorM3
namespace Go.Proofs.YtgoepemmcibdaaaGreatDoor
open Sy Go
set_option maxRecDepth 100000
set_option maxHeartbeats 4000000
set_option linter.unusedSimpArgs false
set_option linter.unusedVariables false
variable {G : Glob}
theorem refAlign_ev (a b : Dc) (ha : okD a) (hb : okD b) : AFn Tryz.prog G 85 [a.enc, b.enc] (.tup [.str (alX (padX a b) (padY a b)), .str (alY (padX a b) (padY a b)), .int .i64 (maxS a b)]) := by
  refine AFn.introU tok Tryz.func85 (by kernel_rfl) rfl rfl ?_
  simp only [Tryz.f85, enumA, List.map_cons, List.map_nil]
  obtain ⟨a1, a2, a3, a4⟩ := ha
  obtain ⟨b1, b2, b3, b4⟩ := hb
  have hm : 0 ≤ maxS a b ∧ maxS a b ≤ 1000 := by unfold maxS; split <;> omega
  have hz1 := zeros_ev (G := G) (maxS a b - a.scale) (by omega)
  have hz2 := zeros_ev (G := G) (maxS a b - b.scale) (by omega)
  have hl1 : (padX a b).length ≤ 2000 := by unfold padX zerosM; simp; omega
  have hl2 : (padY a b).length ≤ 2000 := by unfold padY zerosM; simp; omega
  have f1 : (if a.scale < b.scale then b.scale else a.scale) = maxS a b := rfl
  have f2 : a.digits ++ zerosM (maxS a b - a.scale).toNat = padX a b := rfl
  have f3 : b.digits ++ zerosM (maxS a b - b.scale).toNat = padY a b := rfl
  generalize hnn : (if (padX a b).length < (padY a b).length then ((padY a b).length : Int) else ((padX a b).length : Int)) = n
  have hn1 : 0 ≤ n ∧ n ≤ 2000 := by rw [← hnn]; split <;> omega
  have hz3 := zeros_ev (G := G) (n - (padX a b).length) (by omega)
  have hz4 := zeros_ev (G := G) (n - (padY a b).length) (by omega)
  have e1 : alX (padX a b) (padY a b) = zerosM (n - (padX a b).length).toNat ++ padX a b := by unfold alX; rw [hnn]
  have e2 : alY (padX a b) (padY a b) = zerosM (n - (padY a b).length).toNat ++ padY a b := by unfold alY; rw [hnn]
  rw [e1, e2]
  have g1 : (zerosM (maxS a b - a.scale).toNat).length ≤ 1000 := by unfold zerosM; simp; omega
  have g2 : (zerosM (maxS a b - b.scale).toNat).length ≤ 1000 := by unfold zerosM; simp; omega
  have g3 : (zerosM (n - (padX a b).length).toNat).length ≤ 2000 := by unfold zerosM; simp; omega
  have g4 : (zerosM (n - (padY a b).length).toNat).length ≤ 2000 := by unfold zerosM; simp; omega
  generalize zerosM (n - (padX a b).length).toNat = Z3 at *
  generalize zerosM (n - (padY a b).length).toNat = Z4 at *
  have hmx : a.scale ≤ maxS a b ∧ b.scale ≤ maxS a b := by unfold maxS; split <;> omega
  refine AW.seqRegionO [] ?_
  refine s1 tok [1, 2] ?_
  refine s1 tok [2, 3] ?_
  refine s1 tok [2, 3] ?_
  refine s1 tok [2, 3] ?_
  refine s1 tok [2, 3] ?_
  refine AOpsO.nil ?_
  refine AW.seqRegionO [] ?_
  refine s1 tok [2, 3, 11] ?_ (h := by intro C; conv => lhs; simp [f1])
  refine s1 tok [2, 3, 12] ?_ (h := by intro C; conv => lhs; simp [f1])
  refine s1 tok [2, 3, 12, 13] ?_ (h := by intro C; conv => lhs; simp [f1])
  refine s1 tok [2, 3, 12, 14] ?_ (h := by intro C; conv => lhs; simp [f1])
  refine s1 tok [2, 3, 15] ?_ (h := by intro C; conv => lhs; simp [f1])
  refine s1 tok [2, 3, 7] ?_ (h := by intro C; conv => lhs; simp [f1])
  refine AOpsO.nil ?_
  refine AW.seqDrawS tok mixed 8 [[2], [16], [7], [2], [19], [18, 20], [21], [17, 22]] [.nilp, .str (zerosM (maxS a b - a.scale).toNat)] [] (by kernel_rfl) ?_
  refine d1 ?_ (h := by intro C; conv => lhs; simp [f2])
  refine d1 ?_ (h := by intro C; conv => lhs; simp [f2]) (hv := by first | with_reducible exact True.intro | (exact hz1; done) | omega | simp | (simp; omega) | (simp +contextual; omega))
  refine d1 ?_ (h := by intro C; conv => lhs; simp [f2])
  refine d1 ?_ (h := by intro C; conv => lhs; simp [f2])
  refine d1 ?_ (h := by intro C; conv => lhs; simp [f2]) (hv := by first | with_reducible exact True.intro | (exact hz1; done) | omega | simp | (simp; omega) | (simp +contextual; omega))
  refine d1 ?_ (h := by intro C; conv => lhs; simp [f2]) (hv := by first | with_reducible exact True.intro | (exact hz1; done) | omega | simp | (simp; omega) | (simp +contextual; omega))
  refine d1 ?_ (h := by intro C; conv => lhs; simp [f2]) (hv := by first | with_reducible exact True.intro | (exact hz1; done) | omega | simp | (simp; omega) | (simp +contextual; omega))
  refine d1 ?_ (h := by intro C; conv => lhs; simp [f2]) (hv := by first | with_reducible exact True.intro | (exact hz1; done) | omega | simp | (simp; omega) | (simp +contextual; omega))
  refine DGo.nil (by kernel_rfl) ⟨by kernel_rfl, ?_⟩
  refine s1 tok [3, 7, 8] ?_ (h := by intro C; conv => lhs; simp [f2])
  refine AOpsO.nil ?_
  refine AW.seqDrawS tok mixed 8 [[3], [24], [7], [3], [27], [26, 28], [29], [25, 30]] [.nilp, .str (zerosM (maxS a b - b.scale).toNat)] [] (by kernel_rfl) ?_
  refine d1 ?_ (h := by intro C; conv => lhs; simp [f3])
  refine d1 ?_ (h := by intro C; conv => lhs; simp [f3]) (hv := by first | with_reducible exact True.intro | (exact hz2; done) | omega | simp | (simp; omega) | (simp +contextual; omega))
  refine d1 ?_ (h := by intro C; conv => lhs; simp [f3])
  refine d1 ?_ (h := by intro C; conv => lhs; simp [f3])
  refine d1 ?_ (h := by intro C; conv => lhs; simp [f3]) (hv := by first | with_reducible exact True.intro | (exact hz2; done) | omega | simp | (simp; omega) | (simp +contextual; omega))
  refine d1 ?_ (h := by intro C; conv => lhs; simp [f3]) (hv := by first | with_reducible exact True.intro | (exact hz2; done) | omega | simp | (simp; omega) | (simp +contextual; omega))
  refine d1 ?_ (h := by intro C; conv => lhs; simp [f3]) (hv := by first | with_reducible exact True.intro | (exact hz2; done) | omega | simp | (simp; omega) | (simp +contextual; omega))
  refine d1 ?_ (h := by intro C; conv => lhs; simp [f3]) (hv := by first | with_reducible exact True.intro | (exact hz2; done) | omega | simp | (simp; omega) | (simp +contextual; omega))
  refine DGo.nil (by kernel_rfl) ⟨by kernel_rfl, ?_⟩
  refine s1 tok [7, 8, 9] ?_ (h := by intro C; conv => lhs; simp [f3])
  refine AOpsO.nil ?_
  refine AW.seqRegionO [] ?_
  refine s1 tok [7, 8, 9, 32] ?_ (h := by intro C; conv => lhs; simp [hnn])
  refine s1 tok [7, 8, 9, 33] ?_ (h := by intro C; conv => lhs; simp [hnn])
  refine s1 tok [7, 8, 9, 33, 34] ?_ (h := by intro C; conv => lhs; simp [hnn])
  refine s1 tok [7, 8, 9, 33, 35] ?_ (h := by intro C; conv => lhs; simp [hnn])
  refine s1 tok [7, 8, 9, 36] ?_ (h := by intro C; conv => lhs; simp [hnn])
  refine s1 tok [7, 8, 9, 10] ?_ (h := by intro C; conv => lhs; simp [hnn])
  refine AOpsO.nil ?_
  refine AW.seqRegionO [.nilp, .str Z3, .nilp, .str Z4] ?_
  refine s1 tok [7, 8, 9, 10, 37] ?_
  refine s1 tok [7, 8, 9, 10, 37, 38] ?_
  refine s1 tok [7, 8, 9, 10, 37, 39] ?_ (hv := by first | with_reducible exact True.intro | (first | exact hz3 | exact hz4; done) | omega | simp | (simp; omega) | (simp +contextual; omega))
  refine s1 tok [7, 8, 9, 10, 40] ?_ (hv := by first | with_reducible exact True.intro | (first | exact hz3 | exact hz4; done) | omega | simp | (simp; omega) | (simp +contextual; omega))
  refine s1 tok [7, 8, 9, 10, 41] ?_ (hv := by first | with_reducible exact True.intro | (first | exact hz3 | exact hz4; done) | omega | simp | (simp; omega) | (simp +contextual; omega))
  refine s1 tok [7, 9, 10, 41, 42] ?_
  refine s1 tok [7, 9, 10, 43] ?_ (hv := by first | with_reducible exact True.intro | (first | exact hz3 | exact hz4; done) | omega | simp | (simp; omega) | (simp +contextual; omega))
  refine s1 tok [7, 9, 43, 44] ?_
  refine s1 tok [7, 9, 43, 44, 45] ?_
  refine s1 tok [7, 9, 43, 44, 46] ?_ (hv := by first | with_reducible exact True.intro | (first | exact hz3 | exact hz4; done) | omega | simp | (simp; omega) | (simp +contextual; omega))
  refine s1 tok [7, 9, 43, 47] ?_ (hv := by first | with_reducible exact True.intro | (first | exact hz3 | exact hz4; done) | omega | simp | (simp; omega) | (simp +contextual; omega))
  refine s1 tok [7, 9, 43, 48] ?_ (hv := by first | with_reducible exact True.intro | (first | exact hz3 | exact hz4; done) | omega | simp | (simp; omega) | (simp +contextual; omega))
  refine s1 tok [7, 43, 48, 49] ?_
  refine s1 tok [7, 43, 50] ?_ (hv := by first | with_reducible exact True.intro | (first | exact hz3 | exact hz4; done) | omega | simp | (simp; omega) | (simp +contextual; omega))
  refine s1 tok [43, 50, 51] ?_
  refine s1 tok [4, 50, 51] ?_
  refine s1 tok [4, 5, 51] ?_
  refine s1 tok [4, 5, 6] ?_
  refine AOpsO.nil ?_
  exact AW.ret ⟨.inr rfl, _, _, by (conv => lhs; simp), trivial, by simp⟩
theorem refCmpD_ev (a b : Dc) (ha : dcMay a = true) (hb : dcMay b = true) : AFn Tryz.prog G 59 [a.enc, b.enc] (.int .i64 (cmpD a b)) := by
  refine AFn.introU tok Tryz.func59 (by kernel_rfl) rfl rfl ?_
  simp only [Tryz.f59, enumA, List.map_cons, List.map_nil]
  have hal := refAlign_ev (G := G) a b (dcMay_ok ha).1 (dcMay_ok hb).1
  have hlaw := fun h => refCmpD_law ha hb h
  have hself := fun h : a = b => (show cmpD a b = 0 by rw [← h]; exact cmpD_self ha)
  generalize alX (padX a b) (padY a b) = X at *
  generalize alY (padX a b) (padY a b) = Y at *
  generalize hls : (if a.neg = b.neg then (if a.neg = true then Op.bytesLess Y X else Op.bytesLess X Y) else a.neg) = ls at *
  generalize cmpD a b = R at *
  refine AW.seqRegionO [] ?_
  refine s1 tok [1, 2] ?_
  refine s1 tok [2, 3] ?_
  refine s1 tok [2, 3] ?_
  refine AOpsO.nil ?_
  refine AW.seq ?_
  refine AW.seqRegionO [] ?_
  refine s1 tok [2, 3, 9] ?_
  refine s1 tok [2, 3, 9, 10] ?_
  refine s1 tok [2, 3, 11] ?_
  refine AOpsO.nil ?_
  refine AW.cond (c := .tmp 11) (by conv => lhs; simp) trivial ?_ ?_
  · intro h11
    try simp at h11
    have hR : R = 0 := hself (Dc.ext' h11.1 h11.2.1 h11.2.2)
    refine AW.seqRegionO [] ?_
    refine s1 tok [4] ?_
    refine AOpsO.nil ?_
    exact AW.ret ⟨.inr rfl, _, _, by (conv => lhs; simp), trivial, by simp [hR]⟩
  · intro h11
    try simp at h11
    have hR : R = if ls = true then -1 else 1 := hlaw fun h => by subst h; simp at h11
    refine AW.skip ?_
    refine AW.seqRegionO [.nilp, .tup [.str X, .str Y, .int .i64 (maxS a b)]] ?_
    refine s1 tok [2, 3, 13] ?_ (hv := by first | with_reducible exact True.intro | ((simp at hal ⊢; exact hal); done) | omega | simp | (simp; omega) | (simp +contextual; omega))
    refine s1 tok [2, 3, 13, 14] ?_ (hv := by first | with_reducible exact True.intro | ((simp at hal ⊢; exact hal); done) | omega | simp | (simp; omega) | (simp +contextual; omega))
    refine s1 tok [2, 3, 15] ?_ (hv := by first | with_reducible exact True.intro | ((simp at hal ⊢; exact hal); done) | omega | simp | (simp; omega) | (simp +contextual; omega))
    refine s1 tok [2, 3, 12] ?_
    refine s1 tok [2, 3, 12, 16] ?_
    refine s1 tok [2, 3, 12, 16, 17] ?_
    refine s1 tok [2, 3, 16, 17, 18] ?_
    refine s1 tok [2, 3, 5, 17, 18] ?_
    refine s1 tok [2, 3, 5, 6, 18] ?_
    refine s1 tok [2, 3, 5, 6] ?_
    refine AOpsO.nil ?_
    refine AW.seqRegionO [] ?_
    refine s1 tok [2, 3, 5, 6, 19] ?_
    refine s1 tok [2, 3, 5, 6, 19, 20] ?_
    refine s1 tok [2, 3, 5, 6, 21] ?_
    refine s1 tok [2, 3, 5, 6, 8] ?_
    refine AOpsO.nil ?_
    refine AW.join (α := Unit) (fun _ => True) (fun a => ⟨upds 35 [(8, .p (.bool ls))], [], [], 0⟩) ?_ ?_
    ·
      refine AW.seqRegionO [] ?_
      refine s1 tok [2, 3, 5, 6, 8, 22] ?_
      refine s1 tok [2, 3, 5, 6, 8, 23] ?_
      refine s1 tok [2, 5, 6, 8, 23, 24] ?_
      refine s1 tok [2, 5, 6, 8, 23, 25] ?_
      refine s1 tok [2, 5, 6, 8, 26] ?_
      refine AOpsO.nil ?_
      refine AW.cond (c := .tmp 26) (by conv => lhs; simp) trivial ?_ ?_
      · intro h26
        try simp at h26
        have e8 : a.neg = ls := by rw [← hls, if_neg (by simpa using h26)]
        refine AW.regionO [] ?_
        refine s1 tok [27] ?_
        refine s1 tok [28] ?_
        refine s1 tok [8] ?_
        refine AOpsO.nil ?_
        exact ⟨(), trivial, upds_le (by simp [e8]), rfl, by simp [e8], by simp [e8]⟩
      · intro h26
        try simp at h26
        have e9 : a.neg = b.neg := by simpa using h26
        refine AW.seqRegionO [] ?_
        refine s1 tok [5, 6, 8, 29] ?_
        refine s1 tok [5, 6, 8, 30] ?_
        refine AOpsO.nil ?_
        refine AW.cond (c := .tmp 30) (by conv => lhs; simp) trivial ?_ ?_
        · intro h30
          try simp at h30
          have e8 : Op.bytesLess Y X = ls := by rw [← hls, if_pos e9, if_pos h30]
          refine AW.regionO [] ?_
          refine s1 tok [5, 31] ?_
          refine s1 tok [31, 32] ?_
          refine s1 tok [33] ?_
          refine s1 tok [8] ?_
          refine AOpsO.nil ?_
          exact ⟨(), trivial, upds_le (by simp [e8]), rfl, by simp [e8], by simp [e8]⟩
        · intro h30
          try simp at h30
          have e8 : Op.bytesLess X Y = ls := by rw [← hls, if_pos e9, if_neg (by simp [h30])]
          refine AW.skip ?_
          exact ⟨(), trivial, upds_le (by simp [e8]), rfl, by simp [e8], by simp [e8]⟩
    ·
      rintro a hI
      refine AW.seq ?_
      refine AW.seqRegionO [] ?_
      refine s1 tok [34] ?_
      refine AOpsO.nil ?_
      refine AW.cond (c := .tmp 34) (by conv => lhs; simp) trivial ?_ ?_
      · intro h34
        try simp at h34
        rw [h34] at hR
        refine AW.seqRegionO [] ?_
        refine s1 tok [4] ?_
        refine AOpsO.nil ?_
        exact AW.ret ⟨.inr rfl, _, _, by (conv => lhs; simp), trivial, by simp [hR]⟩
      · intro h34
        try simp at h34
        rw [h34] at hR
        refine AW.skip ?_
        refine AW.seqRegionO [] ?_
        refine s1 tok [4] ?_
        refine AOpsO.nil ?_
        exact AW.ret ⟨.inr rfl, _, _, by (conv => lhs; simp), trivial, by simp [hR]⟩
end Go.Proofs.YtgoepemmcibdaaaGreatDoor
