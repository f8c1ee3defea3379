import Derived.Test.YtdlejiiiifhiiaaDoorSCore24
import Derived.Test.YtdlejiiiifhiiaaDoorSStr2
namespace Go.Proofs.YtdlejiiiifhiiaaDoor
open Sy Go
set_option maxRecDepth 100000
set_option maxHeartbeats 4000000
set_option linter.unusedSimpArgs false
set_option linter.unusedVariables false
variable {G : Glob}
theorem getD_get {s : List UInt8} {k : Nat} (h : k < s.length) : s[k]? = some (s.getD k 0) := by simp [List.getD_eq_getElem?_getD, h]
theorem trimLeftByte_ev (s : List UInt8) (c : UInt8) : AFn Tryd.prog G 60 [.str s, .int .u8 c.toNat] (.str (s.dropWhile (fun b => b == c))) := by
  refine AFn.introU tok Tryd.func60 (by kernel_rfl) rfl rfl ?_
  simp only [Tryd.f60, enumA, List.map_cons, List.map_nil]
  refine AW.seqRegionO [] ?_
  refine s1 tok [0, 1] ?_
  refine AOpsO.nil ?_
  refine AW.seq ?_
  refine AW.block ?_
  refine AW.loop (α := List UInt8) (fun r => r.dropWhile (fun b => b == c) = s.dropWhile (fun b => b == c)) (fun r => ⟨upds 17 [(0, .p (.str r)), (1, .p (.int .u8 c.toNat))], [], [], 0⟩) (fun r => r.length) (s) rfl ⟨upds_le (by simp), rfl, by simp, by simp⟩ ?_
  rintro r hr
  have hix : 0 < r.length → r[0]? = some (r.getD 0 0) := fun h => getD_get h
  refine AW.seq ?_
  refine AW.seqRegionO [.int .u8 (r.getD 0 0).toNat] ?_
  refine s1 tok [0, 1, 5] ?_
  refine s1 tok [0, 1, 6] ?_ (hv := by first | with_reducible exact True.intro | (first | exact fun h => ⟨h, _, hix (by omega), rfl⟩ | simp; done) | omega | simp | (simp; omega) | (simp +contextual; omega))
  refine s1 tok [0, 1, 7] ?_ (hv := by first | with_reducible exact True.intro | (first | exact fun h => ⟨h, _, hix (by omega), rfl⟩ | simp; done) | omega | simp | (simp; omega) | (simp +contextual; omega))
  refine s1 tok [0, 1, 8] ?_
  refine s2 tok [0, 1, 8, 9] 8 rfl rfl ?_
  refine s2 tok [0, 1, 8, 10] 8 rfl rfl ?_ (hv := by first | with_reducible exact True.intro | (first | exact fun h => ⟨h, _, hix (by omega), rfl⟩ | simp; done) | omega | simp | (simp; omega) | (simp +contextual; omega))
  refine s2 tok [0, 1, 8, 10, 11] 8 rfl rfl ?_
  refine s2 tok [0, 1, 8, 12] 8 rfl rfl ?_ (hv := by first | with_reducible exact True.intro | (first | exact fun h => ⟨h, _, hix (by omega), rfl⟩ | simp; done) | omega | simp | (simp; omega) | (simp +contextual; omega))
  refine s1 tok [0, 1, 13] ?_ (hv := by first | with_reducible exact True.intro | (first | exact fun h => ⟨h, _, hix (by omega), rfl⟩ | simp; done) | omega | simp | (simp; omega) | (simp +contextual; omega))
  refine AOpsO.nil ?_
  refine AW.cond (c := .tmp 13) (by conv => lhs; simp) trivial ?_ ?_
  · intro h13
    try simp at h13
    obtain ⟨b, r, rfl⟩ : ∃ b r', r = b :: r' := by
      cases r with
      | nil => simp at h13
      | cons b r => exact ⟨b, r, rfl⟩
    have hb : b = c := UInt8.toNat_inj.1 (by have := h13.2; simp at this; omega)
    subst hb
    have hr2 : List.dropWhile (fun b' => b' == b) r = List.dropWhile (fun b' => b' == b) s := by rw [← hr]; simp
    refine AW.skip ?_
    refine AW.block ?_
    refine AW.regionO [] ?_
    refine s1 tok [1, 14] ?_
    refine s1 tok [1, 15] ?_
    refine s1 tok [0, 1] ?_
    refine AOpsO.nil ?_
    exact ⟨r, hr2, by simp, upds_le (by simp), rfl, by simp, by simp⟩
  · intro h13
    try simp at h13
    have hr3 : s.dropWhile (fun b => b == c) = r := by
      rw [← hr]
      cases r with
      | nil => rfl
      | cons b r =>
        have hb : b ≠ c := by rintro rfl; simp at h13
        simp [hb]
    rw [hr3]
    refine AW.exit ?_
    simp
    refine AW.seqRegionO [] ?_
    refine s1 tok [16] ?_
    refine s1 tok [4] ?_
    refine AOpsO.nil ?_
    exact AW.ret ⟨.inr rfl, _, _, by (conv => lhs; simp), trivial, by simp⟩
theorem suffix_last (s : List UInt8) (c : UInt8) : (decide (1 ≤ (s.length : Int)) && decide (List.drop (s.length - 1) s = [c])) = decide (s.getLast? = some c) := by
  by_cases h : s = []
  · subst h; simp
  · obtain ⟨a, b, rfl⟩ : ∃ a b, s = a ++ [b] := ⟨s.dropLast, s.getLast h, (List.dropLast_concat_getLast h).symm⟩
    rw [Bool.eq_iff_iff]
    simp
    intro _; omega
theorem sHasSuffix_ev (s : List UInt8) (c : UInt8) : AFn Tryd.prog G 93 [.str s, .str [c]] (.bool (decide (s.getLast? = some c))) := by
  refine AFn.introU tok Tryd.func93 (by kernel_rfl) rfl rfl ?_
  simp only [Tryd.f93, enumA, List.map_cons, List.map_nil]
  refine AW.strFactU (i := 0) rfl (by decide) ?_
  intro hlen
  have hsuf : (decide (1 ≤ (s.length : Int)) && decide (List.drop (s.length - 1) s = [c])) = decide (s.getLast? = some c) := suffix_last s c
  refine AW.seqRegionO [] ?_
  refine s1 tok [0, 1] ?_
  refine AOpsO.nil ?_
  refine AW.seqRegionO [] ?_
  refine s1 tok [0, 1, 5] ?_
  refine s1 tok [0, 1, 6] ?_
  refine s1 tok [0, 1, 6, 7] ?_
  refine s1 tok [0, 1, 6, 8] ?_
  refine s1 tok [0, 1, 9] ?_
  refine s1 tok [0, 1, 10] ?_
  refine s2 tok [0, 1, 10, 11] 10 rfl rfl ?_
  refine s2 tok [1, 10, 11, 12] 10 rfl rfl ?_
  refine s2 tok [1, 10, 11, 13] 10 rfl rfl ?_
  refine s2 tok [1, 10, 11, 13, 14] 10 rfl rfl ?_
  refine s2 tok [1, 10, 11, 13, 15] 10 rfl rfl ?_
  refine s2 tok [1, 10, 11, 16] 10 rfl rfl ?_
  refine s2 tok [1, 10, 17] 10 rfl rfl ?_
  refine s2 tok [10, 17, 18] 10 rfl rfl ?_
  refine s2 tok [10, 19] 10 rfl rfl ?_
  refine s1 tok [20] ?_
  refine s1 tok [4] ?_
  refine AOpsO.nil ?_
  exact AW.ret ⟨.inr rfl, _, _, by (conv => lhs; simp), trivial, by simp [hsuf]⟩
theorem HasSuffix_ev (s : List UInt8) (c : UInt8) : AFn Tryd.prog G 83 [.str s, .str [c]] (.bool (decide (s.getLast? = some c))) := by
  refine AFn.introU tok Tryd.func83 (by kernel_rfl) rfl rfl ?_
  simp only [Tryd.f83, enumA, List.map_cons, List.map_nil]
  refine AW.seqRegionO [] ?_
  refine s1 tok [0, 1] ?_
  refine AOpsO.nil ?_
  refine AW.seqRegionO [.nilp, .bool (decide (s.getLast? = some c))] ?_
  refine s1 tok [1, 5] ?_
  refine s1 tok [5, 6] ?_
  refine s1 tok [7] ?_ (hv := by first | with_reducible exact True.intro | (exact sHasSuffix_ev s c; done) | omega | simp | (simp; omega) | (simp +contextual; omega))
  refine s1 tok [4] ?_
  refine AOpsO.nil ?_
  exact AW.ret ⟨.inr rfl, _, _, by (conv => lhs; simp), trivial, by simp⟩
theorem TrimLeft1_ev (s : List UInt8) (c : UInt8) (hc : c.toNat < 128) : AFn Tryd.prog G 47 [.str s, .str [c]] (.str (s.dropWhile (fun b => b == c))) := by
  refine AFn.introU tok Tryd.func47 (by kernel_rfl) rfl rfl ?_
  simp only [Tryd.f47, enumA, List.map_cons, List.map_nil]
  refine AW.seqRegionO [] ?_
  refine s1 tok [0, 1] ?_
  refine AOpsO.nil ?_
  refine AW.seq ?_
  refine AW.seqRegionO [] ?_
  refine s1 tok [0, 1, 7] ?_
  refine s1 tok [0, 1, 8] ?_
  refine s1 tok [0, 1, 9] ?_
  refine s2 tok [0, 1, 9, 10] 9 rfl rfl ?_
  refine s2 tok [0, 1, 9, 11] 9 rfl rfl ?_
  refine s1 tok [0, 1, 12] ?_
  refine AOpsO.nil ?_
  refine AW.cond (c := .tmp 12) (by conv => lhs; simp) trivial ?_ ?_
  · intro h12
    try simp at h12
    subst h12
    refine AW.seqRegionO [] ?_
    refine s1 tok [13] ?_
    refine s1 tok [4] ?_
    refine AOpsO.nil ?_
    exact AW.ret ⟨.inr rfl, _, _, by (conv => lhs; simp), trivial, by simp⟩
  · intro h12
    try simp at h12
    refine AW.skip ?_
    refine AW.seq ?_
    refine AW.seqRegionO [.int .u8 c.toNat] ?_
    refine s1 tok [0, 1, 14] ?_
    refine s1 tok [0, 1, 15] ?_ (hv := by first | with_reducible exact True.intro | (simp; done) | omega | simp | (simp; omega) | (simp +contextual; omega))
    refine s1 tok [0, 1, 16] ?_ (hv := by first | with_reducible exact True.intro | (simp; done) | omega | simp | (simp; omega) | (simp +contextual; omega))
    refine s1 tok [0, 1, 17] ?_
    refine s2 tok [0, 1, 17, 18] 17 rfl rfl ?_
    refine s2 tok [0, 1, 17, 19] 17 rfl rfl ?_ (hv := by first | with_reducible exact True.intro | (simp; done) | omega | simp | (simp; omega) | (simp +contextual; omega))
    refine s2 tok [0, 1, 17, 20] 17 rfl rfl ?_ (hv := by first | with_reducible exact True.intro | (simp; done) | omega | simp | (simp; omega) | (simp +contextual; omega))
    refine s1 tok [0, 1, 21] ?_ (hv := by first | with_reducible exact True.intro | (simp; done) | omega | simp | (simp; omega) | (simp +contextual; omega))
    refine AOpsO.nil ?_
    refine AW.cond (c := .tmp 21) (by conv => lhs; simp) trivial ?_ ?_
    · intro h21
      try simp at h21
      refine AW.seqRegionO [.int .u8 c.toNat, .nilp, .str (s.dropWhile (fun b => b == c))] ?_
      refine s1 tok [1, 22] ?_
      refine s1 tok [22, 23] ?_
      refine s1 tok [22, 24] ?_ (hv := by first | with_reducible exact True.intro | (first | exact trimLeftByte_ev s c | simp; done) | omega | simp | (simp; omega) | (simp +contextual; omega))
      refine s1 tok [25] ?_ (hv := by first | with_reducible exact True.intro | (first | exact trimLeftByte_ev s c | simp; done) | omega | simp | (simp; omega) | (simp +contextual; omega))
      refine s1 tok [4] ?_
      refine AOpsO.nil ?_
      exact AW.ret ⟨.inr rfl, _, _, by (conv => lhs; simp), trivial, by simp⟩
    · intro h21
      try simp at h21
      omega
theorem TrimLeft_ev (s cs : List UInt8) (h2 : 2 ≤ cs.length) (hcs : ∀ b ∈ cs, b.toNat < 128) : AFn Tryd.prog G 47 [.str s, .str cs] (.str (trimL (asF cs) s)) := by
  refine AFn.introU tok Tryd.func47 (by kernel_rfl) rfl rfl ?_
  simp only [Tryd.f47, enumA, List.map_cons, List.map_nil]
  have hne : cs ≠ [] := by rintro rfl; simp at h2
  have hmk := makeASCIISet_ev (G := G) cs hcs
  refine AW.seqRegionO [] ?_
  refine s1 tok [0, 1] ?_
  refine AOpsO.nil ?_
  refine AW.seq ?_
  refine AW.seqRegionO [] ?_
  refine s1 tok [0, 1, 7] ?_
  refine s1 tok [0, 1, 8] ?_
  refine s1 tok [0, 1, 9] ?_
  refine s2 tok [0, 1, 9, 10] 9 rfl rfl ?_
  refine s2 tok [0, 1, 9, 11] 9 rfl rfl ?_
  refine s1 tok [0, 1, 12] ?_
  refine AOpsO.nil ?_
  refine AW.cond (c := .tmp 12) (by conv => lhs; simp) trivial ?_ ?_
  · intro h12
    try simp at h12
    simp [hne] at h12
    subst h12
    refine AW.seqRegionO [] ?_
    refine s1 tok [13] ?_
    refine s1 tok [4] ?_
    refine AOpsO.nil ?_
    exact AW.ret ⟨.inr rfl, _, _, by (conv => lhs; simp), trivial, by simp [trimL]⟩
  · intro h12
    try simp at h12
    refine AW.skip ?_
    refine AW.seq ?_
    refine AW.seqRegionO [.int .u8 0] ?_
    refine s1 tok [0, 1, 14] ?_
    refine s1 tok [0, 1, 15] ?_
    refine s1 tok [0, 1, 16] ?_
    refine s1 tok [0, 1, 17] ?_
    refine s2 tok [0, 1, 17, 18] 17 rfl rfl ?_
    refine s2 tok [0, 1, 17, 19] 17 rfl rfl ?_
    refine s2 tok [0, 1, 17, 20] 17 rfl rfl ?_
    refine s1 tok [0, 1, 21] ?_
    refine AOpsO.nil ?_
    refine AW.cond (c := .tmp 21) (by conv => lhs; simp) trivial ?_ ?_
    · intro h21
      try simp at h21
      omega
    · intro h21
      try simp at h21
      refine AW.skip ?_
      refine AW.seq ?_
      refine AW.seqRegionO [.nilp, .tup [.agg (rowP 256 (asF cs)), .bool true]] ?_
      refine s1 tok [0, 1, 27] ?_
      refine s1 tok [0, 1, 28] ?_ (hv := by first | with_reducible exact True.intro | (exact hmk; done) | omega | simp | (simp; omega) | (simp +contextual; omega))
      refine s1 tok [0, 1, 26] ?_
      refine s1 tok [0, 1, 26, 29] ?_
      refine s1 tok [0, 1, 29, 30] ?_
      refine s1 tok [0, 1, 5, 29, 30] ?_
      refine s1 tok [0, 1, 5, 30] ?_ (hv := by first | with_reducible exact True.intro | (exact hmk; done) | omega | simp | (simp; omega) | (simp +contextual; omega))
      refine s1 tok [0, 1, 5, 6] ?_
      refine AOpsO.nil ?_
      refine AW.seqRegionO [] ?_
      refine s1 tok [0, 1, 5, 31] ?_
      refine AOpsO.nil ?_
      refine AW.cond (c := .tmp 31) (by conv => lhs; simp) trivial ?_ ?_
      · intro h31
        try simp at h31
        refine AW.seqRegionO [] ?_
        refine s1 tok [5, 32] ?_
        refine AOpsO.stepK [33] (y_cx rfl (trimLeftASCII_ev (asF cs) s) (by simp)) (by conv => lhs; simp) rfl ?_
        refine s1 tok [4] ?_
        refine AOpsO.nil ?_
        exact AW.ret ⟨.inr rfl, _, _, by (conv => lhs; simp), trivial, by simp⟩
      · intro h31
        try simp at h31
end Go.Proofs.YtdlejiiiifhiiaaDoor
