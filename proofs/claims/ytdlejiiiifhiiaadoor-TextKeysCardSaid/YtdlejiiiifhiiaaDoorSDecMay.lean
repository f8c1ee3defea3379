import Derived.Test.YtdlejiiiifhiiaaDoorK1
namespace Go.Proofs.YtdlejiiiifhiiaaDoor
open Sy Go
set_option maxRecDepth 100000
set_option maxHeartbeats 4000000
set_option linter.unusedSimpArgs false
set_option linter.unusedVariables false
variable {G : Glob}

def otherM (n : Int) : Bool := decide (n < 48) || decide (57 < n)
theorem other_ev (n : Int) : AFn Tryd.prog G 82 [.int .i32 n] (.bool (otherM n)) := by
  refine AFn.introU tok Tryd.func82 (by kernel_rfl) rfl rfl ?_
  simp only [Tryd.f82, enumA, List.map_cons, List.map_nil]
  refine AW.seqRegionO [] ?_
  refine s1 tok [0] ?_
  refine AOpsO.nil ?_
  refine AW.seqRegionO [] ?_
  refine s1 tok [0, 3] ?_
  refine s1 tok [0, 4] ?_
  refine s1 tok [0, 5] ?_
  refine s2 tok [5, 6] 5 rfl rfl ?_
  refine s2 tok [5, 7] 5 rfl rfl ?_
  refine s1 tok [8] ?_
  refine s1 tok [2] ?_
  refine AOpsO.nil ?_
  exact AW.ret ⟨.inr rfl, _, _, by (conv => lhs; simp), trivial, by simp [otherM]⟩
def isDig (b : UInt8) : Bool := digitM b.toNat
theorem other_dig (b : UInt8) : otherM b.toNat = !isDig b := by
  rw [Bool.eq_iff_iff]; simp [otherM, isDig, digitM]
theorem other_all (s : List UInt8) : decide (0 ≤ indexF otherM s) = !s.all isDig := by
  rw [indexF_bytes (fun n h => by simp [otherM] <;> omega)]
  have : (s.all fun b => !otherM b.toNat) = s.all isDig := by congr 1; funext b; rw [other_dig]; simp
  rw [this]
  cases s.all isDig
  · simp
  · simp
/-- May a decimal be? -/
def dcMay (d : Dc) : Bool := d.digits.all isDig && decide (1 ≤ d.digits.length ∧ d.digits.length ≤ 60 ∧ 0 ≤ d.scale ∧ d.scale ≤ 60) &&
  (if d.digits = [48] then decide (d.scale = 0) && !d.neg else decide (byteAt d.digits 0 ≠ 48) && (decide (d.scale = 0) || decide (byteAt d.digits (d.digits.length - 1) ≠ 48)))
theorem dcMay_no {d : Dc} (h : d.digits.length = 0 ∨ 60 < d.digits.length ∨ d.scale < 0 ∨ 60 < d.scale ∨ d.digits.all isDig = false) : dcMay d = false := by
  unfold dcMay
  rcases h with h | h | h | h | h
  · rw [show decide (1 ≤ d.digits.length ∧ d.digits.length ≤ 60 ∧ 0 ≤ d.scale ∧ d.scale ≤ 60) = false by simp; omega]; simp
  · rw [show decide (1 ≤ d.digits.length ∧ d.digits.length ≤ 60 ∧ 0 ≤ d.scale ∧ d.scale ≤ 60) = false by simp; omega]; simp
  · rw [show decide (1 ≤ d.digits.length ∧ d.digits.length ≤ 60 ∧ 0 ≤ d.scale ∧ d.scale ≤ 60) = false by simp; omega]; simp
  · rw [show decide (1 ≤ d.digits.length ∧ d.digits.length ≤ 60 ∧ 0 ≤ d.scale ∧ d.scale ≤ 60) = false by simp; omega]; simp
  · simp [h]
theorem dcMay_yes {d : Dc} (h : 1 ≤ d.digits.length ∧ d.digits.length ≤ 60 ∧ 0 ≤ d.scale ∧ d.scale ≤ 60) (ha : d.digits.all isDig = true) :
    dcMay d = (if d.digits = [48] then decide (d.scale = 0) && !d.neg else decide (byteAt d.digits 0 ≠ 48) && (decide (d.scale = 0) || decide (byteAt d.digits (d.digits.length - 1) ≠ 48))) := by
  unfold dcMay; rw [ha, show decide (1 ≤ d.digits.length ∧ d.digits.length ≤ 60 ∧ 0 ≤ d.scale ∧ d.scale ≤ 60) = true by simpa using h]; simp
-- no dcMay_ev
theorem refDcMay_ev (d : Dc) : AFn Tryd.prog G 7 [d.enc] (.bool (dcMay d)) := by
  refine AFn.introU tok Tryd.func7 (by kernel_rfl) rfl rfl ?_
  simp only [Tryd.f7, enumA, List.map_cons, List.map_nil]
  have hdg := fun k => digit_ev (G := G) (byteAt d.digits k)
  have hix : ∀ k : Nat, k < d.digits.length → d.digits[k]? = some (d.digits.getD k 0) := fun k h => byteAt_get h
  refine AW.seqRegionO [] ?_
  refine s1 tok [1] ?_
  refine s1 tok [1] ?_
  refine AOpsO.nil ?_
  refine AW.seqRegionO [] ?_
  refine s1 tok [1, 5] ?_
  refine s1 tok [1, 6] ?_
  refine s1 tok [1, 7] ?_
  refine s1 tok [1, 3] ?_
  refine AOpsO.nil ?_
  refine AW.seq ?_
  refine AW.seqRegionO [] ?_
  refine s1 tok [1, 3, 4] ?_
  refine AOpsO.nil ?_
  refine AW.block ?_
  refine AW.intFactU (i := 3) rfl (by decide) ?_; intro hlen; simp at hlen
  refine AW.loop (α := Nat) (fun k => k ≤ d.digits.length ∧ (d.digits.take k).all isDig = true) (fun k => ⟨upds 63 [(1, .ptr 1 0), (3, .p (.int .i64 d.digits.length)), (4, .p (.int .i64 k))], [], [(1, .vars 28 [.p (.bool d.neg), .p (.str d.digits), .p (.int .i64 d.scale)])], 0⟩) (fun k => d.digits.length - k) (0) ⟨by omega, rfl⟩ ⟨upds_le (by simp), rfl, by simp, by simp⟩ ?_
  rintro k ⟨hk, hall⟩
  refine AW.seq ?_
  refine AW.seqRegionO [] ?_
  refine s1 tok [1, 3, 4, 8] ?_
  refine s1 tok [1, 3, 4, 8, 9] ?_
  refine s1 tok [1, 3, 4, 10] ?_
  refine AOpsO.nil ?_
  refine AW.cond (c := .tmp 10) (by conv => lhs; simp) trivial ?_ ?_
  · intro h10
    try simp at h10
    refine AW.skip ?_
    refine AW.seq ?_
    refine AW.block ?_
    refine AW.seqRegionO [.int .u8 (byteAt d.digits k), .nilp, .bool (digitM (byteAt d.digits k))] ?_
    refine s1 tok [1, 3, 4, 13] ?_
    refine s1 tok [1, 3, 4, 14] ?_ (hv := by first | with_reducible exact True.intro | (first | exact hdg k | ((repeat' (first | with_reducible apply And.intro | intro _)) <;> first | omega | assumption | contradiction | exact ⟨_, hix _ (by omega), rfl⟩ | simp_all); done) | omega | simp | (simp; omega) | (simp +contextual; omega))
    refine s1 tok [1, 3, 4, 14, 15] ?_
    refine s1 tok [1, 3, 4, 16] ?_ (hv := by first | with_reducible exact True.intro | (first | exact hdg k | ((repeat' (first | with_reducible apply And.intro | intro _)) <;> first | omega | assumption | contradiction | exact ⟨_, hix _ (by omega), rfl⟩ | simp_all); done) | omega | simp | (simp; omega) | (simp +contextual; omega))
    refine s1 tok [1, 3, 4, 17] ?_ (hv := by first | with_reducible exact True.intro | (first | exact hdg k | ((repeat' (first | with_reducible apply And.intro | intro _)) <;> first | omega | assumption | contradiction | exact ⟨_, hix _ (by omega), rfl⟩ | simp_all); done) | omega | simp | (simp; omega) | (simp +contextual; omega))
    refine s1 tok [1, 3, 4, 18] ?_ (hv := by first | with_reducible exact True.intro | (first | exact hdg k | ((repeat' (first | with_reducible apply And.intro | intro _)) <;> first | omega | assumption | contradiction | exact ⟨_, hix _ (by omega), rfl⟩ | simp_all); done) | omega | simp | (simp; omega) | (simp +contextual; omega))
    refine AOpsO.nil ?_
    refine AW.cond (c := .tmp 18) (by conv => lhs; simp) trivial ?_ ?_
    · intro h18
      try simp at h18
      have hno : dcMay d = false := dcMay_no (.inr (.inr (.inr (.inr (by rw [List.all_eq_false]; exact ⟨_, List.mem_of_getElem? (hix k h10), by simpa [isDig, byteAt] using h18⟩)))))
      refine AW.seqRegionO [] ?_
      refine s1 tok [2] ?_
      refine AOpsO.nil ?_
      exact AW.ret ⟨.inr rfl, _, _, by (conv => lhs; simp), trivial, by simp [hno]⟩
    · intro h18
      try simp at h18
      refine AW.skip ?_
      refine AW.regionO [] ?_
      refine s1 tok [1, 3, 11] ?_
      refine s1 tok [1, 3, 12] ?_
      refine s1 tok [1, 3, 4] ?_
      refine AOpsO.nil ?_
      exact ⟨k + 1, ⟨by omega, by rw [List.take_add_one, hix k h10, List.all_append, hall]; simpa [isDig, byteAt] using h18⟩, by omega, upds_le (by simp), rfl, by simp, by simp⟩
  · intro h10
    try simp at h10
    rw [List.take_of_length_le (by omega)] at hall
    refine AW.exit ?_
    simp
    refine AW.seq ?_
    refine AW.seqRegionO [] ?_
    refine s1 tok [1, 3, 19] ?_
    refine s1 tok [1, 3, 20] ?_
    refine s1 tok [1, 3, 21] ?_
    refine s2 tok [1, 3, 21, 22] 21 rfl rfl ?_
    refine s2 tok [1, 3, 21, 23] 21 rfl rfl ?_
    refine s1 tok [1, 3, 24] ?_
    refine s1 tok [1, 3, 25] ?_
    refine s2 tok [1, 3, 25, 26] 25 rfl rfl ?_
    refine s2 tok [1, 3, 25, 27] 25 rfl rfl ?_
    refine s2 tok [1, 3, 25, 28] 25 rfl rfl ?_
    refine s1 tok [1, 3, 29] ?_
    refine s1 tok [1, 3, 30] ?_
    refine s2 tok [1, 3, 30, 31] 30 rfl rfl ?_
    refine s2 tok [1, 3, 30, 32] 30 rfl rfl ?_
    refine s2 tok [1, 3, 30, 33] 30 rfl rfl ?_
    refine s1 tok [1, 3, 34] ?_
    refine AOpsO.nil ?_
    refine AW.cond (c := .tmp 34) (by conv => lhs; simp) trivial ?_ ?_
    · intro h34
      try simp at h34
      have hno : dcMay d = false := dcMay_no (by omega)
      refine AW.seqRegionO [] ?_
      refine s1 tok [2] ?_
      refine AOpsO.nil ?_
      exact AW.ret ⟨.inr rfl, _, _, by (conv => lhs; simp), trivial, by simp [hno]⟩
    · intro h34
      try simp at h34
      rw [dcMay_yes (by omega) hall]
      refine AW.skip ?_
      refine AW.seq ?_
      refine AW.seqRegionO [] ?_
      refine s1 tok [1, 3, 35] ?_
      refine s1 tok [1, 3, 36] ?_
      refine s1 tok [1, 3, 37] ?_
      refine AOpsO.nil ?_
      refine AW.cond (c := .tmp 37) (by conv => lhs; simp) trivial ?_ ?_
      · intro h37
        try simp at h37
        refine AW.seqRegionO [] ?_
        refine s1 tok [1, 38] ?_
        refine s1 tok [1, 39] ?_
        refine s1 tok [1, 40] ?_
        refine s1 tok [1, 41] ?_
        refine s2 tok [41, 42] 41 rfl rfl ?_
        refine s2 tok [41, 43] 41 rfl rfl ?_
        refine s2 tok [41, 44] 41 rfl rfl ?_
        refine s1 tok [45] ?_
        refine s1 tok [2] ?_
        refine AOpsO.nil ?_
        exact AW.ret ⟨.inr rfl, _, _, by (conv => lhs; simp), trivial, by simp [h37]⟩
      · intro h37
        try simp at h37
        refine AW.skip ?_
        refine AW.seqRegionO [.int .u8 (byteAt d.digits 0), .int .u8 (byteAt d.digits (d.digits.length - 1))] ?_
        refine s1 tok [1, 3, 46] ?_
        refine s1 tok [1, 3, 47] ?_ (hv := by first | with_reducible exact True.intro | (((repeat' (first | with_reducible apply And.intro | intro _)) <;> first | omega | assumption | contradiction | exact ⟨_, hix _ (by omega), rfl⟩ | simp_all); done) | omega | simp | (simp; omega) | (simp +contextual; omega))
        refine s1 tok [1, 3, 48] ?_ (hv := by first | with_reducible exact True.intro | (((repeat' (first | with_reducible apply And.intro | intro _)) <;> first | omega | assumption | contradiction | exact ⟨_, hix _ (by omega), rfl⟩ | simp_all); done) | omega | simp | (simp; omega) | (simp +contextual; omega))
        refine s1 tok [1, 3, 49] ?_ (hv := by first | with_reducible exact True.intro | (((repeat' (first | with_reducible apply And.intro | intro _)) <;> first | omega | assumption | contradiction | exact ⟨_, hix _ (by omega), rfl⟩ | simp_all); done) | omega | simp | (simp; omega) | (simp +contextual; omega))
        refine s1 tok [1, 3, 50] ?_
        refine s2 tok [1, 3, 50, 51] 50 rfl rfl ?_
        refine s2 tok [1, 3, 50, 52] 50 rfl rfl ?_ (hv := by first | with_reducible exact True.intro | (((repeat' (first | with_reducible apply And.intro | intro _)) <;> first | omega | assumption | contradiction | exact ⟨_, hix _ (by omega), rfl⟩ | simp_all); done) | omega | simp | (simp; omega) | (simp +contextual; omega))
        refine s2 tok [1, 3, 50, 53] 50 rfl rfl ?_ (hv := by first | with_reducible exact True.intro | (((repeat' (first | with_reducible apply And.intro | intro _)) <;> first | omega | assumption | contradiction | exact ⟨_, hix _ (by omega), rfl⟩ | simp_all); done) | omega | simp | (simp; omega) | (simp +contextual; omega))
        refine s2 tok [1, 3, 50, 54] 50 rfl rfl ?_
        refine s2 tok [3, 50, 54, 55] 54 rfl rfl ?_
        refine s2 tok [3, 50, 54, 56] 54 rfl rfl ?_ (hv := by first | with_reducible exact True.intro | (((repeat' (first | with_reducible apply And.intro | intro _)) <;> first | omega | assumption | contradiction | exact ⟨_, hix _ (by omega), rfl⟩ | simp_all); done) | omega | simp | (simp; omega) | (simp +contextual; omega))
        refine s2 tok [50, 54, 56, 57] 54 rfl rfl ?_
        refine s2 tok [50, 54, 56, 58] 54 rfl rfl ?_ (hv := by first | with_reducible exact True.intro | (((repeat' (first | with_reducible apply And.intro | intro _)) <;> first | omega | assumption | contradiction | exact ⟨_, hix _ (by omega), rfl⟩ | simp_all); done) | omega | simp | (simp; omega) | (simp +contextual; omega))
        refine s2 tok [50, 54, 59] 54 rfl rfl ?_ (hv := by first | with_reducible exact True.intro | (((repeat' (first | with_reducible apply And.intro | intro _)) <;> first | omega | assumption | contradiction | exact ⟨_, hix _ (by omega), rfl⟩ | simp_all); done) | omega | simp | (simp; omega) | (simp +contextual; omega))
        refine s2 tok [50, 54, 60] 54 rfl rfl ?_ (hv := by first | with_reducible exact True.intro | (((repeat' (first | with_reducible apply And.intro | intro _)) <;> first | omega | assumption | contradiction | exact ⟨_, hix _ (by omega), rfl⟩ | simp_all); done) | omega | simp | (simp; omega) | (simp +contextual; omega))
        refine s2 tok [50, 61] 50 rfl rfl ?_ (hv := by first | with_reducible exact True.intro | (((repeat' (first | with_reducible apply And.intro | intro _)) <;> first | omega | assumption | contradiction | exact ⟨_, hix _ (by omega), rfl⟩ | simp_all); done) | omega | simp | (simp; omega) | (simp +contextual; omega))
        refine s1 tok [62] ?_ (hv := by first | with_reducible exact True.intro | (((repeat' (first | with_reducible apply And.intro | intro _)) <;> first | omega | assumption | contradiction | exact ⟨_, hix _ (by omega), rfl⟩ | simp_all); done) | omega | simp | (simp; omega) | (simp +contextual; omega))
        refine s1 tok [2] ?_
        refine AOpsO.nil ?_
        exact AW.ret ⟨.inr rfl, _, _, by (conv => lhs; simp), trivial, by simp [h37]⟩
end Go.Proofs.YtdlejiiiifhiiaaDoor
