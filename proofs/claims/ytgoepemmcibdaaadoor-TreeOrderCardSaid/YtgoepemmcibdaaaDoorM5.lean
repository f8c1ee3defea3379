import Derived.Test.YtgoepemmcibdaaaDoorM4
import Derived.Lib.Repeat
import Derived.Lib.ValidLaws
namespace Go.Proofs.YtgoepemmcibdaaaDoor
open Sy Go
set_option maxRecDepth 100000
set_option maxHeartbeats 4000000
set_option linter.unusedSimpArgs false
set_option linter.unusedVariables false
variable {G : Glob}

def otherM (n : Int) : Bool := decide (n < 48) || decide (57 < n)
theorem other_ev (n : Int) : AFn Tryd.prog G 58 [.int .i32 n] (.bool (otherM n)) := by
  refine AFn.introU tok Tryd.func58 (by kernel_rfl) rfl rfl ?_
  simp only [Tryd.f58, enumA, List.map_cons, List.map_nil]
  refine AW.seqRegionO [] ?_
  refine AOpsO.one tok [0] (by intro C; conv => lhs; simp) (by first | with_reducible exact True.intro | omega | simp | (simp; omega) | (simp +contextual; omega)) rfl ?_
  refine AOpsO.nil ?_
  refine AW.seqRegionO [] ?_
  refine AOpsO.one tok [0, 3] (by intro C; conv => lhs; simp) (by first | with_reducible exact True.intro | omega | simp | (simp; omega) | (simp +contextual; omega)) rfl ?_
  refine AOpsO.one tok [0, 4] (by intro C; conv => lhs; simp) (by first | with_reducible exact True.intro | omega | simp | (simp; omega) | (simp +contextual; omega)) rfl ?_
  refine AOpsO.one tok [0, 5] (by intro C; conv => lhs; simp) (by first | with_reducible exact True.intro | omega | simp | (simp; omega) | (simp +contextual; omega)) rfl ?_
  refine AOpsO.oneIf tok [5, 6] 5 (by intro C; conv => lhs; simp) (by first | with_reducible exact True.intro | omega | simp | (simp; omega) | (simp +contextual; omega)) rfl rfl ?_
  refine AOpsO.oneIf tok [5, 7] 5 (by intro C; conv => lhs; simp) (by first | with_reducible exact True.intro | omega | simp | (simp; omega) | (simp +contextual; omega)) rfl rfl ?_
  refine AOpsO.one tok [8] (by intro C; conv => lhs; simp) (by first | with_reducible exact True.intro | omega | simp | (simp; omega) | (simp +contextual; omega)) rfl ?_
  refine AOpsO.one tok [2] (by intro C; conv => lhs; simp) (by first | with_reducible exact True.intro | omega | simp | (simp; omega) | (simp +contextual; omega)) rfl ?_
  refine AOpsO.nil ?_
  exact AW.ret ⟨.inr rfl, _, _, by (conv => lhs; simp), trivial, by simp [otherM]⟩
def isDig (b : UInt8) : Bool := digitM b.toNat
theorem other_dig (b : UInt8) : otherM b.toNat = !isDig b := by
  rw [Bool.eq_iff_iff]; simp [otherM, isDig, digitM]
theorem other_all (s : List UInt8) : decide (0 ≤ indexF otherM s) = !s.all isDig := by
  rw [indexF_bytes (fun n h => by simp [otherM] <;> omega)]
  have : (s.all fun b => !otherM b.toNat) = s.all isDig := by congr 1; funext b; rw [other_dig]; simp
  rw [this]
  cases s.all isDig
  · simp
  · simp
/-- May a decimal be? -/
def dcMay (d : Dc) : Bool := d.digits.all isDig && decide (1 ≤ d.digits.length ∧ d.digits.length ≤ 60 ∧ 0 ≤ d.scale ∧ d.scale ≤ 60) &&
  (if d.digits = [48] then decide (d.scale = 0) && !d.neg else decide (byteAt d.digits 0 ≠ 48) && (decide (d.scale = 0) || decide (byteAt d.digits (d.digits.length - 1) ≠ 48)))
theorem dcMay_no {d : Dc} (h : d.digits.length = 0 ∨ 60 < d.digits.length ∨ d.scale < 0 ∨ 60 < d.scale ∨ d.digits.all isDig = false) : dcMay d = false := by
  unfold dcMay
  rcases h with h | h | h | h | h
  · rw [show decide (1 ≤ d.digits.length ∧ d.digits.length ≤ 60 ∧ 0 ≤ d.scale ∧ d.scale ≤ 60) = false by simp; omega]; simp
  · rw [show decide (1 ≤ d.digits.length ∧ d.digits.length ≤ 60 ∧ 0 ≤ d.scale ∧ d.scale ≤ 60) = false by simp; omega]; simp
  · rw [show decide (1 ≤ d.digits.length ∧ d.digits.length ≤ 60 ∧ 0 ≤ d.scale ∧ d.scale ≤ 60) = false by simp; omega]; simp
  · rw [show decide (1 ≤ d.digits.length ∧ d.digits.length ≤ 60 ∧ 0 ≤ d.scale ∧ d.scale ≤ 60) = false by simp; omega]; simp
  · simp [h]
theorem dcMay_yes {d : Dc} (h : 1 ≤ d.digits.length ∧ d.digits.length ≤ 60 ∧ 0 ≤ d.scale ∧ d.scale ≤ 60) (ha : d.digits.all isDig = true) :
    dcMay d = (if d.digits = [48] then decide (d.scale = 0) && !d.neg else decide (byteAt d.digits 0 ≠ 48) && (decide (d.scale = 0) || decide (byteAt d.digits (d.digits.length - 1) ≠ 48))) := by
  unfold dcMay; rw [ha, show decide (1 ≤ d.digits.length ∧ d.digits.length ≤ 60 ∧ 0 ≤ d.scale ∧ d.scale ≤ 60) = true by simpa using h]; simp
theorem dcMay_ev (d : Dc) : AFn Tryd.prog G 40 [d.enc] (.bool (dcMay d)) := by
  refine AFn.introU tok Tryd.func40 (by kernel_rfl) rfl rfl ?_
  simp only [Tryd.f40, enumA, List.map_cons, List.map_nil]
  have hoth := ContainsFunc_ev (G := G) d.digits 58 otherM other_ev
  rw [other_all] at hoth
  have hix : ∀ k : Nat, k < d.digits.length → d.digits[k]? = some (d.digits.getD k 0) := fun k h => byteAt_get h
  refine AW.seqRegionO [] ?_
  refine AOpsO.one tok [1] (by intro C; conv => lhs; simp) (by first | with_reducible exact True.intro | omega | simp | (simp; omega) | (simp +contextual; omega)) rfl ?_
  refine AOpsO.one tok [1] (by intro C; conv => lhs; simp) (by first | with_reducible exact True.intro | omega | simp | (simp; omega) | (simp +contextual; omega)) rfl ?_
  refine AOpsO.nil ?_
  refine AW.seqRegionO [] ?_
  refine AOpsO.one tok [1, 4] (by intro C; conv => lhs; simp) (by first | with_reducible exact True.intro | omega | simp | (simp; omega) | (simp +contextual; omega)) rfl ?_
  refine AOpsO.one tok [1, 5] (by intro C; conv => lhs; simp) (by first | with_reducible exact True.intro | omega | simp | (simp; omega) | (simp +contextual; omega)) rfl ?_
  refine AOpsO.one tok [1, 6] (by intro C; conv => lhs; simp) (by first | with_reducible exact True.intro | omega | simp | (simp; omega) | (simp +contextual; omega)) rfl ?_
  refine AOpsO.one tok [1, 3] (by intro C; conv => lhs; simp) (by first | with_reducible exact True.intro | omega | simp | (simp; omega) | (simp +contextual; omega)) rfl ?_
  refine AOpsO.nil ?_
  refine AW.seq ?_
  refine AW.block ?_
  refine AW.seqRegionO [.nilp, .bool (!d.digits.all isDig)] ?_
  refine AOpsO.one tok [1, 3, 8] (by intro C; conv => lhs; simp) (by first | with_reducible exact True.intro | (((repeat' (first | with_reducible apply And.intro | intro _)) <;> first | exact (hoth) | assumption | omega | contradiction | simp_all); done) | omega | simp | (simp; omega) | (simp +contextual; omega)) rfl ?_
  refine AOpsO.one tok [1, 3, 9] (by intro C; conv => lhs; simp) (by first | with_reducible exact True.intro | (((repeat' (first | with_reducible apply And.intro | intro _)) <;> first | exact (hoth) | assumption | omega | contradiction | simp_all); done) | omega | simp | (simp; omega) | (simp +contextual; omega)) rfl ?_
  refine AOpsO.one tok [1, 3, 10] (by intro C; conv => lhs; simp) (by first | with_reducible exact True.intro | (((repeat' (first | with_reducible apply And.intro | intro _)) <;> first | exact (hoth) | assumption | omega | contradiction | simp_all); done) | omega | simp | (simp; omega) | (simp +contextual; omega)) rfl ?_
  refine AOpsO.oneIf tok [1, 3, 10, 11] 10 (by intro C; conv => lhs; simp) (by first | with_reducible exact True.intro | (((repeat' (first | with_reducible apply And.intro | intro _)) <;> first | exact (hoth) | assumption | omega | contradiction | simp_all); done) | omega | simp | (simp; omega) | (simp +contextual; omega)) rfl rfl ?_
  refine AOpsO.oneIf tok [1, 3, 10, 12] 10 (by intro C; conv => lhs; simp) (by first | with_reducible exact True.intro | (((repeat' (first | with_reducible apply And.intro | intro _)) <;> first | exact (hoth) | assumption | omega | contradiction | simp_all); done) | omega | simp | (simp; omega) | (simp +contextual; omega)) rfl rfl ?_
  refine AOpsO.one tok [1, 3, 13] (by intro C; conv => lhs; simp) (by first | with_reducible exact True.intro | (((repeat' (first | with_reducible apply And.intro | intro _)) <;> first | exact (hoth) | assumption | omega | contradiction | simp_all); done) | omega | simp | (simp; omega) | (simp +contextual; omega)) rfl ?_
  refine AOpsO.one tok [1, 3, 14] (by intro C; conv => lhs; simp) (by first | with_reducible exact True.intro | (((repeat' (first | with_reducible apply And.intro | intro _)) <;> first | exact (hoth) | assumption | omega | contradiction | simp_all); done) | omega | simp | (simp; omega) | (simp +contextual; omega)) rfl ?_
  refine AOpsO.oneIf tok [1, 3, 14, 15] 14 (by intro C; conv => lhs; simp) (by first | with_reducible exact True.intro | (((repeat' (first | with_reducible apply And.intro | intro _)) <;> first | exact (hoth) | assumption | omega | contradiction | simp_all); done) | omega | simp | (simp; omega) | (simp +contextual; omega)) rfl rfl ?_
  refine AOpsO.oneIf tok [1, 3, 14, 16] 14 (by intro C; conv => lhs; simp) (by first | with_reducible exact True.intro | (((repeat' (first | with_reducible apply And.intro | intro _)) <;> first | exact (hoth) | assumption | omega | contradiction | simp_all); done) | omega | simp | (simp; omega) | (simp +contextual; omega)) rfl rfl ?_
  refine AOpsO.oneIf tok [1, 3, 14, 17] 14 (by intro C; conv => lhs; simp) (by first | with_reducible exact True.intro | (((repeat' (first | with_reducible apply And.intro | intro _)) <;> first | exact (hoth) | assumption | omega | contradiction | simp_all); done) | omega | simp | (simp; omega) | (simp +contextual; omega)) rfl rfl ?_
  refine AOpsO.one tok [1, 3, 18] (by intro C; conv => lhs; simp) (by first | with_reducible exact True.intro | (((repeat' (first | with_reducible apply And.intro | intro _)) <;> first | exact (hoth) | assumption | omega | contradiction | simp_all); done) | omega | simp | (simp; omega) | (simp +contextual; omega)) rfl ?_
  refine AOpsO.one tok [1, 3, 19] (by intro C; conv => lhs; simp) (by first | with_reducible exact True.intro | (((repeat' (first | with_reducible apply And.intro | intro _)) <;> first | exact (hoth) | assumption | omega | contradiction | simp_all); done) | omega | simp | (simp; omega) | (simp +contextual; omega)) rfl ?_
  refine AOpsO.oneIf tok [1, 3, 19, 20] 19 (by intro C; conv => lhs; simp) (by first | with_reducible exact True.intro | (((repeat' (first | with_reducible apply And.intro | intro _)) <;> first | exact (hoth) | assumption | omega | contradiction | simp_all); done) | omega | simp | (simp; omega) | (simp +contextual; omega)) rfl rfl ?_
  refine AOpsO.oneIf tok [1, 3, 19, 21] 19 (by intro C; conv => lhs; simp) (by first | with_reducible exact True.intro | (((repeat' (first | with_reducible apply And.intro | intro _)) <;> first | exact (hoth) | assumption | omega | contradiction | simp_all); done) | omega | simp | (simp; omega) | (simp +contextual; omega)) rfl rfl ?_
  refine AOpsO.oneIf tok [1, 3, 19, 22] 19 (by intro C; conv => lhs; simp) (by first | with_reducible exact True.intro | (((repeat' (first | with_reducible apply And.intro | intro _)) <;> first | exact (hoth) | assumption | omega | contradiction | simp_all); done) | omega | simp | (simp; omega) | (simp +contextual; omega)) rfl rfl ?_
  refine AOpsO.one tok [1, 3, 23] (by intro C; conv => lhs; simp) (by first | with_reducible exact True.intro | (((repeat' (first | with_reducible apply And.intro | intro _)) <;> first | exact (hoth) | assumption | omega | contradiction | simp_all); done) | omega | simp | (simp; omega) | (simp +contextual; omega)) rfl ?_
  refine AOpsO.one tok [1, 3, 24] (by intro C; conv => lhs; simp) (by first | with_reducible exact True.intro | (((repeat' (first | with_reducible apply And.intro | intro _)) <;> first | exact (hoth) | assumption | omega | contradiction | simp_all); done) | omega | simp | (simp; omega) | (simp +contextual; omega)) rfl ?_
  refine AOpsO.oneIf tok [1, 3, 24, 25] 24 (by intro C; conv => lhs; simp) (by first | with_reducible exact True.intro | (((repeat' (first | with_reducible apply And.intro | intro _)) <;> first | exact (hoth) | assumption | omega | contradiction | simp_all); done) | omega | simp | (simp; omega) | (simp +contextual; omega)) rfl rfl ?_
  refine AOpsO.oneIf tok [1, 3, 24, 26] 24 (by intro C; conv => lhs; simp) (by first | with_reducible exact True.intro | (((repeat' (first | with_reducible apply And.intro | intro _)) <;> first | exact (hoth) | assumption | omega | contradiction | simp_all); done) | omega | simp | (simp; omega) | (simp +contextual; omega)) rfl rfl ?_
  refine AOpsO.oneIf tok [1, 3, 24, 27] 24 (by intro C; conv => lhs; simp) (by first | with_reducible exact True.intro | (((repeat' (first | with_reducible apply And.intro | intro _)) <;> first | exact (hoth) | assumption | omega | contradiction | simp_all); done) | omega | simp | (simp; omega) | (simp +contextual; omega)) rfl rfl ?_
  refine AOpsO.one tok [1, 3, 28] (by intro C; conv => lhs; simp) (by first | with_reducible exact True.intro | (((repeat' (first | with_reducible apply And.intro | intro _)) <;> first | exact (hoth) | assumption | omega | contradiction | simp_all); done) | omega | simp | (simp; omega) | (simp +contextual; omega)) rfl ?_
  refine AOpsO.one tok [1, 3, 7] (by intro C; conv => lhs; simp) (by first | with_reducible exact True.intro | (((repeat' (first | with_reducible apply And.intro | intro _)) <;> first | exact (hoth) | assumption | omega | contradiction | simp_all); done) | omega | simp | (simp; omega) | (simp +contextual; omega)) rfl ?_
  refine AOpsO.nil ?_
  refine AW.cond (c := .tmp 7) (by conv => lhs; simp) trivial ?_ ?_
  · intro h7
    try simp at h7
    rw [← List.length_eq_zero_iff] at h7
    have hno : dcMay d = false := dcMay_no (by
      rcases h7 with h | h
      · omega
      · right; right; right; right; rw [List.all_eq_false]; obtain ⟨x, hx, h⟩ := h; exact ⟨x, hx, by simp [h]⟩)
    refine AW.seqRegionO [] ?_
    refine AOpsO.one tok [2] (by intro C; conv => lhs; simp) (by first | with_reducible exact True.intro | omega | simp | (simp; omega) | (simp +contextual; omega)) rfl ?_
    refine AOpsO.nil ?_
    exact AW.ret ⟨.inr rfl, _, _, by (conv => lhs; simp), trivial, by simp [hno]⟩
  · intro h7
    try simp at h7
    rw [← List.length_eq_zero_iff] at h7
    have hpos : 0 < d.digits.length := by omega
    have hal : d.digits.all isDig = true := by simpa using h7.2
    rw [dcMay_yes (by omega) hal]
    refine AW.seqRegionO [] ?_
    refine AOpsO.one tok [1, 3, 30] (by intro C; conv => lhs; simp) (by first | with_reducible exact True.intro | omega | simp | (simp; omega) | (simp +contextual; omega)) rfl ?_
    refine AOpsO.one tok [1, 3, 31] (by intro C; conv => lhs; simp) (by first | with_reducible exact True.intro | omega | simp | (simp; omega) | (simp +contextual; omega)) rfl ?_
    refine AOpsO.one tok [1, 3, 32] (by intro C; conv => lhs; simp) (by first | with_reducible exact True.intro | omega | simp | (simp; omega) | (simp +contextual; omega)) rfl ?_
    refine AOpsO.one tok [1, 3, 29] (by intro C; conv => lhs; simp) (by first | with_reducible exact True.intro | omega | simp | (simp; omega) | (simp +contextual; omega)) rfl ?_
    refine AOpsO.nil ?_
    refine AW.cond (c := .tmp 29) (by conv => lhs; simp) trivial ?_ ?_
    · intro h29
      try simp at h29
      refine AW.seqRegionO [] ?_
      refine AOpsO.one tok [1, 33] (by intro C; conv => lhs; simp) (by first | with_reducible exact True.intro | omega | simp | (simp; omega) | (simp +contextual; omega)) rfl ?_
      refine AOpsO.one tok [1, 34] (by intro C; conv => lhs; simp) (by first | with_reducible exact True.intro | omega | simp | (simp; omega) | (simp +contextual; omega)) rfl ?_
      refine AOpsO.one tok [1, 35] (by intro C; conv => lhs; simp) (by first | with_reducible exact True.intro | omega | simp | (simp; omega) | (simp +contextual; omega)) rfl ?_
      refine AOpsO.one tok [1, 36] (by intro C; conv => lhs; simp) (by first | with_reducible exact True.intro | omega | simp | (simp; omega) | (simp +contextual; omega)) rfl ?_
      refine AOpsO.oneIf tok [36, 37] 36 (by intro C; conv => lhs; simp) (by first | with_reducible exact True.intro | omega | simp | (simp; omega) | (simp +contextual; omega)) rfl rfl ?_
      refine AOpsO.oneIf tok [36, 38] 36 (by intro C; conv => lhs; simp) (by first | with_reducible exact True.intro | omega | simp | (simp; omega) | (simp +contextual; omega)) rfl rfl ?_
      refine AOpsO.oneIf tok [36, 39] 36 (by intro C; conv => lhs; simp) (by first | with_reducible exact True.intro | omega | simp | (simp; omega) | (simp +contextual; omega)) rfl rfl ?_
      refine AOpsO.one tok [40] (by intro C; conv => lhs; simp) (by first | with_reducible exact True.intro | omega | simp | (simp; omega) | (simp +contextual; omega)) rfl ?_
      refine AOpsO.one tok [2] (by intro C; conv => lhs; simp) (by first | with_reducible exact True.intro | omega | simp | (simp; omega) | (simp +contextual; omega)) rfl ?_
      refine AOpsO.nil ?_
      exact AW.ret ⟨.inr rfl, _, _, by (conv => lhs; simp), trivial, by simp [h29]⟩
    · intro h29
      try simp at h29
      refine AW.skip ?_
      refine AW.seqRegionO [.int .u8 (byteAt d.digits 0), .int .u8 (byteAt d.digits (d.digits.length - 1))] ?_
      refine AOpsO.one tok [1, 3, 41] (by intro C; conv => lhs; simp) (by first | with_reducible exact True.intro | (((repeat' (first | with_reducible apply And.intro | intro _)) <;> first | omega | assumption | contradiction | exact ⟨_, hix _ (by omega), rfl⟩ | simp_all); done) | omega | simp | (simp; omega) | (simp +contextual; omega)) rfl ?_
      refine AOpsO.one tok [1, 3, 42] (by intro C; conv => lhs; simp) (by first | with_reducible exact True.intro | (((repeat' (first | with_reducible apply And.intro | intro _)) <;> first | omega | assumption | contradiction | exact ⟨_, hix _ (by omega), rfl⟩ | simp_all); done) | omega | simp | (simp; omega) | (simp +contextual; omega)) rfl ?_
      refine AOpsO.one tok [1, 3, 43] (by intro C; conv => lhs; simp) (by first | with_reducible exact True.intro | (((repeat' (first | with_reducible apply And.intro | intro _)) <;> first | omega | assumption | contradiction | exact ⟨_, hix _ (by omega), rfl⟩ | simp_all); done) | omega | simp | (simp; omega) | (simp +contextual; omega)) rfl ?_
      refine AOpsO.one tok [1, 3, 44] (by intro C; conv => lhs; simp) (by first | with_reducible exact True.intro | (((repeat' (first | with_reducible apply And.intro | intro _)) <;> first | omega | assumption | contradiction | exact ⟨_, hix _ (by omega), rfl⟩ | simp_all); done) | omega | simp | (simp; omega) | (simp +contextual; omega)) rfl ?_
      refine AOpsO.one tok [1, 3, 45] (by intro C; conv => lhs; simp) (by first | with_reducible exact True.intro | (((repeat' (first | with_reducible apply And.intro | intro _)) <;> first | omega | assumption | contradiction | exact ⟨_, hix _ (by omega), rfl⟩ | simp_all); done) | omega | simp | (simp; omega) | (simp +contextual; omega)) rfl ?_
      refine AOpsO.oneIf tok [1, 3, 45, 46] 45 (by intro C; conv => lhs; simp) (by first | with_reducible exact True.intro | (((repeat' (first | with_reducible apply And.intro | intro _)) <;> first | omega | assumption | contradiction | exact ⟨_, hix _ (by omega), rfl⟩ | simp_all); done) | omega | simp | (simp; omega) | (simp +contextual; omega)) rfl rfl ?_
      refine AOpsO.oneIf tok [1, 3, 45, 47] 45 (by intro C; conv => lhs; simp) (by first | with_reducible exact True.intro | (((repeat' (first | with_reducible apply And.intro | intro _)) <;> first | omega | assumption | contradiction | exact ⟨_, hix _ (by omega), rfl⟩ | simp_all); done) | omega | simp | (simp; omega) | (simp +contextual; omega)) rfl rfl ?_
      refine AOpsO.oneIf tok [1, 3, 45, 48] 45 (by intro C; conv => lhs; simp) (by first | with_reducible exact True.intro | (((repeat' (first | with_reducible apply And.intro | intro _)) <;> first | omega | assumption | contradiction | exact ⟨_, hix _ (by omega), rfl⟩ | simp_all); done) | omega | simp | (simp; omega) | (simp +contextual; omega)) rfl rfl ?_
      refine AOpsO.oneIf tok [1, 3, 45, 49] 45 (by intro C; conv => lhs; simp) (by first | with_reducible exact True.intro | (((repeat' (first | with_reducible apply And.intro | intro _)) <;> first | omega | assumption | contradiction | exact ⟨_, hix _ (by omega), rfl⟩ | simp_all); done) | omega | simp | (simp; omega) | (simp +contextual; omega)) rfl rfl ?_
      refine AOpsO.oneIf tok [3, 45, 49, 50] 49 (by intro C; conv => lhs; simp) (by first | with_reducible exact True.intro | (((repeat' (first | with_reducible apply And.intro | intro _)) <;> first | omega | assumption | contradiction | exact ⟨_, hix _ (by omega), rfl⟩ | simp_all); done) | omega | simp | (simp; omega) | (simp +contextual; omega)) rfl rfl ?_
      refine AOpsO.oneIf tok [3, 45, 49, 51] 49 (by intro C; conv => lhs; simp) (by first | with_reducible exact True.intro | (((repeat' (first | with_reducible apply And.intro | intro _)) <;> first | omega | assumption | contradiction | exact ⟨_, hix _ (by omega), rfl⟩ | simp_all); done) | omega | simp | (simp; omega) | (simp +contextual; omega)) rfl rfl ?_
      refine AOpsO.oneIf tok [45, 49, 51, 52] 49 (by intro C; conv => lhs; simp) (by first | with_reducible exact True.intro | (((repeat' (first | with_reducible apply And.intro | intro _)) <;> first | omega | assumption | contradiction | exact ⟨_, hix _ (by omega), rfl⟩ | simp_all); done) | omega | simp | (simp; omega) | (simp +contextual; omega)) rfl rfl ?_
      refine AOpsO.oneIf tok [45, 49, 51, 53] 49 (by intro C; conv => lhs; simp) (by first | with_reducible exact True.intro | (((repeat' (first | with_reducible apply And.intro | intro _)) <;> first | omega | assumption | contradiction | exact ⟨_, hix _ (by omega), rfl⟩ | simp_all); done) | omega | simp | (simp; omega) | (simp +contextual; omega)) rfl rfl ?_
      refine AOpsO.oneIf tok [45, 49, 54] 49 (by intro C; conv => lhs; simp) (by first | with_reducible exact True.intro | (((repeat' (first | with_reducible apply And.intro | intro _)) <;> first | omega | assumption | contradiction | exact ⟨_, hix _ (by omega), rfl⟩ | simp_all); done) | omega | simp | (simp; omega) | (simp +contextual; omega)) rfl rfl ?_
      refine AOpsO.oneIf tok [45, 49, 55] 49 (by intro C; conv => lhs; simp) (by first | with_reducible exact True.intro | (((repeat' (first | with_reducible apply And.intro | intro _)) <;> first | omega | assumption | contradiction | exact ⟨_, hix _ (by omega), rfl⟩ | simp_all); done) | omega | simp | (simp; omega) | (simp +contextual; omega)) rfl rfl ?_
      refine AOpsO.oneIf tok [45, 56] 45 (by intro C; conv => lhs; simp) (by first | with_reducible exact True.intro | (((repeat' (first | with_reducible apply And.intro | intro _)) <;> first | omega | assumption | contradiction | exact ⟨_, hix _ (by omega), rfl⟩ | simp_all); done) | omega | simp | (simp; omega) | (simp +contextual; omega)) rfl rfl ?_
      refine AOpsO.one tok [57] (by intro C; conv => lhs; simp) (by first | with_reducible exact True.intro | (((repeat' (first | with_reducible apply And.intro | intro _)) <;> first | omega | assumption | contradiction | exact ⟨_, hix _ (by omega), rfl⟩ | simp_all); done) | omega | simp | (simp; omega) | (simp +contextual; omega)) rfl ?_
      refine AOpsO.one tok [2] (by intro C; conv => lhs; simp) (by first | with_reducible exact True.intro | (((repeat' (first | with_reducible apply And.intro | intro _)) <;> first | omega | assumption | contradiction | exact ⟨_, hix _ (by omega), rfl⟩ | simp_all); done) | omega | simp | (simp; omega) | (simp +contextual; omega)) rfl ?_
      refine AOpsO.nil ?_
      exact AW.ret ⟨.inr rfl, _, _, by (conv => lhs; simp), trivial, by simp [h29]⟩
theorem refDcMay_ev (d : Dc) : AFn Tryd.prog G 21 [d.enc] (.bool (dcMay d)) := by
  refine AFn.introU tok Tryd.func21 (by kernel_rfl) rfl rfl ?_
  simp only [Tryd.f21, enumA, List.map_cons, List.map_nil]
  have hdg := fun k => digit_ev (G := G) (byteAt d.digits k)
  have hix : ∀ k : Nat, k < d.digits.length → d.digits[k]? = some (d.digits.getD k 0) := fun k h => byteAt_get h
  refine AW.seqRegionO [] ?_
  refine AOpsO.one tok [1] (by intro C; conv => lhs; simp) (by first | with_reducible exact True.intro | omega | simp | (simp; omega) | (simp +contextual; omega)) rfl ?_
  refine AOpsO.one tok [1] (by intro C; conv => lhs; simp) (by first | with_reducible exact True.intro | omega | simp | (simp; omega) | (simp +contextual; omega)) rfl ?_
  refine AOpsO.nil ?_
  refine AW.seqRegionO [] ?_
  refine AOpsO.one tok [1, 5] (by intro C; conv => lhs; simp) (by first | with_reducible exact True.intro | omega | simp | (simp; omega) | (simp +contextual; omega)) rfl ?_
  refine AOpsO.one tok [1, 6] (by intro C; conv => lhs; simp) (by first | with_reducible exact True.intro | omega | simp | (simp; omega) | (simp +contextual; omega)) rfl ?_
  refine AOpsO.one tok [1, 7] (by intro C; conv => lhs; simp) (by first | with_reducible exact True.intro | omega | simp | (simp; omega) | (simp +contextual; omega)) rfl ?_
  refine AOpsO.one tok [1, 3] (by intro C; conv => lhs; simp) (by first | with_reducible exact True.intro | omega | simp | (simp; omega) | (simp +contextual; omega)) rfl ?_
  refine AOpsO.nil ?_
  refine AW.seq ?_
  refine AW.seqRegionO [] ?_
  refine AOpsO.one tok [1, 3, 4] (by intro C; conv => lhs; simp) (by first | with_reducible exact True.intro | omega | simp | (simp; omega) | (simp +contextual; omega)) rfl ?_
  refine AOpsO.nil ?_
  refine AW.block ?_
  refine AW.intFactU (i := 3) rfl (by decide) ?_; intro hlen; simp at hlen
  refine AW.loop (α := Nat) (fun k => k ≤ d.digits.length ∧ (d.digits.take k).all isDig = true) (fun k => ⟨upds 63 [(1, .ptr 1 0), (3, .p (.int .i64 d.digits.length)), (4, .p (.int .i64 k))], [], [(1, .vars 24 [.p (.bool d.neg), .p (.str d.digits), .p (.int .i64 d.scale)])], 0⟩) (fun k => d.digits.length - k) (0) ⟨by omega, rfl⟩ ⟨upds_le (by simp), rfl, by simp, by simp⟩ ?_
  rintro k ⟨hk, hall⟩
  refine AW.seq ?_
  refine AW.seqRegionO [] ?_
  refine AOpsO.one tok [1, 3, 4, 8] (by intro C; conv => lhs; simp) (by first | with_reducible exact True.intro | omega | simp | (simp; omega) | (simp +contextual; omega)) rfl ?_
  refine AOpsO.one tok [1, 3, 4, 8, 9] (by intro C; conv => lhs; simp) (by first | with_reducible exact True.intro | omega | simp | (simp; omega) | (simp +contextual; omega)) rfl ?_
  refine AOpsO.one tok [1, 3, 4, 10] (by intro C; conv => lhs; simp) (by first | with_reducible exact True.intro | omega | simp | (simp; omega) | (simp +contextual; omega)) rfl ?_
  refine AOpsO.nil ?_
  refine AW.cond (c := .tmp 10) (by conv => lhs; simp) trivial ?_ ?_
  · intro h10
    try simp at h10
    refine AW.skip ?_
    refine AW.seq ?_
    refine AW.block ?_
    refine AW.seqRegionO [.int .u8 (byteAt d.digits k), .nilp, .bool (digitM (byteAt d.digits k))] ?_
    refine AOpsO.one tok [1, 3, 4, 13] (by intro C; conv => lhs; simp) (by first | with_reducible exact True.intro | (first | exact hdg k | ((repeat' (first | with_reducible apply And.intro | intro _)) <;> first | omega | assumption | contradiction | exact ⟨_, hix _ (by omega), rfl⟩ | simp_all); done) | omega | simp | (simp; omega) | (simp +contextual; omega)) rfl ?_
    refine AOpsO.one tok [1, 3, 4, 14] (by intro C; conv => lhs; simp) (by first | with_reducible exact True.intro | (first | exact hdg k | ((repeat' (first | with_reducible apply And.intro | intro _)) <;> first | omega | assumption | contradiction | exact ⟨_, hix _ (by omega), rfl⟩ | simp_all); done) | omega | simp | (simp; omega) | (simp +contextual; omega)) rfl ?_
    refine AOpsO.one tok [1, 3, 4, 14, 15] (by intro C; conv => lhs; simp) (by first | with_reducible exact True.intro | (first | exact hdg k | ((repeat' (first | with_reducible apply And.intro | intro _)) <;> first | omega | assumption | contradiction | exact ⟨_, hix _ (by omega), rfl⟩ | simp_all); done) | omega | simp | (simp; omega) | (simp +contextual; omega)) rfl ?_
    refine AOpsO.one tok [1, 3, 4, 16] (by intro C; conv => lhs; simp) (by first | with_reducible exact True.intro | (first | exact hdg k | ((repeat' (first | with_reducible apply And.intro | intro _)) <;> first | omega | assumption | contradiction | exact ⟨_, hix _ (by omega), rfl⟩ | simp_all); done) | omega | simp | (simp; omega) | (simp +contextual; omega)) rfl ?_
    refine AOpsO.one tok [1, 3, 4, 17] (by intro C; conv => lhs; simp) (by first | with_reducible exact True.intro | (first | exact hdg k | ((repeat' (first | with_reducible apply And.intro | intro _)) <;> first | omega | assumption | contradiction | exact ⟨_, hix _ (by omega), rfl⟩ | simp_all); done) | omega | simp | (simp; omega) | (simp +contextual; omega)) rfl ?_
    refine AOpsO.one tok [1, 3, 4, 18] (by intro C; conv => lhs; simp) (by first | with_reducible exact True.intro | (first | exact hdg k | ((repeat' (first | with_reducible apply And.intro | intro _)) <;> first | omega | assumption | contradiction | exact ⟨_, hix _ (by omega), rfl⟩ | simp_all); done) | omega | simp | (simp; omega) | (simp +contextual; omega)) rfl ?_
    refine AOpsO.nil ?_
    refine AW.cond (c := .tmp 18) (by conv => lhs; simp) trivial ?_ ?_
    · intro h18
      try simp at h18
      have hno : dcMay d = false := dcMay_no (.inr (.inr (.inr (.inr (by rw [List.all_eq_false]; exact ⟨_, List.mem_of_getElem? (hix k h10), by simpa [isDig, byteAt] using h18⟩)))))
      refine AW.seqRegionO [] ?_
      refine AOpsO.one tok [2] (by intro C; conv => lhs; simp) (by first | with_reducible exact True.intro | omega | simp | (simp; omega) | (simp +contextual; omega)) rfl ?_
      refine AOpsO.nil ?_
      exact AW.ret ⟨.inr rfl, _, _, by (conv => lhs; simp), trivial, by simp [hno]⟩
    · intro h18
      try simp at h18
      refine AW.skip ?_
      refine AW.regionO [] ?_
      refine AOpsO.one tok [1, 3, 11] (by intro C; conv => lhs; simp) (by first | with_reducible exact True.intro | omega | simp | (simp; omega) | (simp +contextual; omega)) rfl ?_
      refine AOpsO.one tok [1, 3, 12] (by intro C; conv => lhs; simp) (by first | with_reducible exact True.intro | omega | simp | (simp; omega) | (simp +contextual; omega)) rfl ?_
      refine AOpsO.one tok [1, 3, 4] (by intro C; conv => lhs; simp) (by first | with_reducible exact True.intro | omega | simp | (simp; omega) | (simp +contextual; omega)) rfl ?_
      refine AOpsO.nil ?_
      exact ⟨k + 1, ⟨by omega, by rw [List.take_add_one, hix k h10, List.all_append, hall]; simpa [isDig, byteAt] using h18⟩, by omega, upds_le (by simp), rfl, by simp, by simp⟩
  · intro h10
    try simp at h10
    rw [List.take_of_length_le (by omega)] at hall
    refine AW.exit ?_
    simp
    refine AW.seq ?_
    refine AW.seqRegionO [] ?_
    refine AOpsO.one tok [1, 3, 19] (by intro C; conv => lhs; simp) (by first | with_reducible exact True.intro | omega | simp | (simp; omega) | (simp +contextual; omega)) rfl ?_
    refine AOpsO.one tok [1, 3, 20] (by intro C; conv => lhs; simp) (by first | with_reducible exact True.intro | omega | simp | (simp; omega) | (simp +contextual; omega)) rfl ?_
    refine AOpsO.one tok [1, 3, 21] (by intro C; conv => lhs; simp) (by first | with_reducible exact True.intro | omega | simp | (simp; omega) | (simp +contextual; omega)) rfl ?_
    refine AOpsO.oneIf tok [1, 3, 21, 22] 21 (by intro C; conv => lhs; simp) (by first | with_reducible exact True.intro | omega | simp | (simp; omega) | (simp +contextual; omega)) rfl rfl ?_
    refine AOpsO.oneIf tok [1, 3, 21, 23] 21 (by intro C; conv => lhs; simp) (by first | with_reducible exact True.intro | omega | simp | (simp; omega) | (simp +contextual; omega)) rfl rfl ?_
    refine AOpsO.one tok [1, 3, 24] (by intro C; conv => lhs; simp) (by first | with_reducible exact True.intro | omega | simp | (simp; omega) | (simp +contextual; omega)) rfl ?_
    refine AOpsO.one tok [1, 3, 25] (by intro C; conv => lhs; simp) (by first | with_reducible exact True.intro | omega | simp | (simp; omega) | (simp +contextual; omega)) rfl ?_
    refine AOpsO.oneIf tok [1, 3, 25, 26] 25 (by intro C; conv => lhs; simp) (by first | with_reducible exact True.intro | omega | simp | (simp; omega) | (simp +contextual; omega)) rfl rfl ?_
    refine AOpsO.oneIf tok [1, 3, 25, 27] 25 (by intro C; conv => lhs; simp) (by first | with_reducible exact True.intro | omega | simp | (simp; omega) | (simp +contextual; omega)) rfl rfl ?_
    refine AOpsO.oneIf tok [1, 3, 25, 28] 25 (by intro C; conv => lhs; simp) (by first | with_reducible exact True.intro | omega | simp | (simp; omega) | (simp +contextual; omega)) rfl rfl ?_
    refine AOpsO.one tok [1, 3, 29] (by intro C; conv => lhs; simp) (by first | with_reducible exact True.intro | omega | simp | (simp; omega) | (simp +contextual; omega)) rfl ?_
    refine AOpsO.one tok [1, 3, 30] (by intro C; conv => lhs; simp) (by first | with_reducible exact True.intro | omega | simp | (simp; omega) | (simp +contextual; omega)) rfl ?_
    refine AOpsO.oneIf tok [1, 3, 30, 31] 30 (by intro C; conv => lhs; simp) (by first | with_reducible exact True.intro | omega | simp | (simp; omega) | (simp +contextual; omega)) rfl rfl ?_
    refine AOpsO.oneIf tok [1, 3, 30, 32] 30 (by intro C; conv => lhs; simp) (by first | with_reducible exact True.intro | omega | simp | (simp; omega) | (simp +contextual; omega)) rfl rfl ?_
    refine AOpsO.oneIf tok [1, 3, 30, 33] 30 (by intro C; conv => lhs; simp) (by first | with_reducible exact True.intro | omega | simp | (simp; omega) | (simp +contextual; omega)) rfl rfl ?_
    refine AOpsO.one tok [1, 3, 34] (by intro C; conv => lhs; simp) (by first | with_reducible exact True.intro | omega | simp | (simp; omega) | (simp +contextual; omega)) rfl ?_
    refine AOpsO.nil ?_
    refine AW.cond (c := .tmp 34) (by conv => lhs; simp) trivial ?_ ?_
    · intro h34
      try simp at h34
      have hno : dcMay d = false := dcMay_no (by omega)
      refine AW.seqRegionO [] ?_
      refine AOpsO.one tok [2] (by intro C; conv => lhs; simp) (by first | with_reducible exact True.intro | omega | simp | (simp; omega) | (simp +contextual; omega)) rfl ?_
      refine AOpsO.nil ?_
      exact AW.ret ⟨.inr rfl, _, _, by (conv => lhs; simp), trivial, by simp [hno]⟩
    · intro h34
      try simp at h34
      rw [dcMay_yes (by omega) hall]
      refine AW.skip ?_
      refine AW.seq ?_
      refine AW.seqRegionO [] ?_
      refine AOpsO.one tok [1, 3, 35] (by intro C; conv => lhs; simp) (by first | with_reducible exact True.intro | omega | simp | (simp; omega) | (simp +contextual; omega)) rfl ?_
      refine AOpsO.one tok [1, 3, 36] (by intro C; conv => lhs; simp) (by first | with_reducible exact True.intro | omega | simp | (simp; omega) | (simp +contextual; omega)) rfl ?_
      refine AOpsO.one tok [1, 3, 37] (by intro C; conv => lhs; simp) (by first | with_reducible exact True.intro | omega | simp | (simp; omega) | (simp +contextual; omega)) rfl ?_
      refine AOpsO.nil ?_
      refine AW.cond (c := .tmp 37) (by conv => lhs; simp) trivial ?_ ?_
      · intro h37
        try simp at h37
        refine AW.seqRegionO [] ?_
        refine AOpsO.one tok [1, 38] (by intro C; conv => lhs; simp) (by first | with_reducible exact True.intro | omega | simp | (simp; omega) | (simp +contextual; omega)) rfl ?_
        refine AOpsO.one tok [1, 39] (by intro C; conv => lhs; simp) (by first | with_reducible exact True.intro | omega | simp | (simp; omega) | (simp +contextual; omega)) rfl ?_
        refine AOpsO.one tok [1, 40] (by intro C; conv => lhs; simp) (by first | with_reducible exact True.intro | omega | simp | (simp; omega) | (simp +contextual; omega)) rfl ?_
        refine AOpsO.one tok [1, 41] (by intro C; conv => lhs; simp) (by first | with_reducible exact True.intro | omega | simp | (simp; omega) | (simp +contextual; omega)) rfl ?_
        refine AOpsO.oneIf tok [41, 42] 41 (by intro C; conv => lhs; simp) (by first | with_reducible exact True.intro | omega | simp | (simp; omega) | (simp +contextual; omega)) rfl rfl ?_
        refine AOpsO.oneIf tok [41, 43] 41 (by intro C; conv => lhs; simp) (by first | with_reducible exact True.intro | omega | simp | (simp; omega) | (simp +contextual; omega)) rfl rfl ?_
        refine AOpsO.oneIf tok [41, 44] 41 (by intro C; conv => lhs; simp) (by first | with_reducible exact True.intro | omega | simp | (simp; omega) | (simp +contextual; omega)) rfl rfl ?_
        refine AOpsO.one tok [45] (by intro C; conv => lhs; simp) (by first | with_reducible exact True.intro | omega | simp | (simp; omega) | (simp +contextual; omega)) rfl ?_
        refine AOpsO.one tok [2] (by intro C; conv => lhs; simp) (by first | with_reducible exact True.intro | omega | simp | (simp; omega) | (simp +contextual; omega)) rfl ?_
        refine AOpsO.nil ?_
        exact AW.ret ⟨.inr rfl, _, _, by (conv => lhs; simp), trivial, by simp [h37]⟩
      · intro h37
        try simp at h37
        refine AW.skip ?_
        refine AW.seqRegionO [.int .u8 (byteAt d.digits 0), .int .u8 (byteAt d.digits (d.digits.length - 1))] ?_
        refine AOpsO.one tok [1, 3, 46] (by intro C; conv => lhs; simp) (by first | with_reducible exact True.intro | (((repeat' (first | with_reducible apply And.intro | intro _)) <;> first | omega | assumption | contradiction | exact ⟨_, hix _ (by omega), rfl⟩ | simp_all); done) | omega | simp | (simp; omega) | (simp +contextual; omega)) rfl ?_
        refine AOpsO.one tok [1, 3, 47] (by intro C; conv => lhs; simp) (by first | with_reducible exact True.intro | (((repeat' (first | with_reducible apply And.intro | intro _)) <;> first | omega | assumption | contradiction | exact ⟨_, hix _ (by omega), rfl⟩ | simp_all); done) | omega | simp | (simp; omega) | (simp +contextual; omega)) rfl ?_
        refine AOpsO.one tok [1, 3, 48] (by intro C; conv => lhs; simp) (by first | with_reducible exact True.intro | (((repeat' (first | with_reducible apply And.intro | intro _)) <;> first | omega | assumption | contradiction | exact ⟨_, hix _ (by omega), rfl⟩ | simp_all); done) | omega | simp | (simp; omega) | (simp +contextual; omega)) rfl ?_
        refine AOpsO.one tok [1, 3, 49] (by intro C; conv => lhs; simp) (by first | with_reducible exact True.intro | (((repeat' (first | with_reducible apply And.intro | intro _)) <;> first | omega | assumption | contradiction | exact ⟨_, hix _ (by omega), rfl⟩ | simp_all); done) | omega | simp | (simp; omega) | (simp +contextual; omega)) rfl ?_
        refine AOpsO.one tok [1, 3, 50] (by intro C; conv => lhs; simp) (by first | with_reducible exact True.intro | (((repeat' (first | with_reducible apply And.intro | intro _)) <;> first | omega | assumption | contradiction | exact ⟨_, hix _ (by omega), rfl⟩ | simp_all); done) | omega | simp | (simp; omega) | (simp +contextual; omega)) rfl ?_
        refine AOpsO.oneIf tok [1, 3, 50, 51] 50 (by intro C; conv => lhs; simp) (by first | with_reducible exact True.intro | (((repeat' (first | with_reducible apply And.intro | intro _)) <;> first | omega | assumption | contradiction | exact ⟨_, hix _ (by omega), rfl⟩ | simp_all); done) | omega | simp | (simp; omega) | (simp +contextual; omega)) rfl rfl ?_
        refine AOpsO.oneIf tok [1, 3, 50, 52] 50 (by intro C; conv => lhs; simp) (by first | with_reducible exact True.intro | (((repeat' (first | with_reducible apply And.intro | intro _)) <;> first | omega | assumption | contradiction | exact ⟨_, hix _ (by omega), rfl⟩ | simp_all); done) | omega | simp | (simp; omega) | (simp +contextual; omega)) rfl rfl ?_
        refine AOpsO.oneIf tok [1, 3, 50, 53] 50 (by intro C; conv => lhs; simp) (by first | with_reducible exact True.intro | (((repeat' (first | with_reducible apply And.intro | intro _)) <;> first | omega | assumption | contradiction | exact ⟨_, hix _ (by omega), rfl⟩ | simp_all); done) | omega | simp | (simp; omega) | (simp +contextual; omega)) rfl rfl ?_
        refine AOpsO.oneIf tok [1, 3, 50, 54] 50 (by intro C; conv => lhs; simp) (by first | with_reducible exact True.intro | (((repeat' (first | with_reducible apply And.intro | intro _)) <;> first | omega | assumption | contradiction | exact ⟨_, hix _ (by omega), rfl⟩ | simp_all); done) | omega | simp | (simp; omega) | (simp +contextual; omega)) rfl rfl ?_
        refine AOpsO.oneIf tok [3, 50, 54, 55] 54 (by intro C; conv => lhs; simp) (by first | with_reducible exact True.intro | (((repeat' (first | with_reducible apply And.intro | intro _)) <;> first | omega | assumption | contradiction | exact ⟨_, hix _ (by omega), rfl⟩ | simp_all); done) | omega | simp | (simp; omega) | (simp +contextual; omega)) rfl rfl ?_
        refine AOpsO.oneIf tok [3, 50, 54, 56] 54 (by intro C; conv => lhs; simp) (by first | with_reducible exact True.intro | (((repeat' (first | with_reducible apply And.intro | intro _)) <;> first | omega | assumption | contradiction | exact ⟨_, hix _ (by omega), rfl⟩ | simp_all); done) | omega | simp | (simp; omega) | (simp +contextual; omega)) rfl rfl ?_
        refine AOpsO.oneIf tok [50, 54, 56, 57] 54 (by intro C; conv => lhs; simp) (by first | with_reducible exact True.intro | (((repeat' (first | with_reducible apply And.intro | intro _)) <;> first | omega | assumption | contradiction | exact ⟨_, hix _ (by omega), rfl⟩ | simp_all); done) | omega | simp | (simp; omega) | (simp +contextual; omega)) rfl rfl ?_
        refine AOpsO.oneIf tok [50, 54, 56, 58] 54 (by intro C; conv => lhs; simp) (by first | with_reducible exact True.intro | (((repeat' (first | with_reducible apply And.intro | intro _)) <;> first | omega | assumption | contradiction | exact ⟨_, hix _ (by omega), rfl⟩ | simp_all); done) | omega | simp | (simp; omega) | (simp +contextual; omega)) rfl rfl ?_
        refine AOpsO.oneIf tok [50, 54, 59] 54 (by intro C; conv => lhs; simp) (by first | with_reducible exact True.intro | (((repeat' (first | with_reducible apply And.intro | intro _)) <;> first | omega | assumption | contradiction | exact ⟨_, hix _ (by omega), rfl⟩ | simp_all); done) | omega | simp | (simp; omega) | (simp +contextual; omega)) rfl rfl ?_
        refine AOpsO.oneIf tok [50, 54, 60] 54 (by intro C; conv => lhs; simp) (by first | with_reducible exact True.intro | (((repeat' (first | with_reducible apply And.intro | intro _)) <;> first | omega | assumption | contradiction | exact ⟨_, hix _ (by omega), rfl⟩ | simp_all); done) | omega | simp | (simp; omega) | (simp +contextual; omega)) rfl rfl ?_
        refine AOpsO.oneIf tok [50, 61] 50 (by intro C; conv => lhs; simp) (by first | with_reducible exact True.intro | (((repeat' (first | with_reducible apply And.intro | intro _)) <;> first | omega | assumption | contradiction | exact ⟨_, hix _ (by omega), rfl⟩ | simp_all); done) | omega | simp | (simp; omega) | (simp +contextual; omega)) rfl rfl ?_
        refine AOpsO.one tok [62] (by intro C; conv => lhs; simp) (by first | with_reducible exact True.intro | (((repeat' (first | with_reducible apply And.intro | intro _)) <;> first | omega | assumption | contradiction | exact ⟨_, hix _ (by omega), rfl⟩ | simp_all); done) | omega | simp | (simp; omega) | (simp +contextual; omega)) rfl ?_
        refine AOpsO.one tok [2] (by intro C; conv => lhs; simp) (by first | with_reducible exact True.intro | (((repeat' (first | with_reducible apply And.intro | intro _)) <;> first | omega | assumption | contradiction | exact ⟨_, hix _ (by omega), rfl⟩ | simp_all); done) | omega | simp | (simp; omega) | (simp +contextual; omega)) rfl ?_
        refine AOpsO.nil ?_
        exact AW.ret ⟨.inr rfl, _, _, by (conv => lhs; simp), trivial, by simp [h37]⟩
end Go.Proofs.YtgoepemmcibdaaaDoor
/-
  A PLAIN LAW: decimals: the value of digits; limbs; their order.
-/
namespace Go.Proofs.YtgoepemmcibdaaaDoor
open Sy Go
set_option linter.unusedSimpArgs false
set_option linter.unusedVariables false
/-- The value of digits. -/
def valD (s : List UInt8) : Nat := s.foldl (fun n b => n * 10 + (b.toNat - 48)) 0
def dv (b : UInt8) : Nat := b.toNat - 48
theorem isDig_iff (b : UInt8) : isDig b = true ↔ 48 ≤ b.toNat ∧ b.toNat ≤ 57 := by simp [isDig, digitM]; omega
theorem valD_foldl (s : List UInt8) : ∀ n, s.foldl (fun n b => n * 10 + (b.toNat - 48)) n = n * 10 ^ s.length + valD s := by
  induction s with
  | nil => intro n; simp [valD]
  | cons b s ih =>
    intro n
    have e : valD (b :: s) = (b.toNat - 48) * 10 ^ s.length + valD s := by unfold valD; rw [List.foldl_cons, ih]; simp [valD]
    rw [List.foldl_cons, ih, e, List.length_cons, Nat.pow_succ, Nat.add_mul, Nat.mul_assoc, Nat.mul_comm 10, Nat.add_assoc]
theorem valD_cons (b : UInt8) (s : List UInt8) : valD (b :: s) = (b.toNat - 48) * 10 ^ s.length + valD s := by
  unfold valD; rw [List.foldl_cons, valD_foldl]; simp [valD]
theorem valD_append (s t : List UInt8) : valD (s ++ t) = valD s * 10 ^ t.length + valD t := by
  unfold valD; rw [List.foldl_append, valD_foldl]; rfl
theorem valD_snoc (s : List UInt8) (b : UInt8) : valD (s ++ [b]) = valD s * 10 + (b.toNat - 48) := by rw [valD_append]; simp [valD]
theorem valD_nil : valD [] = 0 := rfl
theorem valD_lt {s : List UInt8} (h : s.all isDig = true) : valD s < 10 ^ s.length := by
  induction s with
  | nil => simp [valD]
  | cons b s ih =>
    simp only [List.all_cons, Bool.and_eq_true] at h
    have h1 := (isDig_iff b).1 h.1
    have h2 := ih h.2
    rw [valD_cons, List.length_cons, Nat.pow_succ]
    have : b.toNat - 48 ≤ 9 := by omega
    have := Nat.mul_le_mul_right (10 ^ s.length) this
    omega
theorem zeros_rep (n : Nat) : Lib.repeatL [48] n = List.replicate n 48 := by
  induction n with
  | zero => rfl
  | succ n ih => simp [Lib.repeatL, ih, List.replicate_succ]
theorem valD_zeros (n : Nat) : valD (List.replicate n 48) = 0 := by
  induction n with
  | zero => rfl
  | succ n ih => rw [List.replicate_succ, valD_cons, ih]; simp
theorem valD_pad (s : List UInt8) (n : Nat) : valD (s ++ List.replicate n 48) = valD s * 10 ^ n := by rw [valD_append, valD_zeros]; simp
theorem dig_pad {s : List UInt8} (h : s.all isDig = true) (n : Nat) : (s ++ List.replicate n 48).all isDig = true := by
  rw [List.all_append, h]
  have : (List.replicate n (48 : UInt8)).all isDig = true := List.all_eq_true.2 fun b hb => by rw [(List.mem_replicate.1 hb).2]; rfl
  rw [this]; rfl
/-! ### Limbs -/
def base9 : Nat := 1000000000
def limbV : List Nat → Nat
  | [] => 0
  | x :: xs => x + base9 * limbV xs
def okL (l : List Nat) : Prop := ∀ x ∈ l, x < base9
def trimL0 (l : List Nat) : List Nat := (l.reverse.dropWhile (· == 0)).reverse
def limbAt (s : List UInt8) (e : Nat) : Nat := valD ((s.take e).drop (e - 9))
def limbsF (s : List UInt8) : Nat → Nat → List Nat
  | 0, _ => []
  | f + 1, e => if 0 < e then limbAt s e :: limbsF s f (e - 9) else []
theorem limbsF_fuel (s : List UInt8) : ∀ (f g e : Nat), e ≤ f → e ≤ g → limbsF s f e = limbsF s g e
  | 0, 0, _, _, _ => rfl
  | 0, g + 1, e, h, _ => by simp only [limbsF]; rw [if_neg (by omega)]
  | f + 1, 0, e, _, h => by simp only [limbsF]; rw [if_neg (by omega)]
  | f + 1, g + 1, e, h1, h2 => by
    simp only [limbsF]
    split
    · rw [limbsF_fuel s f g _ (by omega) (by omega)]
    · rfl
def limbs (s : List UInt8) (e : Nat) : List Nat := limbsF s e e
theorem limbs_pos {s : List UInt8} {e : Nat} (h : 0 < e) : limbs s e = limbAt s e :: limbs s (e - 9) := by
  unfold limbs
  rw [show e = (e - 1) + 1 by omega]
  simp only [limbsF]
  rw [if_pos (by omega), limbsF_fuel s (e - 1) (e - 1 + 1 - 9) _ (by omega) (by omega)]
theorem limbs_zero (s : List UInt8) : limbs s 0 = [] := rfl
theorem all_take {s : List UInt8} (h : s.all isDig = true) (n : Nat) : (s.take n).all isDig = true := by
  rw [List.all_eq_true] at h ⊢; exact fun b hb => h b (List.mem_of_mem_take hb)
theorem all_drop {s : List UInt8} (h : s.all isDig = true) (n : Nat) : (s.drop n).all isDig = true := by
  rw [List.all_eq_true] at h ⊢; exact fun b hb => h b (List.mem_of_mem_drop hb)
theorem limbAt_lt {s : List UInt8} (h : s.all isDig = true) (e : Nat) : limbAt s e < base9 := by
  have h1 := valD_lt (all_drop (all_take h e) (e - 9))
  have h2 : ((s.take e).drop (e - 9)).length ≤ 9 := by simp; omega
  have := Nat.pow_le_pow_right (n := 10) (by omega) h2
  unfold limbAt base9; omega
theorem limbs_ok {s : List UInt8} (h : s.all isDig = true) : ∀ (f e : Nat), e ≤ f → okL (limbs s e)
  | 0, e, he => by rw [show e = 0 by omega, limbs_zero]; intro x hx; cases hx
  | f + 1, e, he => by
    by_cases hp : 0 < e
    · rw [limbs_pos hp]
      intro x hx
      rcases List.mem_cons.1 hx with rfl | hx
      · exact limbAt_lt h e
      · exact limbs_ok h f (e - 9) (by omega) x hx
    · rw [show e = 0 by omega, limbs_zero]; intro x hx; cases hx
theorem limbs_val {s : List UInt8} (h : s.all isDig = true) : ∀ (f e : Nat), e ≤ f → e ≤ s.length → limbV (limbs s e) = valD (s.take e)
  | 0, e, he, _ => by rw [show e = 0 by omega, limbs_zero]; rfl
  | f + 1, e, he, hs => by
    by_cases hp : 0 < e
    · rw [limbs_pos hp]
      simp only [limbV]
      rw [limbs_val h f (e - 9) (by omega) (by omega)]
      have e1 : s.take e = s.take (e - 9) ++ (s.take e).drop (e - 9) := by
        have h2 := List.take_append_drop (e - 9) (s.take e)
        rw [List.take_take, Nat.min_eq_left (by omega)] at h2
        exact h2.symm
      have e2 : valD (s.take e) = valD (s.take (e - 9)) * 10 ^ ((s.take e).drop (e - 9)).length + limbAt s e := by
        rw [e1, valD_append, ← e1]; rfl
      rw [e2]
      by_cases h9 : 9 ≤ e
      · have : ((s.take e).drop (e - 9)).length = 9 := by simp; omega
        rw [this]; unfold base9; omega
      · rw [show e - 9 = 0 by omega]; simp [valD]
    · rw [show e = 0 by omega, limbs_zero]; rfl
theorem trimL0_snoc (l : List Nat) (x : Nat) : trimL0 (l ++ [x]) = if x = 0 then trimL0 l else l ++ [x] := by
  unfold trimL0
  rw [List.reverse_append]
  simp only [List.reverse_cons, List.reverse_nil, List.nil_append, List.singleton_append, List.dropWhile_cons]
  by_cases h : x = 0
  · simp [h]
  · simp [h]
theorem limbV_snoc (l : List Nat) (x : Nat) : limbV (l ++ [x]) = limbV l + base9 ^ l.length * x := by
  induction l with
  | nil => simp [limbV]
  | cons a l ih => simp only [List.cons_append, limbV, ih, List.length_cons, Nat.pow_succ, Nat.mul_add]; rw [Nat.add_assoc, Nat.mul_comm (base9 ^ l.length) base9, Nat.mul_assoc]
theorem snocRec {p : List Nat → Prop} (h0 : p []) (h1 : ∀ l x, p l → p (l ++ [x])) (l : List Nat) : p l := by
  have : ∀ r : List Nat, p r.reverse := by
    intro r
    induction r with
    | nil => exact h0
    | cons a r ih => rw [List.reverse_cons]; exact h1 _ _ ih
  simpa using this l.reverse
theorem trimL0_val (l : List Nat) : limbV (trimL0 l) = limbV l := by
  refine snocRec (p := fun l => limbV (trimL0 l) = limbV l) rfl (fun l x ih => ?_) l
  rw [trimL0_snoc]
  split
  · rename_i h; rw [ih, limbV_snoc, h]; simp
  · rfl
theorem trimL0_ok {l : List Nat} (h : okL l) : okL (trimL0 l) := by
  intro x hx
  unfold trimL0 at hx
  rw [List.mem_reverse] at hx
  exact h x (List.mem_reverse.1 ((List.dropWhile_sublist _).subset hx))
/-- Nothing but a limb that is not nought stands at the end. -/
def canL (l : List Nat) : Prop := okL l ∧ l.getLast? ≠ some 0
theorem trimL0_can {l : List Nat} (h : okL l) : canL (trimL0 l) := by
  refine ⟨trimL0_ok h, ?_⟩
  refine snocRec (p := fun l => (trimL0 l).getLast? ≠ some 0) (by simp [trimL0]) (fun l x ih => ?_) l
  rw [trimL0_snoc]
  split
  · exact ih
  · rename_i h; simp; exact h
theorem limbV_lt {l : List Nat} (h : okL l) : limbV l < base9 ^ l.length := by
  induction l with
  | nil => simp [limbV]
  | cons a l ih =>
    have h1 := h a (by simp)
    have h2 := ih fun x hx => h x (by simp [hx])
    simp only [limbV, List.length_cons, Nat.pow_succ]
    have : base9 * (limbV l + 1) ≤ base9 * base9 ^ l.length := Nat.mul_le_mul_left _ h2
    rw [Nat.mul_comm (base9 ^ l.length)]
    rw [Nat.mul_add] at this; omega
theorem limbV_ge {l : List Nat} (h : l ≠ []) (hc : l.getLast? ≠ some 0) : base9 ^ (l.length - 1) ≤ limbV l := by
  have hs : l = l.dropLast ++ [l.getLast h] := (List.dropLast_concat_getLast h).symm
  have hx : l.getLast h ≠ 0 := fun e => hc (by rw [← e]; exact List.getLast?_eq_some_getLast h)
  have hv : limbV l = limbV l.dropLast + base9 ^ l.dropLast.length * l.getLast h := by
    conv => lhs; rw [hs]
    exact limbV_snoc _ _
  rw [hv, List.length_dropLast]
  have : base9 ^ (l.length - 1) * 1 ≤ base9 ^ (l.length - 1) * l.getLast h := Nat.mul_le_mul_left _ (by omega)
  omega
theorem limb_len {l m : List Nat} (hl : canL l) (hm : canL m) (h : l.length < m.length) : limbV l < limbV m := by
  have h1 := limbV_lt hl.1
  have h2 := limbV_ge (l := m) (by rintro rfl; simp at h) hm.2
  have h3 : base9 ^ l.length ≤ base9 ^ (m.length - 1) := Nat.pow_le_pow_right (by decide) (by omega)
  omega
/-- How the program orders rows of limbs. -/
def topCmp (l m : List Nat) : Nat → Int
  | 0 => 0
  | i + 1 => if l.getD i 0 = m.getD i 0 then topCmp l m i else if l.getD i 0 < m.getD i 0 then -1 else 1
def natCmp (l m : List Nat) : Int := if l.length ≠ m.length then (l.length : Int) - m.length else topCmp l m l.length
theorem take_snocD {l : List Nat} {i : Nat} (h : i < l.length) : l.take (i + 1) = l.take i ++ [l.getD i 0] := by
  rw [List.take_succ_eq_append_getElem h]; simp [List.getD_eq_getElem?_getD, h]
theorem topCmp_spec {l m : List Nat} (hl : okL l) (hm : okL m) (hlen : l.length = m.length) : ∀ i, i ≤ l.length →
    topCmp l m i = if limbV (l.take i) < limbV (m.take i) then -1 else if limbV (l.take i) = limbV (m.take i) then 0 else 1
  | 0, _ => by simp [topCmp, limbV]
  | i + 1, hi => by
    have h1 := limbV_lt (l := l.take i) fun x hx => hl x (List.mem_of_mem_take hx)
    have h2 := limbV_lt (l := m.take i) fun x hx => hm x (List.mem_of_mem_take hx)
    have e1 : (l.take i).length = i := by simp; omega
    have e2 : (m.take i).length = i := by simp; omega
    rw [e1] at h1
    rw [e2] at h2
    rw [take_snocD (by omega), take_snocD (by omega), limbV_snoc, limbV_snoc, e1, e2]
    simp only [topCmp]
    by_cases h : l.getD i 0 = m.getD i 0
    · rw [if_pos h, topCmp_spec hl hm hlen i (by omega), h]
      have a1 : (limbV (l.take i) + base9 ^ i * m.getD i 0 < limbV (m.take i) + base9 ^ i * m.getD i 0) = (limbV (l.take i) < limbV (m.take i)) := propext (by omega)
      have a2 : (limbV (l.take i) + base9 ^ i * m.getD i 0 = limbV (m.take i) + base9 ^ i * m.getD i 0) = (limbV (l.take i) = limbV (m.take i)) := propext (by omega)
      simp only [a1, a2]
    · rw [if_neg h]
      by_cases h3 : l.getD i 0 < m.getD i 0
      · rw [if_pos h3]
        have := Nat.mul_le_mul_left (base9 ^ i) (show l.getD i 0 + 1 ≤ m.getD i 0 by omega)
        rw [Nat.mul_add, Nat.mul_one] at this
        rw [if_pos (by omega)]
      · rw [if_neg h3]
        have := Nat.mul_le_mul_left (base9 ^ i) (show m.getD i 0 + 1 ≤ l.getD i 0 by omega)
        rw [Nat.mul_add, Nat.mul_one] at this
        rw [if_neg (by omega), if_neg (by omega)]
def sgn (n : Int) : Int := if n < 0 then -1 else if n = 0 then 0 else 1
theorem natCmp_spec {l m : List Nat} (hl : canL l) (hm : canL m) : sgn (natCmp l m) = sgn ((limbV l : Int) - limbV m) := by
  unfold natCmp
  by_cases h : l.length = m.length
  · rw [if_neg (by omega), topCmp_spec hl.1 hm.1 h l.length (Nat.le_refl _), List.take_length, h, List.take_length]
    unfold sgn
    split
    · rw [if_pos (by omega), if_pos (by omega)]
    · split
      · rw [if_neg (by omega), if_pos rfl, if_neg (by omega), if_pos (by omega)]
      · rw [if_neg (by omega), if_neg (by omega), if_neg (by omega), if_neg (by omega)]
  · rw [if_pos h]
    unfold sgn
    rcases Nat.lt_or_gt_of_ne h with h1 | h1
    · have := limb_len hl hm h1
      rw [if_pos (by omega), if_pos (by omega)]
    · have := limb_len hm hl h1
      rw [if_neg (by omega), if_neg (by omega), if_neg (by omega), if_neg (by omega)]
theorem natCmp_range (l m : List Nat) (h1 : l.length ≤ 1000000) (h2 : m.length ≤ 1000000) : -1000000 ≤ natCmp l m ∧ natCmp l m ≤ 1000000 := by
  unfold natCmp
  split
  · omega
  · have : ∀ i, -1 ≤ topCmp l m i ∧ topCmp l m i ≤ 1 := by
      intro i
      induction i with
      | zero => simp [topCmp]
      | succ i ih => simp only [topCmp]; split; · exact ih
                     · split <;> omega
    have := this l.length; omega
def natL (s : List UInt8) : List Nat := trimL0 (limbs s s.length)
theorem natL_can {s : List UInt8} (h : s.all isDig = true) : canL (natL s) := trimL0_can (limbs_ok h _ _ (Nat.le_refl _))
theorem natL_val {s : List UInt8} (h : s.all isDig = true) : limbV (natL s) = valD s := by
  unfold natL; rw [trimL0_val, limbs_val h _ _ (Nat.le_refl _) (Nat.le_refl _), List.take_length]
theorem limbs_len (s : List UInt8) : ∀ (f e : Nat), e ≤ f → (limbs s e).length ≤ e
  | 0, e, he => by rw [show e = 0 by omega, limbs_zero]; simp
  | f + 1, e, he => by
    by_cases hp : 0 < e
    · rw [limbs_pos hp]; have := limbs_len s f (e - 9) (by omega); simp; omega
    · rw [show e = 0 by omega, limbs_zero]; simp
theorem natL_len (s : List UInt8) : (natL s).length ≤ s.length := by
  have h1 : (natL s).length ≤ (limbs s s.length).length := by
    unfold natL trimL0; rw [List.length_reverse]; have := (List.dropWhile_sublist (fun x : Nat => x == 0) (l := (limbs s s.length).reverse)).length_le; simpa using this
  have := limbs_len s _ s.length (Nat.le_refl _); omega
end Go.Proofs.YtgoepemmcibdaaaDoor
namespace Go.Proofs.YtgoepemmcibdaaaDoor
open Sy Go
set_option maxRecDepth 100000
set_option maxHeartbeats 4000000
set_option linter.unusedSimpArgs false
set_option linter.unusedVariables false
variable {G : Glob}

@[simp] def limbP (n : Nat) : PD := .int .u64 n
theorem limbP_len (l : List Nat) : (l.map limbP).length = l.length := by simp
theorem trim_ev (l : List Nat) : AFn Tryd.prog G 70 [.sl 1 (l.map limbP)] (.sl 1 ((trimL0 l).map limbP)) := by
  refine AFn.introU tok Tryd.func70 (by kernel_rfl) rfl rfl ?_
  simp only [Tryd.f70, enumA, List.map_cons, List.map_nil]
  refine AW.seqRegionO [] ?_
  refine AOpsO.one tok [0] (by intro C; conv => lhs; simp) (by first | with_reducible exact True.intro | omega | simp | (simp; omega) | (simp +contextual; omega)) rfl ?_
  refine AOpsO.nil ?_
  refine AW.seq ?_
  refine AW.block ?_
  refine AW.loop (α := List Nat) (fun r => trimL0 r = trimL0 l) (fun r => ⟨upds 21 [(0, .p (.sl 1 (r.map limbP)))], [], [], 0⟩) (fun r => r.length) (l) rfl ⟨upds_le (by simp), rfl, by simp, by simp⟩ ?_
  rintro r hr
  refine AW.slFactU (i := 0) rfl (by decide) ?_
  intro hlen
  simp at hlen
  have hlast : 0 < r.length → r[r.length - 1]? = some (r.getD (r.length - 1) 0) := fun h => by simp [List.getD_eq_getElem?_getD, show r.length - 1 < r.length by omega]
  refine AW.seq ?_
  refine AW.seqRegionO [.int .u64 (r.getD (r.length - 1) 0 : Nat)] ?_
  refine AOpsO.one tok [0, 3] (by intro C; conv => lhs; simp) (by first | with_reducible exact True.intro | ((intro h; refine ⟨h, by omega, _, hlast h, ?_⟩; simp); done) | omega | simp | (simp; omega) | (simp +contextual; omega)) rfl ?_
  refine AOpsO.one tok [0, 4] (by intro C; conv => lhs; simp) (by first | with_reducible exact True.intro | ((intro h; refine ⟨h, by omega, _, hlast h, ?_⟩; simp); done) | omega | simp | (simp; omega) | (simp +contextual; omega)) rfl ?_
  refine AOpsO.one tok [0, 5] (by intro C; conv => lhs; simp) (by first | with_reducible exact True.intro | ((intro h; refine ⟨h, by omega, _, hlast h, ?_⟩; simp); done) | omega | simp | (simp; omega) | (simp +contextual; omega)) rfl ?_
  refine AOpsO.one tok [0, 6] (by intro C; conv => lhs; simp) (by first | with_reducible exact True.intro | ((intro h; refine ⟨h, by omega, _, hlast h, ?_⟩; simp); done) | omega | simp | (simp; omega) | (simp +contextual; omega)) rfl ?_
  refine AOpsO.oneIf tok [0, 6, 7] 6 (by intro C; conv => lhs; simp) (by first | with_reducible exact True.intro | ((intro h; refine ⟨h, by omega, _, hlast h, ?_⟩; simp); done) | omega | simp | (simp; omega) | (simp +contextual; omega)) rfl rfl ?_
  refine AOpsO.oneIf tok [0, 6, 7, 8] 6 (by intro C; conv => lhs; simp) (by first | with_reducible exact True.intro | ((intro h; refine ⟨h, by omega, _, hlast h, ?_⟩; simp); done) | omega | simp | (simp; omega) | (simp +contextual; omega)) rfl rfl ?_
  refine AOpsO.oneIf tok [0, 6, 7, 9] 6 (by intro C; conv => lhs; simp) (by first | with_reducible exact True.intro | ((intro h; refine ⟨h, by omega, _, hlast h, ?_⟩; simp); done) | omega | simp | (simp; omega) | (simp +contextual; omega)) rfl rfl ?_
  refine AOpsO.oneIf tok [0, 6, 7, 10] 6 (by intro C; conv => lhs; simp) (by first | with_reducible exact True.intro | ((intro h; refine ⟨h, by omega, _, hlast h, ?_⟩; simp); done) | omega | simp | (simp; omega) | (simp +contextual; omega)) rfl rfl ?_
  refine AOpsO.oneIf tok [0, 6, 11] 6 (by intro C; conv => lhs; simp) (by first | with_reducible exact True.intro | ((intro h; refine ⟨h, by omega, _, hlast h, ?_⟩; simp); done) | omega | simp | (simp; omega) | (simp +contextual; omega)) rfl rfl ?_
  refine AOpsO.oneIf tok [0, 6, 12] 6 (by intro C; conv => lhs; simp) (by first | with_reducible exact True.intro | ((intro h; refine ⟨h, by omega, _, hlast h, ?_⟩; simp); done) | omega | simp | (simp; omega) | (simp +contextual; omega)) rfl rfl ?_
  refine AOpsO.oneIf tok [0, 6, 13] 6 (by intro C; conv => lhs; simp) (by first | with_reducible exact True.intro | ((intro h; refine ⟨h, by omega, _, hlast h, ?_⟩; simp); done) | omega | simp | (simp; omega) | (simp +contextual; omega)) rfl rfl ?_
  refine AOpsO.one tok [0, 14] (by intro C; conv => lhs; simp) (by first | with_reducible exact True.intro | ((intro h; refine ⟨h, by omega, _, hlast h, ?_⟩; simp); done) | omega | simp | (simp; omega) | (simp +contextual; omega)) rfl ?_
  refine AOpsO.nil ?_
  refine AW.cond (c := .tmp 14) (by conv => lhs; simp) trivial ?_ ?_
  · intro h14
    try simp at h14
    obtain ⟨s, x, rfl⟩ : ∃ s x, r = s ++ [x] := ⟨r.dropLast, r.getLast (by rintro rfl; simp at h14), (List.dropLast_concat_getLast _).symm⟩
    simp at h14
    subst h14
    have hr' : trimL0 s = trimL0 l := by rw [← hr, trimL0_snoc]; simp
    have hsl : (s.length : Int) ≤ 9223372036854775807 := by simp at hlen; omega
    refine AW.skip ?_
    refine AW.block ?_
    refine AW.regionO [] ?_
    refine AOpsO.one tok [0, 15] (by intro C; conv => lhs; simp) (by first | with_reducible exact True.intro | omega | simp | (simp; omega) | (simp +contextual; omega)) rfl ?_
    refine AOpsO.one tok [15, 16] (by intro C; conv => lhs; simp) (by first | with_reducible exact True.intro | omega | simp | (simp; omega) | (simp +contextual; omega)) rfl ?_
    refine AOpsO.one tok [15, 17] (by intro C; conv => lhs; simp) (by first | with_reducible exact True.intro | omega | simp | (simp; omega) | (simp +contextual; omega)) rfl ?_
    refine AOpsO.one tok [15, 18] (by intro C; conv => lhs; simp) (by first | with_reducible exact True.intro | omega | simp | (simp; omega) | (simp +contextual; omega)) rfl ?_
    refine AOpsO.one tok [19] (by intro C; conv => lhs; simp) (by first | with_reducible exact True.intro | omega | simp | (simp; omega) | (simp +contextual; omega)) rfl ?_
    refine AOpsO.one tok [0] (by intro C; conv => lhs; simp) (by first | with_reducible exact True.intro | omega | simp | (simp; omega) | (simp +contextual; omega)) rfl ?_
    refine AOpsO.nil ?_
    exact ⟨s, hr', by simp, upds_le (by simp), rfl, by simp, by simp⟩
  · intro h14
    try simp at h14
    have hN : trimL0 r = r := by
      refine snocRec (p := fun r => (0 < r.length → ¬ r.getD (r.length - 1) 0 = 0) → trimL0 r = r) (fun _ => rfl) (fun s x _ h => ?_) r (fun h => by have := h14 h; simpa using this)
      have := h (by simp)
      rw [trimL0_snoc, if_neg (by simpa using this)]
    rw [← hr, hN]
    refine AW.exit ?_
    simp
    refine AW.seqRegionO [] ?_
    refine AOpsO.one tok [20] (by intro C; conv => lhs; simp) (by first | with_reducible exact True.intro | omega | simp | (simp; omega) | (simp +contextual; omega)) rfl ?_
    refine AOpsO.one tok [2] (by intro C; conv => lhs; simp) (by first | with_reducible exact True.intro | omega | simp | (simp; omega) | (simp +contextual; omega)) rfl ?_
    refine AOpsO.nil ?_
    exact AW.ret ⟨.inr rfl, _, _, by (conv => lhs; simp), trivial, by simp⟩
theorem wrap_u64 {x : Int} (h0 : 0 ≤ x) (h1 : x < 18446744073709551616) : IntKind.u64.wrap x = x := by simp [IntKind.wrap, IntKind.bits, IntKind.signed]; omega
theorem wrap_u8 {x : Int} (h0 : 0 ≤ x) (h1 : x < 256) : IntKind.u8.wrap x = x := by simp [IntKind.wrap, IntKind.bits, IntKind.signed]; omega
theorem natOf_ev (s : List UInt8) (hs : s.all isDig = true) (hl : s.length ≤ 1000000) : AFn Tryd.prog G 61 [.str s] (.sl 1 ((natL s).map limbP)) := by
  refine AFn.introU tok Tryd.func61 (by kernel_rfl) rfl rfl ?_
  simp only [Tryd.f61, enumA, List.map_cons, List.map_nil]
  refine AW.seqRegionO [] ?_
  refine AOpsO.one tok [0] (by intro C; conv => lhs; simp) (by first | with_reducible exact True.intro | omega | simp | (simp; omega) | (simp +contextual; omega)) rfl ?_
  refine AOpsO.nil ?_
  refine AW.seqRegionO [] ?_
  refine AOpsO.one tok [0, 3] (by intro C; conv => lhs; simp) (by first | with_reducible exact True.intro | omega | simp | (simp; omega) | (simp +contextual; omega)) rfl ?_
  refine AOpsO.nil ?_
  refine AW.seq ?_
  refine AW.seqRegionO [] ?_
  refine AOpsO.one tok [0, 3, 8] (by intro C; conv => lhs; simp) (by first | with_reducible exact True.intro | omega | simp | (simp; omega) | (simp +contextual; omega)) rfl ?_
  refine AOpsO.one tok [0, 3, 9] (by intro C; conv => lhs; simp) (by first | with_reducible exact True.intro | omega | simp | (simp; omega) | (simp +contextual; omega)) rfl ?_
  refine AOpsO.one tok [0, 3, 4] (by intro C; conv => lhs; simp) (by first | with_reducible exact True.intro | omega | simp | (simp; omega) | (simp +contextual; omega)) rfl ?_
  refine AOpsO.nil ?_
  refine AW.block ?_
  refine AW.beginE 3 36 29 1 (by simp) (by simp) (by conv => lhs; simp) ?_
  refine AW.loop (α := Int × List Nat) (fun a => a.1 ≤ s.length ∧ -9 < a.1 ∧ a.2.length ≤ s.length - a.1.toNat ∧ a.2 ++ limbs s a.1.toNat = limbs s s.length) (fun a => ⟨upds 39 [(0, .p (.str s)), (3, .ms 36), (4, .p (.int .i64 a.1))], [], [(36, .row 29 1 (a.2.map limbP))], 0⟩) (fun a => a.1.toNat) (((s.length : Int), [])) ⟨by simp, by simp only []; omega, by simp, by simp⟩ ⟨upds_le (by simp), rfl, by simp, by simp⟩ ?_
  rintro ⟨e, acc⟩ ⟨h1, h2, hal, h3⟩
  simp only at h1 h2 h3 hal
  refine AW.seq ?_
  refine AW.seqRegionO [] ?_
  refine AOpsO.one tok [0, 3, 4, 10] (by intro C; conv => lhs; simp) (by first | with_reducible exact True.intro | omega | simp | (simp; omega) | (simp +contextual; omega)) rfl ?_
  refine AOpsO.one tok [0, 3, 4, 11] (by intro C; conv => lhs; simp) (by first | with_reducible exact True.intro | omega | simp | (simp; omega) | (simp +contextual; omega)) rfl ?_
  refine AOpsO.nil ?_
  refine AW.cond (c := .tmp 11) (by conv => lhs; simp) trivial ?_ ?_
  · intro h11
    try simp at h11
    obtain ⟨n, rfl⟩ : ∃ n : Nat, e = n := ⟨e.toNat, by omega⟩
    obtain ⟨c, hc⟩ : ∃ c, c = (s.take n).drop (n - 9) := ⟨_, rfl⟩
    have hcd : c.all isDig = true := by rw [hc]; exact all_drop (all_take hs n) _
    have hcl : c.length ≤ 9 := by rw [hc]; simp; omega
    have hvc : valD c = limbAt s n := by rw [hc]; rfl
    have hmx : (if 9 < (n : Int) then (n : Int) - 9 else 0).toNat = n - 9 := by split <;> omega
    refine AW.skip ?_
    refine AW.seq ?_
    refine AW.block ?_
    refine AW.seqRegionO [] ?_
    refine AOpsO.one tok [0, 3, 4, 5] (by intro C; conv => lhs; simp) (by first | with_reducible exact True.intro | omega | simp | (simp; omega) | (simp +contextual; omega)) rfl ?_
    refine AOpsO.nil ?_
    refine AW.seq ?_
    refine AW.seqRegionO [] ?_
    refine AOpsO.one tok [0, 3, 4, 5, 14] (by intro C; conv => lhs; simp) (by first | with_reducible exact True.intro | omega | simp | (simp; omega) | (simp +contextual; omega)) rfl ?_
    refine AOpsO.one tok [0, 3, 4, 5, 14, 15] (by intro C; conv => lhs; simp) (by first | with_reducible exact True.intro | omega | simp | (simp; omega) | (simp +contextual; omega)) rfl ?_
    refine AOpsO.one tok [0, 3, 4, 5, 14, 16] (by intro C; conv => lhs; simp) (by first | with_reducible exact True.intro | omega | simp | (simp; omega) | (simp +contextual; omega)) rfl ?_
    refine AOpsO.one tok [0, 3, 4, 5, 14, 17] (by intro C; conv => lhs; simp) (by first | with_reducible exact True.intro | omega | simp | (simp; omega) | (simp +contextual; omega)) rfl ?_
    refine AOpsO.one tok [0, 3, 4, 5, 14, 17, 18] (by intro C; conv => lhs; simp) (by first | with_reducible exact True.intro | omega | simp | (simp; omega) | (simp +contextual; omega)) rfl ?_
    refine AOpsO.one tok [0, 3, 4, 5, 19] (by intro C; conv => lhs; simp) (by first | with_reducible exact True.intro | omega | simp | (simp; omega) | (simp +contextual; omega)) rfl ?_
    refine AOpsO.one tok [0, 3, 4, 5, 20] (by intro C; conv => lhs; simp) (by first | with_reducible exact True.intro | omega | simp | (simp; omega) | (simp +contextual; omega)) rfl ?_
    refine AOpsO.one tok [0, 3, 4, 5, 20, 21] (by intro C; conv => lhs; simp) (by first | with_reducible exact True.intro | omega | simp | (simp; omega) | (simp +contextual; omega)) rfl ?_
    refine AOpsO.one tok [0, 3, 4, 5, 20, 21, 22] (by intro C; conv => lhs; simp) (by first | with_reducible exact True.intro | omega | simp | (simp; omega) | (simp +contextual; omega)) rfl ?_
    refine AOpsO.nil ?_
    refine AW.block ?_
    refine AW.loop (α := Nat) (fun k => k ≤ c.length) (fun k => ⟨upds 39 [(0, .p (.str s)), (3, .ms 36), (4, .p (.int .i64 n)), (5, .p (.int .u64 (valD (c.take k) : Nat))), (20, .p (.sl 1 (bytesP c))), (21, .p (.int .i64 c.length)), (22, .p (.int .i64 k))], [], [(36, .row 29 1 (acc.map limbP))], 0⟩) (fun k => c.length - k) (0) (by omega) ⟨upds_le (by simp [hmx, hc, valD]), rfl, by simp, by simp⟩ ?_
    rintro k hk
    have hck := valD_lt (all_take hcd k)
    have hck2 : (c.take k).length ≤ 8 → valD (c.take k) < 100000000 := fun h => Nat.lt_of_lt_of_le hck (Nat.pow_le_pow_right (n := 10) (by omega) h)
    have hix : ∀ k : Nat, k < c.length → c[k]? = some (c.getD k 0) := fun k h => byteAt_get h
    refine AW.seqRegionO [] ?_
    refine AOpsO.one tok [0, 3, 4, 5, 20, 21, 22, 23] (by intro C; conv => lhs; simp) (by first | with_reducible exact True.intro | omega | simp | (simp; omega) | (simp +contextual; omega)) rfl ?_
    refine AOpsO.nil ?_
    refine AW.seq ?_
    refine AW.cond (c := .tmp 23) (by conv => lhs; simp) trivial ?_ ?_
    · intro h23
      try simp at h23
      have hdk := (isDig_iff _).1 (List.all_eq_true.1 hcd _ (List.mem_of_getElem? (hix k h23)))
      have hv8 : valD (c.take k) < 100000000 := hck2 (by simp; omega)
      have hsn : valD (c.take (k + 1)) = valD (c.take k) * 10 + ((c.getD k 0).toNat - 48) := by rw [List.take_add_one, hix k h23]; exact valD_snoc _ _
      have hbk : byteAt c k = ((c.getD k 0).toNat : Int) := rfl
      have hw1 : IntKind.u8.wrap (byteAt c k - 48) = byteAt c k - 48 := wrap_u8 (by omega) (by omega)
      have hw2 : IntKind.u64.wrap ((valD (c.take k) : Int) * 10) = (valD (c.take k) : Int) * 10 := wrap_u64 (by omega) (by omega)
      have hw3 : IntKind.u64.wrap ((valD (c.take k) : Int) * 10 + (byteAt c k - 48)) = (valD (c.take (k + 1)) : Int) := by rw [wrap_u64 (by omega) (by omega), hsn]; omega
      refine AW.skip ?_
      refine AW.seq ?_
      refine AW.block ?_
      refine AW.seqRegionO [.int .u8 (byteAt c k)] ?_
      refine AOpsO.one tok [0, 3, 4, 5, 20, 21, 22, 24] (by intro C; conv => lhs; simp) (by first | with_reducible exact True.intro | (first | exact bytesP_get (hix k h23) | simp; done) | omega | simp | (simp; omega) | (simp +contextual; omega)) rfl ?_
      refine AOpsO.one tok [0, 3, 4, 5, 20, 21, 22, 25] (by intro C; conv => lhs; simp) (by first | with_reducible exact True.intro | (first | exact bytesP_get (hix k h23) | simp; done) | omega | simp | (simp; omega) | (simp +contextual; omega)) rfl ?_
      refine AOpsO.one tok [0, 3, 4, 5, 7, 20, 21, 22] (by intro C; conv => lhs; simp) (by first | with_reducible exact True.intro | (first | exact bytesP_get (hix k h23) | simp; done) | omega | simp | (simp; omega) | (simp +contextual; omega)) rfl ?_
      refine AOpsO.nil ?_
      refine AW.regionO [] ?_
      refine AOpsO.one tok [0, 3, 4, 7, 20, 21, 22, 26] (by intro C; conv => lhs; simp) (by first | with_reducible exact True.intro | omega | simp | (simp; omega) | (simp +contextual; omega)) rfl ?_
      refine AOpsO.one tok [0, 3, 4, 7, 20, 21, 22, 27] (by intro C; conv => lhs; simp) (by first | with_reducible exact True.intro | omega | simp | (simp; omega) | (simp +contextual; omega)) rfl ?_
      refine AOpsO.one tok [0, 3, 4, 20, 21, 22, 27, 28] (by intro C; conv => lhs; simp) (by first | with_reducible exact True.intro | omega | simp | (simp; omega) | (simp +contextual; omega)) rfl ?_
      refine AOpsO.one tok [0, 3, 4, 20, 21, 22, 27, 29] (by intro C; conv => lhs; simp) (by first | with_reducible exact True.intro | omega | simp | (simp; omega) | (simp +contextual; omega)) rfl ?_
      refine AOpsO.one tok [0, 3, 4, 20, 21, 22, 27, 30] (by intro C; conv => lhs; simp) (by first | with_reducible exact True.intro | omega | simp | (simp; omega) | (simp +contextual; omega)) rfl ?_
      refine AOpsO.one tok [0, 3, 4, 20, 21, 22, 31] (by intro C; conv => lhs; simp) (by first | with_reducible exact True.intro | omega | simp | (simp; omega) | (simp +contextual; omega)) rfl ?_
      refine AOpsO.one tok [0, 3, 4, 5, 20, 21, 22] (by intro C; conv => lhs; simp) (by first | with_reducible exact True.intro | omega | simp | (simp; omega) | (simp +contextual; omega)) rfl ?_
      refine AOpsO.nil ?_
      refine AW.regionO [] ?_
      refine AOpsO.one tok [0, 3, 4, 5, 20, 21, 32] (by intro C; conv => lhs; simp) (by first | with_reducible exact True.intro | omega | simp | (simp; omega) | (simp +contextual; omega)) rfl ?_
      refine AOpsO.one tok [0, 3, 4, 5, 20, 21, 22] (by intro C; conv => lhs; simp) (by first | with_reducible exact True.intro | omega | simp | (simp; omega) | (simp +contextual; omega)) rfl ?_
      refine AOpsO.nil ?_
      exact ⟨k + 1, by omega, by omega, upds_le (by simp [hw1, hw2, hw3]), rfl, by simp [hw1, hw2, hw3], by simp [hw1, hw2, hw3]⟩
    · intro h23
      try simp at h23
      have hkc : k = c.length := by omega
      subst hkc
      simp only [List.take_length, hvc]
      have hlz := limbs_pos (s := s) (e := n) (by omega)
      have h3' : acc ++ [limbAt s n] ++ limbs s ((n : Int) - 9).toNat = limbs s s.length := by
        rw [← h3, show ((n : Int)).toNat = n by omega, hlz, show ((n : Int) - 9).toNat = n - 9 by omega]; simp
      refine AW.exit ?_
      simp
      refine AW.regionO [.int .u64 (limbAt s n : Nat)] ?_
      refine AOpsO.one tok [0, 4, 5, 33] (by intro C; conv => lhs; simp) (by first | with_reducible exact True.intro | ((simp; omega); done) | omega | simp | (simp; omega) | (simp +contextual; omega)) rfl ?_
      refine AOpsO.one tok [0, 4, 33, 34] (by intro C; conv => lhs; simp) (by first | with_reducible exact True.intro | ((simp; omega); done) | omega | simp | (simp; omega) | (simp +contextual; omega)) rfl ?_
      refine AOpsO.one tok [0, 4, 33, 35] (by intro C; conv => lhs; simp) (by first | with_reducible exact True.intro | ((simp; omega); done) | omega | simp | (simp; omega) | (simp +contextual; omega)) rfl ?_
      refine AOpsO.one tok [0, 4, 36] (by intro C; conv => lhs; simp) (by first | with_reducible exact True.intro | ((simp; omega); done) | omega | simp | (simp; omega) | (simp +contextual; omega)) rfl ?_
      refine AOpsO.one tok [0, 3, 4] (by intro C; conv => lhs; simp) (by first | with_reducible exact True.intro | ((simp; omega); done) | omega | simp | (simp; omega) | (simp +contextual; omega)) rfl ?_
      refine AOpsO.nil ?_
      refine AW.regionO [] ?_
      refine AOpsO.one tok [0, 3, 12] (by intro C; conv => lhs; simp) (by first | with_reducible exact True.intro | omega | simp | (simp; omega) | (simp +contextual; omega)) rfl ?_
      refine AOpsO.one tok [0, 3, 13] (by intro C; conv => lhs; simp) (by first | with_reducible exact True.intro | omega | simp | (simp; omega) | (simp +contextual; omega)) rfl ?_
      refine AOpsO.one tok [0, 3, 4] (by intro C; conv => lhs; simp) (by first | with_reducible exact True.intro | omega | simp | (simp; omega) | (simp +contextual; omega)) rfl ?_
      refine AOpsO.nil ?_
      exact ⟨(n : Int) - 9, acc ++ [limbAt s n], ⟨by omega, by omega, by simp; omega, h3'⟩, by omega, upds_le (by simp), rfl, by simp, by simp⟩
  · intro h11
    try simp at h11
    have hacc : acc = limbs s s.length := by rw [← h3, show e.toNat = 0 by omega, limbs_zero]; simp
    subst hacc
    refine AW.exit ?_
    simp
    refine AW.seqRegionO [.nilp, .sl 1 ((natL s).map limbP)] ?_
    refine AOpsO.one tok [37] (by intro C; conv => lhs; simp) (by first | with_reducible exact True.intro | (exact trim_ev _; done) | omega | simp | (simp; omega) | (simp +contextual; omega)) rfl ?_
    refine AOpsO.one tok [38] (by intro C; conv => lhs; simp) (by first | with_reducible exact True.intro | (exact trim_ev _; done) | omega | simp | (simp; omega) | (simp +contextual; omega)) rfl ?_
    refine AOpsO.one tok [2] (by intro C; conv => lhs; simp) (by first | with_reducible exact True.intro | (exact trim_ev _; done) | omega | simp | (simp; omega) | (simp +contextual; omega)) rfl ?_
    refine AOpsO.nil ?_
    exact AW.ret ⟨.inr rfl, _, _, by (conv => lhs; simp), trivial, by simp⟩
theorem natCmp_ev (l m : List Nat) (h1 : l.length ≤ 1000000) (h2 : m.length ≤ 1000000) : AFn Tryd.prog G 47 [.sl 1 (l.map limbP), .sl 1 (m.map limbP)] (.int .i64 (natCmp l m)) := by
  refine AFn.introU tok Tryd.func47 (by kernel_rfl) rfl rfl ?_
  simp only [Tryd.f47, enumA, List.map_cons, List.map_nil]
  have hixl : ∀ k : Nat, k < l.length → l[k]? = some (l.getD k 0) := fun k h => by simp [List.getD_eq_getElem?_getD, h]
  have hixm : ∀ k : Nat, k < m.length → m[k]? = some (m.getD k 0) := fun k h => by simp [List.getD_eq_getElem?_getD, h]
  refine AW.seqRegionO [] ?_
  refine AOpsO.one tok [0, 1] (by intro C; conv => lhs; simp) (by first | with_reducible exact True.intro | omega | simp | (simp; omega) | (simp +contextual; omega)) rfl ?_
  refine AOpsO.nil ?_
  refine AW.seq ?_
  refine AW.seqRegionO [] ?_
  refine AOpsO.one tok [0, 1, 6] (by intro C; conv => lhs; simp) (by first | with_reducible exact True.intro | omega | simp | (simp; omega) | (simp +contextual; omega)) rfl ?_
  refine AOpsO.one tok [0, 1, 7] (by intro C; conv => lhs; simp) (by first | with_reducible exact True.intro | omega | simp | (simp; omega) | (simp +contextual; omega)) rfl ?_
  refine AOpsO.one tok [0, 1, 7, 8] (by intro C; conv => lhs; simp) (by first | with_reducible exact True.intro | omega | simp | (simp; omega) | (simp +contextual; omega)) rfl ?_
  refine AOpsO.one tok [0, 1, 7, 9] (by intro C; conv => lhs; simp) (by first | with_reducible exact True.intro | omega | simp | (simp; omega) | (simp +contextual; omega)) rfl ?_
  refine AOpsO.one tok [0, 1, 10] (by intro C; conv => lhs; simp) (by first | with_reducible exact True.intro | omega | simp | (simp; omega) | (simp +contextual; omega)) rfl ?_
  refine AOpsO.nil ?_
  refine AW.cond (c := .tmp 10) (by conv => lhs; simp) trivial ?_ ?_
  · intro h10
    try simp at h10
    have hN : natCmp l m = (l.length : Int) - m.length := by simp only [natCmp]; rw [if_pos (by omega)]
    refine AW.seqRegionO [] ?_
    refine AOpsO.one tok [1, 11] (by intro C; conv => lhs; simp) (by first | with_reducible exact True.intro | omega | simp | (simp; omega) | (simp +contextual; omega)) rfl ?_
    refine AOpsO.one tok [1, 12] (by intro C; conv => lhs; simp) (by first | with_reducible exact True.intro | omega | simp | (simp; omega) | (simp +contextual; omega)) rfl ?_
    refine AOpsO.one tok [12, 13] (by intro C; conv => lhs; simp) (by first | with_reducible exact True.intro | omega | simp | (simp; omega) | (simp +contextual; omega)) rfl ?_
    refine AOpsO.one tok [12, 14] (by intro C; conv => lhs; simp) (by first | with_reducible exact True.intro | omega | simp | (simp; omega) | (simp +contextual; omega)) rfl ?_
    refine AOpsO.one tok [15] (by intro C; conv => lhs; simp) (by first | with_reducible exact True.intro | omega | simp | (simp; omega) | (simp +contextual; omega)) rfl ?_
    refine AOpsO.one tok [4] (by intro C; conv => lhs; simp) (by first | with_reducible exact True.intro | omega | simp | (simp; omega) | (simp +contextual; omega)) rfl ?_
    refine AOpsO.nil ?_
    exact AW.ret ⟨.inr rfl, _, _, by (conv => lhs; simp), trivial, by simp [hN]⟩
  · intro h10
    try simp at h10
    have hlen : l.length = m.length := by omega
    have hN : natCmp l m = topCmp l m l.length := by simp only [natCmp]; rw [if_neg (by omega)]
    rw [hN]
    refine AW.skip ?_
    refine AW.seq ?_
    refine AW.seqRegionO [] ?_
    refine AOpsO.one tok [0, 1, 16] (by intro C; conv => lhs; simp) (by first | with_reducible exact True.intro | omega | simp | (simp; omega) | (simp +contextual; omega)) rfl ?_
    refine AOpsO.one tok [0, 1, 17] (by intro C; conv => lhs; simp) (by first | with_reducible exact True.intro | omega | simp | (simp; omega) | (simp +contextual; omega)) rfl ?_
    refine AOpsO.one tok [0, 1, 18] (by intro C; conv => lhs; simp) (by first | with_reducible exact True.intro | omega | simp | (simp; omega) | (simp +contextual; omega)) rfl ?_
    refine AOpsO.one tok [0, 1, 5] (by intro C; conv => lhs; simp) (by first | with_reducible exact True.intro | omega | simp | (simp; omega) | (simp +contextual; omega)) rfl ?_
    refine AOpsO.nil ?_
    refine AW.block ?_
    refine AW.loop (α := Nat) (fun k => k ≤ l.length ∧ topCmp l m l.length = topCmp l m k) (fun k => ⟨upds 41 [(0, .p (.sl 1 (l.map limbP))), (1, .p (.sl 1 (m.map limbP))), (5, .p (.int .i64 (k - 1)))], [], [], 0⟩) (fun k => k) (l.length) ⟨Nat.le_refl _, rfl⟩ ⟨upds_le (by simp), rfl, by simp, by simp⟩ ?_
    rintro k ⟨hk, ht⟩
    refine AW.seq ?_
    refine AW.seqRegionO [] ?_
    refine AOpsO.one tok [0, 1, 5, 19] (by intro C; conv => lhs; simp) (by first | with_reducible exact True.intro | omega | simp | (simp; omega) | (simp +contextual; omega)) rfl ?_
    refine AOpsO.one tok [0, 1, 5, 20] (by intro C; conv => lhs; simp) (by first | with_reducible exact True.intro | omega | simp | (simp; omega) | (simp +contextual; omega)) rfl ?_
    refine AOpsO.nil ?_
    refine AW.cond (c := .tmp 20) (by conv => lhs; simp) trivial ?_ ?_
    · intro h20
      try simp at h20
      obtain ⟨k, rfl⟩ : ∃ j, k = j + 1 := ⟨k - 1, by omega⟩
      have hkl : k < l.length := by omega
      have hkm : k < m.length := by omega
      have hgl := hixl k hkl
      have hgm := hixm k hkm
      have hti : ((k + 1 : Nat) : Int) - 1 = k := by omega
      simp only [hti]
      generalize hx : l.getD k 0 = x at *
      generalize hy : m.getD k 0 = y at *
      simp only [topCmp, hx, hy] at ht
      rw [ht]
      refine AW.skip ?_
      refine AW.seq ?_
      refine AW.block ?_
      refine AW.seqRunDrawK tok mixed [0, 1, 5, 31] 9 [[0], [5], [23, 24], [25], [1], [5], [27, 28], [29], [26, 30]] [.int .u64 x, .int .u64 y] [] (by kernel_rfl) (by intro C; conv => lhs; simp) (by simp [hgl, hgm]) (by simp [Sm.sum, Sm.foot, Sm.tch, Sm.refs]; kernel_rfl) (by intro C; conv => lhs; simp) (by first | with_reducible exact True.intro | omega | simp | (simp; omega) | (simp +contextual; omega)) ?_
      refine AW.cond (c := .tmp 31) (by conv => lhs; simp) trivial ?_ ?_
      · intro h31
        try simp at h31
        rw [if_neg (by omega)]
        refine AW.seq ?_
        refine AW.seqRunDrawK tok mixed [40] 9 [[0], [5], [32, 33], [34], [1], [5], [36, 37], [38], [35, 39]] [.int .u64 x, .int .u64 y] [] (by kernel_rfl) (by intro C; conv => lhs; simp) (by simp [hgl, hgm]) (by simp [Sm.sum, Sm.foot, Sm.tch, Sm.refs]; kernel_rfl) (by intro C; conv => lhs; simp) (by first | with_reducible exact True.intro | omega | simp | (simp; omega) | (simp +contextual; omega)) ?_
        refine AW.cond (c := .tmp 40) (by conv => lhs; simp) trivial ?_ ?_
        · intro h40
          try simp at h40
          rw [if_pos (by omega)]
          refine AW.seqRegionO [] ?_
          refine AOpsO.one tok [4] (by intro C; conv => lhs; simp) (by first | with_reducible exact True.intro | omega | simp | (simp; omega) | (simp +contextual; omega)) rfl ?_
          refine AOpsO.nil ?_
          exact AW.ret ⟨.inr rfl, _, _, by (conv => lhs; simp), trivial, by simp⟩
        · intro h40
          try simp at h40
          rw [if_neg (by omega)]
          refine AW.skip ?_
          refine AW.seqRegionO [] ?_
          refine AOpsO.one tok [4] (by intro C; conv => lhs; simp) (by first | with_reducible exact True.intro | omega | simp | (simp; omega) | (simp +contextual; omega)) rfl ?_
          refine AOpsO.nil ?_
          exact AW.ret ⟨.inr rfl, _, _, by (conv => lhs; simp), trivial, by simp⟩
      · intro h31
        try simp at h31
        refine AW.skip ?_
        refine AW.regionO [] ?_
        refine AOpsO.one tok [0, 1, 21] (by intro C; conv => lhs; simp) (by first | with_reducible exact True.intro | omega | simp | (simp; omega) | (simp +contextual; omega)) rfl ?_
        refine AOpsO.one tok [0, 1, 22] (by intro C; conv => lhs; simp) (by first | with_reducible exact True.intro | omega | simp | (simp; omega) | (simp +contextual; omega)) rfl ?_
        refine AOpsO.one tok [0, 1, 5] (by intro C; conv => lhs; simp) (by first | with_reducible exact True.intro | omega | simp | (simp; omega) | (simp +contextual; omega)) rfl ?_
        refine AOpsO.nil ?_
        exact ⟨k, ⟨by omega, by rw [if_pos (by omega)]⟩, by omega, upds_le (by simp), rfl, by simp, by simp⟩
    · intro h20
      try simp at h20
      have hk0 : k = 0 := by omega
      subst hk0
      rw [ht]
      simp only [topCmp]
      refine AW.exit ?_
      simp
      refine AW.seqRegionO [] ?_
      refine AOpsO.one tok [4] (by intro C; conv => lhs; simp) (by first | with_reducible exact True.intro | omega | simp | (simp; omega) | (simp +contextual; omega)) rfl ?_
      refine AOpsO.nil ?_
      exact AW.ret ⟨.inr rfl, _, _, by (conv => lhs; simp), trivial, by simp⟩
/-- The digits of both with the same scale. -/
def padD (d : Dc) (sc : Int) : List UInt8 := d.digits ++ List.replicate (sc - d.scale).toNat 48
theorem alig1_ev (d : Dc) (sc : Int) (h1 : d.digits.length ≤ 1000) (h2 : 0 ≤ d.scale) (h3 : d.scale ≤ sc) (h4 : sc ≤ 1000) (hd : d.digits.all isDig = true) : AFn Tryd.prog G 60 [d.enc, .ref [.int .i64 sc]] (.sl 1 ((natL (padD d sc)).map limbP)) := by
  refine AFn.introU tok Tryd.func60 (by kernel_rfl) rfl rfl ?_
  simp only [Tryd.f60, enumA, List.map_cons, List.map_nil]
  have hre := Repeat_ev (G := G) [48] (sc - d.scale).toNat (by simp; omega)
  rw [zeros_rep, show (((sc - d.scale).toNat : Nat) : Int) = sc - d.scale by omega] at hre
  have hna := natOf_ev (G := G) (padD d sc) (dig_pad hd _) (by simp [padD]; omega)
  unfold padD at hna
  unfold padD
  refine AW.seqRegionO [] ?_
  refine AOpsO.one tok [1, 2] (by intro C; conv => lhs; simp) (by first | with_reducible exact True.intro | omega | simp | (simp; omega) | (simp +contextual; omega)) rfl ?_
  refine AOpsO.one tok [1, 2] (by intro C; conv => lhs; simp) (by first | with_reducible exact True.intro | omega | simp | (simp; omega) | (simp +contextual; omega)) rfl ?_
  refine AOpsO.nil ?_
  refine AW.seqRunDrawK tok mixed [3] 9 [[2], [4], [1], [2], [7], [6, 8], [9], [5, 10], [11]] [.nilp, .str (List.replicate (sc - d.scale).toNat 48), .nilp, .sl 1 ((natL (d.digits ++ List.replicate (sc - d.scale).toNat 48)).map limbP)] [] (by kernel_rfl) (by intro C; conv => lhs; simp) (by ((repeat' (first | with_reducible apply And.intro | intro _)) <;> first | exact (hre) | exact (hna) | assumption | omega | contradiction | simp_all)) (by simp [Sm.sum, Sm.foot, Sm.tch, Sm.refs]; kernel_rfl) (by intro C; conv => lhs; simp) (by first | with_reducible exact True.intro | omega | simp | (simp; omega) | (simp +contextual; omega)) ?_
  exact AW.ret ⟨.inr rfl, _, _, by (conv => lhs; simp), trivial, by simp⟩
def maxS (a b : Dc) : Int := if a.scale < b.scale then b.scale else a.scale
/-- What the alignment asks. -/
def okD (d : Dc) : Prop := d.digits.length ≤ 1000 ∧ 0 ≤ d.scale ∧ d.scale ≤ 1000 ∧ d.digits.all isDig = true
theorem aligned_ev (a b : Dc) (ha : okD a) (hb : okD b) : AFn Tryd.prog G 46 [a.enc, b.enc] (.tup [.sl 1 ((natL (padD a (maxS a b))).map limbP), .sl 1 ((natL (padD b (maxS a b))).map limbP), .int .i64 (maxS a b)]) := by
  refine AFn.introU tok Tryd.func46 (by kernel_rfl) rfl rfl ?_
  simp only [Tryd.f46, enumA, List.map_cons, List.map_nil]
  obtain ⟨a1, a2, a3, a4⟩ := ha
  obtain ⟨b1, b2, b3, b4⟩ := hb
  have hm1 : a.scale ≤ maxS a b := by unfold maxS; split <;> omega
  have hm2 : b.scale ≤ maxS a b := by unfold maxS; split <;> omega
  have hm3 : maxS a b ≤ 1000 := by unfold maxS; split <;> omega
  have e1 := alig1_ev (G := G) a (maxS a b) a1 a2 hm1 hm3 a4
  have e2 := alig1_ev (G := G) b (maxS a b) b1 b2 hm2 hm3 b4
  have hmx : (if a.scale < b.scale then b.scale else a.scale) = maxS a b := rfl
  refine AW.seqRegionO [] ?_
  refine AOpsO.one tok [1, 2] (by intro C; conv => lhs; simp) (by first | with_reducible exact True.intro | omega | simp | (simp; omega) | (simp +contextual; omega)) rfl ?_
  refine AOpsO.one tok [2, 3] (by intro C; conv => lhs; simp) (by first | with_reducible exact True.intro | omega | simp | (simp; omega) | (simp +contextual; omega)) rfl ?_
  refine AOpsO.one tok [2, 3] (by intro C; conv => lhs; simp) (by first | with_reducible exact True.intro | omega | simp | (simp; omega) | (simp +contextual; omega)) rfl ?_
  refine AOpsO.one tok [2, 3] (by intro C; conv => lhs; simp) (by first | with_reducible exact True.intro | omega | simp | (simp; omega) | (simp +contextual; omega)) rfl ?_
  refine AOpsO.one tok [2, 3] (by intro C; conv => lhs; simp) (by first | with_reducible exact True.intro | omega | simp | (simp; omega) | (simp +contextual; omega)) rfl ?_
  refine AOpsO.nil ?_
  refine AW.seqRegionO [] ?_
  refine AOpsO.one tok [2, 3, 9] (by intro C; conv => lhs; simp) (by first | with_reducible exact True.intro | omega | simp | (simp; omega) | (simp +contextual; omega)) rfl ?_
  refine AOpsO.one tok [2, 3, 10] (by intro C; conv => lhs; simp) (by first | with_reducible exact True.intro | omega | simp | (simp; omega) | (simp +contextual; omega)) rfl ?_
  refine AOpsO.one tok [2, 3, 10, 11] (by intro C; conv => lhs; simp) (by first | with_reducible exact True.intro | omega | simp | (simp; omega) | (simp +contextual; omega)) rfl ?_
  refine AOpsO.one tok [2, 3, 10, 12] (by intro C; conv => lhs; simp) (by first | with_reducible exact True.intro | omega | simp | (simp; omega) | (simp +contextual; omega)) rfl ?_
  refine AOpsO.one tok [2, 3, 13] (by intro C; conv => lhs; simp) (by first | with_reducible exact True.intro | omega | simp | (simp; omega) | (simp +contextual; omega)) rfl ?_
  refine AOpsO.one tok [2, 3, 7, 13] (by intro C; conv => lhs; simp) (by first | with_reducible exact True.intro | omega | simp | (simp; omega) | (simp +contextual; omega)) rfl ?_
  refine AOpsO.one tok [2, 3, 7] (by intro C; conv => lhs; simp) (by first | with_reducible exact True.intro | omega | simp | (simp; omega) | (simp +contextual; omega)) rfl ?_
  refine AOpsO.nil ?_
  refine AW.seqRegionO [] ?_
  refine AOpsO.one tok [2, 3, 7, 14] (by intro C; conv => lhs; simp) (by first | with_reducible exact True.intro | omega | simp | (simp; omega) | (simp +contextual; omega)) rfl ?_
  refine AOpsO.one tok [2, 3, 7, 8] (by intro C; conv => lhs; simp) (by first | with_reducible exact True.intro | omega | simp | (simp; omega) | (simp +contextual; omega)) rfl ?_
  refine AOpsO.nil ?_
  refine AW.freezeV 7 (by conv => lhs; simp [hmx]) ?_
  refine AW.seqRunDrawK tok mixed [4, 5, 6] 9 [[8], [2], [15, 16], [8], [3], [18, 19], [7], [17], [20]] [.nilp, .sl 1 ((natL (padD a (maxS a b))).map limbP), .nilp, .sl 1 ((natL (padD b (maxS a b))).map limbP)] [] (by kernel_rfl) (by intro C; conv => lhs; simp) (by ((repeat' (first | with_reducible apply And.intro | intro _)) <;> first | exact (e1) | exact (e2) | assumption | omega | contradiction | simp_all)) (by simp [Sm.sum, Sm.foot, Sm.tch, Sm.refs]; kernel_rfl) (by intro C; conv => lhs; simp) (by first | with_reducible exact True.intro | omega | simp | (simp; omega) | (simp +contextual; omega)) ?_
  exact AW.ret ⟨.inr rfl, _, _, by (conv => lhs; simp), trivial, by simp⟩
def rawCmp (a b : Dc) : Int := natCmp (natL (padD a (maxS a b))) (natL (padD b (maxS a b)))
def cmpD (a b : Dc) : Int := if a.neg = b.neg then (if a.neg = true then sgn (- rawCmp a b) else sgn (rawCmp a b)) else if a.neg = true then -1 else 1
theorem sgn_clamp (n : Int) : (if 1 < (if n < -1 then -1 else n) then 1 else (if n < -1 then -1 else n)) = sgn n := by unfold sgn; split <;> split <;> (try split) <;> omega
theorem cmpD_ev (a b : Dc) (ha : okD a) (hb : okD b) : AFn Tryd.prog G 25 [a.enc, b.enc] (.int .i64 (cmpD a b)) := by
  refine AFn.introU tok Tryd.func25 (by kernel_rfl) rfl rfl ?_
  simp only [Tryd.f25, enumA, List.map_cons, List.map_nil]
  have hal := aligned_ev (G := G) a b ha hb
  have hl : ∀ (d : Dc), okD d → ∀ sc : Int, sc ≤ 1000 → (natL (padD d sc)).length ≤ 1000000 := fun d hd sc hs => by
    have := natL_len (padD d sc); have := hd.1; have := hd.2.1; simp [padD] at *; omega
  have hm3 : maxS a b ≤ 1000 := by have := ha.2.2.1; have := hb.2.2.1; unfold maxS; split <;> omega
  have hcm := natCmp_ev (G := G) (natL (padD a (maxS a b))) (natL (padD b (maxS a b))) (hl a ha _ hm3) (hl b hb _ hm3)
  have hrg := natCmp_range (natL (padD a (maxS a b))) (natL (padD b (maxS a b))) (hl a ha _ hm3) (hl b hb _ hm3)
  rw [show natCmp (natL (padD a (maxS a b))) (natL (padD b (maxS a b))) = rawCmp a b from rfl] at hcm hrg
  have hwn : IntKind.i64.wrap (- rawCmp a b) = - rawCmp a b := by simp [IntKind.wrap, IntKind.bits, IntKind.signed]; omega
  refine AW.seqRegionO [] ?_
  refine AOpsO.one tok [1, 2] (by intro C; conv => lhs; simp) (by first | with_reducible exact True.intro | omega | simp | (simp; omega) | (simp +contextual; omega)) rfl ?_
  refine AOpsO.one tok [2, 3] (by intro C; conv => lhs; simp) (by first | with_reducible exact True.intro | omega | simp | (simp; omega) | (simp +contextual; omega)) rfl ?_
  refine AOpsO.one tok [2, 3] (by intro C; conv => lhs; simp) (by first | with_reducible exact True.intro | omega | simp | (simp; omega) | (simp +contextual; omega)) rfl ?_
  refine AOpsO.nil ?_
  refine AW.seqRegionO [.nilp, .tup [.sl 1 ((natL (padD a (maxS a b))).map limbP), .sl 1 ((natL (padD b (maxS a b))).map limbP), .int .i64 (maxS a b)]] ?_
  refine AOpsO.one tok [2, 3, 10] (by intro C; conv => lhs; simp) (by first | with_reducible exact True.intro | (exact hal; done) | omega | simp | (simp; omega) | (simp +contextual; omega)) rfl ?_
  refine AOpsO.one tok [2, 3, 10, 11] (by intro C; conv => lhs; simp) (by first | with_reducible exact True.intro | (exact hal; done) | omega | simp | (simp; omega) | (simp +contextual; omega)) rfl ?_
  refine AOpsO.one tok [2, 3, 12] (by intro C; conv => lhs; simp) (by first | with_reducible exact True.intro | (exact hal; done) | omega | simp | (simp; omega) | (simp +contextual; omega)) rfl ?_
  refine AOpsO.one tok [2, 3, 9] (by intro C; conv => lhs; simp) (by first | with_reducible exact True.intro | (exact hal; done) | omega | simp | (simp; omega) | (simp +contextual; omega)) rfl ?_
  refine AOpsO.one tok [2, 3, 9, 13] (by intro C; conv => lhs; simp) (by first | with_reducible exact True.intro | (exact hal; done) | omega | simp | (simp; omega) | (simp +contextual; omega)) rfl ?_
  refine AOpsO.one tok [2, 3, 9, 13, 14] (by intro C; conv => lhs; simp) (by first | with_reducible exact True.intro | (exact hal; done) | omega | simp | (simp; omega) | (simp +contextual; omega)) rfl ?_
  refine AOpsO.one tok [2, 3, 13, 14, 15] (by intro C; conv => lhs; simp) (by first | with_reducible exact True.intro | (exact hal; done) | omega | simp | (simp; omega) | (simp +contextual; omega)) rfl ?_
  refine AOpsO.one tok [2, 3, 5, 14, 15] (by intro C; conv => lhs; simp) (by first | with_reducible exact True.intro | (exact hal; done) | omega | simp | (simp; omega) | (simp +contextual; omega)) rfl ?_
  refine AOpsO.one tok [2, 3, 5, 6, 15] (by intro C; conv => lhs; simp) (by first | with_reducible exact True.intro | (exact hal; done) | omega | simp | (simp; omega) | (simp +contextual; omega)) rfl ?_
  refine AOpsO.one tok [2, 3, 5, 6] (by intro C; conv => lhs; simp) (by first | with_reducible exact True.intro | (exact hal; done) | omega | simp | (simp; omega) | (simp +contextual; omega)) rfl ?_
  refine AOpsO.nil ?_
  refine AW.seqRegionO [.nilp, .int .i64 (rawCmp a b)] ?_
  refine AOpsO.one tok [2, 3, 6, 16] (by intro C; conv => lhs; simp) (by first | with_reducible exact True.intro | (exact hcm; done) | omega | simp | (simp; omega) | (simp +contextual; omega)) rfl ?_
  refine AOpsO.one tok [2, 3, 16, 17] (by intro C; conv => lhs; simp) (by first | with_reducible exact True.intro | (exact hcm; done) | omega | simp | (simp; omega) | (simp +contextual; omega)) rfl ?_
  refine AOpsO.one tok [2, 3, 18] (by intro C; conv => lhs; simp) (by first | with_reducible exact True.intro | (exact hcm; done) | omega | simp | (simp; omega) | (simp +contextual; omega)) rfl ?_
  refine AOpsO.one tok [2, 3, 8] (by intro C; conv => lhs; simp) (by first | with_reducible exact True.intro | (exact hcm; done) | omega | simp | (simp; omega) | (simp +contextual; omega)) rfl ?_
  refine AOpsO.nil ?_
  refine AW.seq ?_
  refine AW.block ?_
  refine AW.seqRegionO [] ?_
  refine AOpsO.one tok [2, 3, 8, 20] (by intro C; conv => lhs; simp) (by first | with_reducible exact True.intro | omega | simp | (simp; omega) | (simp +contextual; omega)) rfl ?_
  refine AOpsO.one tok [2, 3, 8, 21] (by intro C; conv => lhs; simp) (by first | with_reducible exact True.intro | omega | simp | (simp; omega) | (simp +contextual; omega)) rfl ?_
  refine AOpsO.one tok [2, 8, 21, 22] (by intro C; conv => lhs; simp) (by first | with_reducible exact True.intro | omega | simp | (simp; omega) | (simp +contextual; omega)) rfl ?_
  refine AOpsO.one tok [2, 8, 21, 23] (by intro C; conv => lhs; simp) (by first | with_reducible exact True.intro | omega | simp | (simp; omega) | (simp +contextual; omega)) rfl ?_
  refine AOpsO.one tok [2, 8, 24] (by intro C; conv => lhs; simp) (by first | with_reducible exact True.intro | omega | simp | (simp; omega) | (simp +contextual; omega)) rfl ?_
  refine AOpsO.one tok [2, 8, 19] (by intro C; conv => lhs; simp) (by first | with_reducible exact True.intro | omega | simp | (simp; omega) | (simp +contextual; omega)) rfl ?_
  refine AOpsO.nil ?_
  refine AW.cond (c := .tmp 19) (by conv => lhs; simp) trivial ?_ ?_
  · intro h19
    try simp at h19
    refine AW.seqRegionO [] ?_
    refine AOpsO.one tok [2, 8] (by intro C; conv => lhs; simp) (by first | with_reducible exact True.intro | omega | simp | (simp; omega) | (simp +contextual; omega)) rfl ?_
    refine AOpsO.nil ?_
    refine AW.seqRegionO [] ?_
    refine AOpsO.one tok [8, 25] (by intro C; conv => lhs; simp) (by first | with_reducible exact True.intro | omega | simp | (simp; omega) | (simp +contextual; omega)) rfl ?_
    refine AOpsO.one tok [8, 26] (by intro C; conv => lhs; simp) (by first | with_reducible exact True.intro | omega | simp | (simp; omega) | (simp +contextual; omega)) rfl ?_
    refine AOpsO.nil ?_
    refine AW.cond (c := .tmp 26) (by conv => lhs; simp) trivial ?_ ?_
    · intro h26
      try simp at h26
      have hC : cmpD a b = -1 := by unfold cmpD; rw [if_neg h19, if_pos h26]
      refine AW.regionO [] ?_
      refine AOpsO.one tok [8] (by intro C; conv => lhs; simp) (by first | with_reducible exact True.intro | omega | simp | (simp; omega) | (simp +contextual; omega)) rfl ?_
      refine AOpsO.nil ?_
      refine AW.seqRegionO [] ?_
      refine AOpsO.one tok [32] (by intro C; conv => lhs; simp) (by first | with_reducible exact True.intro | omega | simp | (simp; omega) | (simp +contextual; omega)) rfl ?_
      refine AOpsO.one tok [33] (by intro C; conv => lhs; simp) (by first | with_reducible exact True.intro | omega | simp | (simp; omega) | (simp +contextual; omega)) rfl ?_
      refine AOpsO.one tok [34] (by intro C; conv => lhs; simp) (by first | with_reducible exact True.intro | omega | simp | (simp; omega) | (simp +contextual; omega)) rfl ?_
      refine AOpsO.one tok [4] (by intro C; conv => lhs; simp) (by first | with_reducible exact True.intro | omega | simp | (simp; omega) | (simp +contextual; omega)) rfl ?_
      refine AOpsO.nil ?_
      exact AW.ret ⟨.inr rfl, _, _, by (conv => lhs; simp), trivial, by simp [hC]⟩
    · intro h26
      try simp at h26
      have hC : cmpD a b = 1 := by unfold cmpD; rw [if_neg h19, if_neg (by simp [h26])]
      refine AW.skip ?_
      refine AW.seqRegionO [] ?_
      refine AOpsO.one tok [32] (by intro C; conv => lhs; simp) (by first | with_reducible exact True.intro | omega | simp | (simp; omega) | (simp +contextual; omega)) rfl ?_
      refine AOpsO.one tok [33] (by intro C; conv => lhs; simp) (by first | with_reducible exact True.intro | omega | simp | (simp; omega) | (simp +contextual; omega)) rfl ?_
      refine AOpsO.one tok [34] (by intro C; conv => lhs; simp) (by first | with_reducible exact True.intro | omega | simp | (simp; omega) | (simp +contextual; omega)) rfl ?_
      refine AOpsO.one tok [4] (by intro C; conv => lhs; simp) (by first | with_reducible exact True.intro | omega | simp | (simp; omega) | (simp +contextual; omega)) rfl ?_
      refine AOpsO.nil ?_
      exact AW.ret ⟨.inr rfl, _, _, by (conv => lhs; simp), trivial, by simp [hC]⟩
  · intro h19
    try simp at h19
    refine AW.seqRegionO [] ?_
    refine AOpsO.one tok [8, 28] (by intro C; conv => lhs; simp) (by first | with_reducible exact True.intro | omega | simp | (simp; omega) | (simp +contextual; omega)) rfl ?_
    refine AOpsO.one tok [8, 29] (by intro C; conv => lhs; simp) (by first | with_reducible exact True.intro | omega | simp | (simp; omega) | (simp +contextual; omega)) rfl ?_
    refine AOpsO.one tok [8, 27] (by intro C; conv => lhs; simp) (by first | with_reducible exact True.intro | omega | simp | (simp; omega) | (simp +contextual; omega)) rfl ?_
    refine AOpsO.nil ?_
    refine AW.cond (c := .tmp 27) (by conv => lhs; simp) trivial ?_ ?_
    · intro h27
      try simp at h27
      have hC : cmpD a b = sgn (- rawCmp a b) := by unfold cmpD; rw [if_pos h19, if_pos h27]
      refine AW.regionO [] ?_
      refine AOpsO.one tok [30] (by intro C; conv => lhs; simp) (by first | with_reducible exact True.intro | omega | simp | (simp; omega) | (simp +contextual; omega)) rfl ?_
      refine AOpsO.one tok [31] (by intro C; conv => lhs; simp) (by first | with_reducible exact True.intro | omega | simp | (simp; omega) | (simp +contextual; omega)) rfl ?_
      refine AOpsO.one tok [8] (by intro C; conv => lhs; simp) (by first | with_reducible exact True.intro | omega | simp | (simp; omega) | (simp +contextual; omega)) rfl ?_
      refine AOpsO.nil ?_
      refine AW.seqRegionO [] ?_
      refine AOpsO.one tok [32] (by intro C; conv => lhs; simp) (by first | with_reducible exact True.intro | omega | simp | (simp; omega) | (simp +contextual; omega)) rfl ?_
      refine AOpsO.one tok [33] (by intro C; conv => lhs; simp) (by first | with_reducible exact True.intro | omega | simp | (simp; omega) | (simp +contextual; omega)) rfl ?_
      refine AOpsO.one tok [34] (by intro C; conv => lhs; simp) (by first | with_reducible exact True.intro | omega | simp | (simp; omega) | (simp +contextual; omega)) rfl ?_
      refine AOpsO.one tok [4] (by intro C; conv => lhs; simp) (by first | with_reducible exact True.intro | omega | simp | (simp; omega) | (simp +contextual; omega)) rfl ?_
      refine AOpsO.nil ?_
      exact AW.ret ⟨.inr rfl, _, _, by (conv => lhs; simp), trivial, by (simp [hwn, hC]; unfold sgn; (repeat' split) <;> omega)⟩
    · intro h27
      try simp at h27
      have hC : cmpD a b = sgn (rawCmp a b) := by unfold cmpD; rw [if_pos h19, if_neg (by simp [h27])]
      refine AW.skip ?_
      refine AW.seqRegionO [] ?_
      refine AOpsO.one tok [32] (by intro C; conv => lhs; simp) (by first | with_reducible exact True.intro | omega | simp | (simp; omega) | (simp +contextual; omega)) rfl ?_
      refine AOpsO.one tok [33] (by intro C; conv => lhs; simp) (by first | with_reducible exact True.intro | omega | simp | (simp; omega) | (simp +contextual; omega)) rfl ?_
      refine AOpsO.one tok [34] (by intro C; conv => lhs; simp) (by first | with_reducible exact True.intro | omega | simp | (simp; omega) | (simp +contextual; omega)) rfl ?_
      refine AOpsO.one tok [4] (by intro C; conv => lhs; simp) (by first | with_reducible exact True.intro | omega | simp | (simp; omega) | (simp +contextual; omega)) rfl ?_
      refine AOpsO.nil ?_
      exact AW.ret ⟨.inr rfl, _, _, by (conv => lhs; simp), trivial, by simp [sgn_clamp, hC]⟩
end Go.Proofs.YtgoepemmcibdaaaDoor
/-
  A PLAIN LAW: the order of decimals.
-/
namespace Go.Proofs.YtgoepemmcibdaaaDoor
open Sy Go
set_option linter.unusedSimpArgs false
set_option linter.unusedVariables false
theorem dcMay_ok {d : Dc} (h : dcMay d = true) : okD d ∧ d.digits.length ≤ 60 ∧ d.scale ≤ 60 := by
  unfold dcMay at h
  simp only [Bool.and_eq_true, decide_eq_true_eq] at h
  obtain ⟨⟨h1, h2⟩, _⟩ := h
  exact ⟨⟨by omega, by omega, by omega, h1⟩, by omega, by omega⟩
/-- The value of a decimal, times 10 ^ 60. -/
def qN (d : Dc) : Nat := valD d.digits * 10 ^ (60 - d.scale.toNat)
def qD (d : Dc) : Int := if d.neg = true then - (qN d : Int) else qN d
theorem sgn_mul {a : Int} {k : Int} (hk : 0 < k) : sgn (a * k) = sgn a := by
  unfold sgn
  by_cases h1 : a < 0
  · rw [if_pos h1, if_pos (Int.mul_neg_of_neg_of_pos h1 hk)]
  · rw [if_neg h1]
    by_cases h2 : a = 0
    · subst h2; simp
    · have := Int.mul_pos (show 0 < a by omega) hk
      rw [if_neg h2, if_neg (by omega), if_neg (by omega)]
theorem raw_spec {a b : Dc} (ha : dcMay a = true) (hb : dcMay b = true) : sgn (rawCmp a b) = sgn ((qN a : Int) - qN b) := by
  obtain ⟨⟨a1, a2, a3, a4⟩, a5, a6⟩ := dcMay_ok ha
  obtain ⟨⟨b1, b2, b3, b4⟩, b5, b6⟩ := dcMay_ok hb
  have hm1 : a.scale ≤ maxS a b := by unfold maxS; split <;> omega
  have hm2 : b.scale ≤ maxS a b := by unfold maxS; split <;> omega
  have hm3 : maxS a b ≤ 60 := by unfold maxS; split <;> omega
  unfold rawCmp padD
  rw [natCmp_spec (natL_can (dig_pad a4 _)) (natL_can (dig_pad b4 _)), natL_val (dig_pad a4 _), natL_val (dig_pad b4 _), valD_pad, valD_pad]
  have ea : (qN a : Int) = ((valD a.digits * 10 ^ (maxS a b - a.scale).toNat : Nat) : Int) * ((10 ^ (60 - (maxS a b).toNat) : Nat) : Int) := by
    rw [← Int.natCast_mul, Nat.mul_assoc, ← Nat.pow_add, show (maxS a b - a.scale).toNat + (60 - (maxS a b).toNat) = 60 - a.scale.toNat by omega]; rfl
  have eb : (qN b : Int) = ((valD b.digits * 10 ^ (maxS a b - b.scale).toNat : Nat) : Int) * ((10 ^ (60 - (maxS a b).toNat) : Nat) : Int) := by
    rw [← Int.natCast_mul, Nat.mul_assoc, ← Nat.pow_add, show (maxS a b - b.scale).toNat + (60 - (maxS a b).toNat) = 60 - b.scale.toNat by omega]; rfl
  rw [ea, eb, ← Int.sub_mul, sgn_mul (by have := Nat.pow_pos (n := 60 - (maxS a b).toNat) (show 0 < 10 by omega); omega)]
theorem sgn_neg (n : Int) : sgn (- n) = - sgn n := by unfold sgn; split <;> split <;> (try split) <;> omega
theorem valD_pos {s : List UInt8} (hd : s.all isDig = true) (hl : 0 < s.length) (h : byteAt s 0 ≠ 48) : 10 ^ (s.length - 1) ≤ valD s := by
  cases s with
  | nil => simp at hl
  | cons b s =>
    simp only [List.all_cons, Bool.and_eq_true] at hd
    have h1 := (isDig_iff b).1 hd.1
    have h2 : b.toNat ≠ 48 := by simp [byteAt] at h; omega
    rw [valD_cons]
    have := Nat.mul_le_mul_right (10 ^ s.length) (show 1 ≤ b.toNat - 48 by omega)
    simp; omega
theorem qN_zero {d : Dc} (h : dcMay d = true) (h0 : qN d = 0) : d.neg = false := by
  have hk := dcMay_ok h
  unfold dcMay at h
  simp only [Bool.and_eq_true, decide_eq_true_eq] at h
  obtain ⟨⟨h1, h2⟩, h3⟩ := h
  by_cases hz : d.digits = [48]
  · rw [if_pos hz] at h3; simp at h3; exact h3.2
  · rw [if_neg hz] at h3
    simp at h3
    have := valD_pos h1 (by omega) h3.1
    have hp := Nat.pow_pos (n := d.digits.length - 1) (show 0 < 10 by omega)
    have hq : 0 < qN d := Nat.mul_pos (by omega) (Nat.pow_pos (by omega))
    omega
theorem cmpD_spec {a b : Dc} (ha : dcMay a = true) (hb : dcMay b = true) : cmpD a b = sgn (qD a - qD b) := by
  have hr := raw_spec ha hb
  unfold cmpD
  by_cases h : a.neg = b.neg
  · rw [if_pos h]
    unfold qD
    rw [← h]
    split
    · rw [sgn_neg, hr, ← sgn_neg]; congr 1; omega
    · exact hr
  · rw [if_neg h]
    have hz1 := fun h0 => qN_zero ha h0
    have hz2 := fun h0 => qN_zero hb h0
    unfold qD
    cases hna : a.neg with
    | true =>
      have hnb : b.neg = false := by rw [hna] at h; simpa using h
      have : qN a ≠ 0 := fun e => by have := hz1 e; rw [hna] at this; cases this
      rw [hnb]; simp [sgn]; omega
    | false =>
      have hnb : b.neg = true := by rw [hna] at h; simpa using h
      have : qN b ≠ 0 := fun e => by have := hz2 e; rw [hnb] at this; cases this
      rw [hnb]; simp [sgn]; omega
end Go.Proofs.YtgoepemmcibdaaaDoor
namespace Go.Proofs.YtgoepemmcibdaaaDoor
open Sy Go
/-- A row of truths. -/
def rowP (n : Nat) (F : Nat → Bool) : List PD := (List.range n).map fun i => .bool (F i)
@[simp] theorem rowP_len (n : Nat) (F : Nat → Bool) : (rowP n F).length = n := by simp [rowP]
@[simp] theorem rowP_getElem {n i : Nat} {F : Nat → Bool} (h : i < (rowP n F).length) : (rowP n F)[i] = .bool (F i) := by simp [rowP]
theorem rowP_get {n i : Nat} {F : Nat → Bool} (h : i < n) : (rowP n F)[i]? = some (.bool (F i)) := by simp [rowP, h]
@[simp] theorem rowP_set (n i : Nat) (F : Nat → Bool) (b : Bool) : (rowP n F).set i (.bool b) = rowP n fun k => if k = i then b else F k := by
  apply List.ext_getElem?
  intro k
  simp only [rowP, List.getElem?_set, List.getElem?_map, List.length_map, List.length_range]
  by_cases h : i = k
  · subst h
    by_cases h2 : i < n
    · simp [h2]
    · simp [h2]
  · simp only [h, if_false]
    by_cases h2 : k < n
    · simp [h2, Ne.symm h]
    · simp [h2]
theorem rowP_congr {n : Nat} {F F' : Nat → Bool} (h : ∀ i, i < n → F i = F' i) : rowP n F = rowP n F' := by
  simp only [rowP]
  exact List.map_congr_left fun i hi => by rw [h i (by simpa using hi)]
theorem rep_row (n : Nat) : List.replicate n (PD.bool false) = rowP n fun _ => false := by
  apply List.ext_getElem?
  intro i
  by_cases h : i < n
  · rw [rowP_get h]; simp [h]
  · rw [List.getElem?_eq_none (by simp; omega), List.getElem?_eq_none (by simp; omega)]
theorem reps_row (n : Nat) : reps n (PD.bool false) = rowP n fun _ => false := rep_row n
@[simp] theorem rowP_take (n : Nat) (F : Nat → Bool) : (rowP n F).take n = rowP n F := List.take_of_length_le (by simp)
@[simp] theorem rowP_drop (n : Nat) (F : Nat → Bool) : (rowP n F).drop n = [] := List.drop_eq_nil_of_le (by simp)
@[simp] theorem reps_drop (n : Nat) (d : PD) : (reps n d).drop n = [] := List.drop_eq_nil_of_le (by simp)
@[simp] theorem reps_take (n : Nat) (d : PD) : (reps n d).take n = reps n d := List.take_of_length_le (by simp)
end Go.Proofs.YtgoepemmcibdaaaDoor
namespace Go.Proofs.YtgoepemmcibdaaaDoor
open Sy Go
set_option maxRecDepth 100000
set_option linter.unusedSimpArgs false
set_option linter.unusedVariables false
variable {G : Glob}

def rloop (s : List UInt8) (i : Nat) : Nat → Nat → Int → Option Int
  | 0, _, v => some v
  | r + 1, j, v => match s[i + j]? with
    | none => none
    | some c => if (c.toNat : Int) < 128 ∨ 192 ≤ (c.toNat : Int) then none else rloop s i r (j + 1) (64 * v + c.toNat - 128)
def rcase (c : Int) : Nat × Int × Int :=
  if 194 ≤ c ∧ c < 224 then (2, 128, c - 192) else if 224 ≤ c ∧ c < 240 then (3, 2048, c - 224) else if 240 ≤ c ∧ c < 245 then (4, 65536, c - 240) else (0, 0, 0)
def rfin (low : Int) (need : Nat) : Option Int → Int × Int
  | none => (0, 0)
  | some v => if v < low ∨ v > 1114111 ∨ (55296 ≤ v ∧ v < 57344) then (0, 0) else (v, need)
def rtail (s : List UInt8) (i : Nat) (x : Nat × Int × Int) : Int × Int := if x.1 = 0 ∨ s.length < i + x.1 then (0, 0) else rfin x.2.1 x.1 (rloop s i (x.1 - 1) 1 x.2.2)
def runeM (s : List UInt8) (i : Nat) : Int × Int := match s[i]? with
  | none => (0, 0)
  | some b => if (b.toNat : Int) < 128 then (b.toNat, 1) else rtail s i (rcase b.toNat)
def rS (s : List UInt8) (i : Nat) (x : Nat × Int × Int) : St := ⟨[.p (.str s), .p (.int .i64 i), .dead, .dead, .p (.int .i64 0), .p (.int .i64 0), .dead, .p (.int .i64 x.1), .p (.int .i64 x.2.1), .p (.int .i64 x.2.2)] ++ List.replicate 86 .dead, [], [], 0⟩
def rS2 (s : List UInt8) (i : Nat) (need : Nat) (low : Int) (a : Nat × Int) : St := ⟨[.p (.str s), .p (.int .i64 i), .dead, .dead, .p (.int .i64 0), .p (.int .i64 0), .dead, .p (.int .i64 need), .p (.int .i64 low), .p (.int .i64 a.2), .p (.int .i64 a.1)] ++ List.replicate 85 .dead, [], [], 0⟩
theorem Rune_ev (s : List UInt8) (i : Nat) (hi : i < s.length) (hs : s.length ≤ 1000000000) : AFn Tryd.prog G 56 [.str s, .int .i64 i] (.tup [.int .i64 (runeM s i).1, .int .i64 (runeM s i).2]) := by
  refine AFn.intro tok Tryd.func56 (by kernel_rfl) rfl ?_
  simp only [Tryd.f56, St.start]
  obtain ⟨b, hb⟩ : ∃ b, s[i]? = some b := ⟨s[i], by simp [hi]⟩
  have hblt : b.toNat < 256 := b.toNat_lt
  have hrune : runeM s i = if (b.toNat : Int) < 128 then ((b.toNat : Int), 1) else rtail s i (rcase b.toNat) := by simp only [runeM, hb]
  refine AW.seqRun tok [] (by intro C; conv => lhs; simp) trivial ?_ -- r0 {}
  refine AW.seqRun tok [.int .u8 b.toNat] (by intro C; conv => lhs; simp) (by simp [hb]) ?_ -- r1 {t14:sidx}
  refine AW.seqRun tok [] (by intro C; conv => lhs; simp) trivial ?_ -- r2 {}
  refine AW.seqRun tok [] (by intro C; conv => lhs; simp) trivial ?_ -- r3 {}
  refine AW.seqRun tok [] (by intro C; conv => lhs; simp) trivial ?_ -- r4 {}
  refine AW.join (α := Nat × Int × Int) (fun x => runeM s i = rtail s i x ∧ x.1 ≤ 4 ∧ 0 ≤ x.2.2 ∧ x.2.2 ≤ 40) (fun x => rS s i x) ?_ ?_
  · refine AW.block ?_
    refine AW.seqRun tok [] (by intro C; conv => lhs; simp) trivial ?_ -- r5 {}
    refine AW.cond (c := .tmp 16) (by conv => lhs; simp) trivial ?_ ?_
    · intro h1
      simp at h1
      refine AW.seqRun tok [] (by intro C; conv => lhs; simp) trivial ?_ -- r6 {}
      exact AW.ret ⟨.inr rfl, _, _, by (conv => lhs; simp), trivial, by rw [hrune, if_pos h1]; simp⟩
    · intro h1
      simp at h1
      have hr2 : runeM s i = rtail s i (rcase b.toNat) := by rw [hrune, if_neg (by omega)]
      refine AW.seqRun tok [] (by intro C; conv => lhs; simp) (by simp) ?_ -- r7 {}
      refine AW.cond (c := .tmp 20) (by conv => lhs; simp) trivial ?_ ?_
      · intro h2
        simp at h2
        refine AW.seqRun tok [] (by intro C; conv => lhs; simp) trivial ?_ -- r8 {}
        refine AW.seqRun tok [] (by intro C; conv => lhs; simp) trivial ?_ -- r9 {}
        refine AW.run tok [] (by intro C; conv => lhs; simp) (by omega) ?_ -- r10 {}
        exact ⟨(2, 128, b.toNat - 192), ⟨by rw [hr2]; simp [rcase, h2], by simp, by simp; omega, by simp; omega⟩, by simp [rS], rfl, by simp [rS], by simp [rS]⟩
      · intro h2
        refine AW.seqRun tok [] (by intro C; conv => lhs; simp) (by simp) ?_ -- r11
        refine AW.cond (c := .tmp 29) (by conv => lhs; simp) trivial ?_ ?_
        · intro h3
          simp at h3
          refine AW.seqRun tok [] (by intro C; conv => lhs; simp) trivial ?_
          refine AW.seqRun tok [] (by intro C; conv => lhs; simp) trivial ?_
          refine AW.run tok [] (by intro C; conv => lhs; simp) (by omega) ?_
          exact ⟨(3, 2048, b.toNat - 224), ⟨by rw [hr2]; simp [rcase, h3, show ¬ ((b.toNat : Int) < 224) by omega], by simp, by simp; omega, by simp; omega⟩, by simp [rS], rfl, by simp [rS], by simp [rS]⟩
        · intro h3
          refine AW.seqRun tok [] (by intro C; conv => lhs; simp) (by simp) ?_ -- r15
          refine AW.cond (c := .tmp 38) (by conv => lhs; simp) trivial ?_ ?_
          · intro h4
            simp at h4
            refine AW.seqRun tok [] (by intro C; conv => lhs; simp) trivial ?_
            refine AW.seqRun tok [] (by intro C; conv => lhs; simp) trivial ?_
            refine AW.run tok [] (by intro C; conv => lhs; simp) (by omega) ?_
            exact ⟨(4, 65536, b.toNat - 240), ⟨by rw [hr2]; simp [rcase, h4, show ¬ ((b.toNat : Int) < 224) by omega, show ¬ ((b.toNat : Int) < 240) by omega], by simp, by simp; omega, by simp; omega⟩, by simp [rS], rfl, by simp [rS], by simp [rS]⟩
          · intro h4
            simp at h2 h3 h4
            refine AW.skip ?_
            exact ⟨(0, 0, 0), ⟨by rw [hr2]; simp [rcase, show ¬ (194 ≤ (b.toNat : Int) ∧ (b.toNat : Int) < 224) by omega, show ¬ (224 ≤ (b.toNat : Int) ∧ (b.toNat : Int) < 240) by omega, show ¬ (240 ≤ (b.toNat : Int) ∧ (b.toNat : Int) < 245) by omega],
              by simp, by simp, by simp⟩, by simp [rS], rfl, by simp [rS], by simp [rS]⟩
  · rintro ⟨need, low, v0⟩ ⟨hr, hneed, hv0, hv1⟩
    simp only at hneed hv0 hv1
    simp only [rS]
    rw [hr]
    refine AW.seq ?_
    refine AW.seqRun tok [] (by intro C; conv => lhs; simp) (by simp +contextual; omega) ?_ -- r19
    refine AW.cond (c := .tmp 56) (by conv => lhs; simp) trivial ?_ ?_
    · intro h1
      simp at h1
      refine AW.seqRun tok [] (by intro C; conv => lhs; simp) trivial ?_
      exact AW.ret ⟨.inr rfl, _, _, by (conv => lhs; simp), trivial, by simp [rtail, show need = 0 ∨ s.length < i + need by omega]⟩
    · intro h1
      simp at h1
      have hfit : ¬ (need = 0 ∨ s.length < i + need) := by omega
      have htl : rtail s i (need, low, v0) = rfin low need (rloop s i (need - 1) 1 v0) := by simp only [rtail]; rw [if_neg hfit]
      rw [htl]
      refine AW.skip ?_
      refine AW.seq ?_
      refine AW.seqRun tok [] (by intro C; conv => lhs; simp) trivial ?_ -- r21
      refine AW.block ?_
      refine AW.loop (α := Nat × Int) (fun a => 1 ≤ a.1 ∧ a.1 ≤ need ∧ rloop s i (need - 1) 1 v0 = rloop s i (need - a.1) a.1 a.2 ∧ 0 ≤ a.2 ∧ (a.1 = 1 → a.2 ≤ 40) ∧ (a.1 = 2 → a.2 ≤ 3000) ∧ (a.1 = 3 → a.2 ≤ 200000) ∧ (a.1 = 4 → a.2 ≤ 14000000))
        (fun a => rS2 s i need low a) (fun a => need - a.1) (1, v0) ⟨by simp, by omega, rfl, hv0, fun _ => hv1, by simp, by simp, by simp⟩ ⟨by simp [rS2], rfl, by simp [rS2], by simp [rS2]⟩ ?_
      rintro ⟨j, v⟩ ⟨hj1, hj2, hlp, hv, hb1, hb2, hb3, hb4⟩
      simp only at hj1 hj2 hlp hv hb1 hb2 hb3 hb4
      simp only [rS2]
      refine AW.seq ?_
      refine AW.seqRun tok [] (by intro C; conv => lhs; simp) trivial ?_ -- r22
      refine AW.cond (c := .tmp 59) (by conv => lhs; simp) trivial ?_ ?_
      · intro h4
        simp at h4
        obtain ⟨c, hc⟩ : ∃ c, s[i + j]? = some c := ⟨s[i + j]'(by omega), by simp [show i + j < s.length by omega]⟩
        have hclt : c.toNat < 256 := c.toNat_lt
        have hstep : rloop s i (need - j) j v = if (c.toNat : Int) < 128 ∨ 192 ≤ (c.toNat : Int) then none else rloop s i (need - (j + 1)) (j + 1) (64 * v + c.toNat - 128) := by
          rw [show need - j = (need - (j + 1)) + 1 by omega]; simp only [rloop, hc]
        refine AW.skip ?_
        refine AW.seq ?_
        refine AW.block ?_
        refine AW.seqRun tok [.int .u8 c.toNat] (by intro C; conv => lhs; simp) (by rw [show ((i : Int) + j).toNat = i + j by omega]; simp [hc]; omega) ?_ -- r24
        refine AW.seq ?_
        refine AW.seqRun tok [] (by intro C; conv => lhs; simp) (by simp) ?_ -- r25
        refine AW.cond (c := .tmp 73) (by conv => lhs; simp) trivial ?_ ?_
        · intro h5
          simp at h5
          refine AW.seqRun tok [] (by intro C; conv => lhs; simp) trivial ?_ -- r26
          exact AW.ret ⟨.inr rfl, _, _, by (conv => lhs; simp), trivial, by rw [hlp, hstep, if_pos (by omega)]; simp [rfin]⟩
        · intro h5
          simp at h5
          refine AW.skip ?_
          refine AW.run tok [] (by intro C; conv => lhs; simp) (by omega) ?_ -- r27
          refine AW.run tok [] (by intro C; conv => lhs; simp) (by omega) ?_ -- r23
          exact ⟨(j + 1, 64 * v + c.toNat - 128), ⟨by simp, by simp; omega, by rw [hlp, hstep, if_neg (by omega)], by simp; omega, by simp; omega, by simp; omega, by simp; omega, by simp; omega⟩, by simp; omega, by simp [rS2], rfl, by simp [rS2], by simp [rS2]⟩
      · intro h4
        simp at h4
        have hjn : j = need := by omega
        subst hjn
        rw [hlp]
        simp only [Nat.sub_self, rloop]
        refine AW.exit ?_
        simp
        refine AW.seq ?_
        refine AW.seqRun tok [] (by intro C; conv => lhs; simp) (by omega) ?_ -- r28
        refine AW.cond (c := .tmp 93) (by conv => lhs; simp) trivial ?_ ?_
        · intro h5
          simp at h5
          refine AW.seqRun tok [] (by intro C; conv => lhs; simp) trivial ?_
          exact AW.ret ⟨.inr rfl, _, _, by (conv => lhs; simp), trivial, by simp only [rfin]; rw [if_pos (by omega)]; simp⟩
        · intro h5
          simp at h5
          refine AW.skip ?_
          refine AW.seqRun tok [] (by intro C; conv => lhs; simp) trivial ?_
          exact AW.ret ⟨.inr rfl, _, _, by (conv => lhs; simp), trivial, by simp only [rfin]; rw [if_neg (by omega)]; simp⟩
end Go.Proofs.YtgoepemmcibdaaaDoor
namespace Go.Proofs.YtgoepemmcibdaaaDoor
open Sy Go
set_option maxRecDepth 100000
set_option linter.unusedSimpArgs false
set_option linter.unusedVariables false
variable {G : Glob}
theorem runeM_len (s : List UInt8) (i : Nat) (hi : i < s.length) : 0 ≤ (runeM s i).2 ∧ (i : Int) + (runeM s i).2 ≤ s.length ∧ (runeM s i).2 ≤ 4 := by
  unfold runeM
  split
  · simp; omega
  · rename_i b hb
    split
    · simp; omega
    · have h4 : (rcase b.toNat).1 ≤ 4 := by
        unfold rcase; split
        · simp
        · split
          · simp
          · split <;> simp
      generalize rcase b.toNat = x at h4
      unfold rtail
      split
      · simp; omega
      · rename_i h
        have h' : i + x.1 ≤ s.length := by omega
        unfold rfin
        split
        · simp; omega
        · split
          · simp; omega
          · simp only; omega
def vloop (s : List UInt8) : Nat → Nat → Bool
  | 0, _ => true
  | f + 1, i => if i < s.length then (if (runeM s i).2 = 0 then false else vloop s f (i + (runeM s i).2.toNat)) else true
def validM (s : List UInt8) : Bool := vloop s (s.length + 1) 0
def vS (s : List UInt8) (i : Nat) : St := ⟨[.p (.str s), .dead, .p (.bool false), .p (.int .i64 i)] ++ List.replicate 17 .dead, [], [], 0⟩
theorem refValid_ev (s : List UInt8) (hs : s.length ≤ 1000000000) : AFn Tryd.prog G 39 [.str s] (.bool (validM s)) := by
  refine AFn.intro tok Tryd.func39 (by kernel_rfl) rfl ?_
  simp only [Tryd.f39, St.start]
  refine AW.seqRun tok [] (by intro C; conv => lhs; simp) trivial ?_ -- r0 {}
  refine AW.seqRun tok [] (by intro C; conv => lhs; simp) trivial ?_ -- r1 {}
  refine AW.seq ?_
  refine AW.block ?_
  -- LOOP
  refine AW.loop (α := Nat × Nat) (fun a => validM s = vloop s a.2 a.1 ∧ a.1 ≤ s.length ∧ s.length + 1 ≤ a.2 + a.1) (fun a => vS s a.1) (fun a => s.length - a.1) (0, s.length + 1) ⟨rfl, by simp, by simp⟩ ⟨by simp [vS], rfl, by simp [vS], by simp [vS]⟩ ?_
  rintro ⟨i, f⟩ ⟨hI, hi, hf⟩
  simp only at hI hi hf
  simp only [vS]
  refine AW.seq ?_
  refine AW.seqRun tok [] (by intro C; conv => lhs; simp) trivial ?_ -- r2 {}
  refine AW.cond (c := .tmp 9) (by conv => lhs; simp) trivial ?_ ?_
  · intro h1
    simp at h1
    obtain ⟨f, rfl⟩ : ∃ f', f = f' + 1 := ⟨f - 1, by omega⟩
    have hl := runeM_len s i h1
    have hR := Rune_ev (G := G) s i h1 hs
    simp only [vloop, h1, if_true] at hI
    refine AW.skip ?_
    refine AW.block ?_
    refine AW.seqRun tok [.tup [.str s, .int .i64 i], .tup [.int .i64 (runeM s i).1, .int .i64 (runeM s i).2]] (by intro C; conv => lhs; simp) (by simp [hR]) ?_ -- r3
    refine AW.seq ?_
    refine AW.seqRun tok [] (by intro C; conv => lhs; simp) trivial ?_ -- r4 {}
    refine AW.cond (c := .tmp 17) (by conv => lhs; simp) trivial ?_ ?_
    · intro h2
      simp at h2
      refine AW.seqRun tok [] (by intro C; conv => lhs; simp) trivial ?_ -- r5 {}
      exact AW.ret ⟨.inr rfl, _, _, by (conv => lhs; simp), trivial, by rw [hI]; simp [h2]⟩
    · intro h2
      simp at h2
      rw [if_neg h2] at hI
      refine AW.skip ?_
      refine AW.run tok [] (by intro C; conv => lhs; simp) (by omega) ?_ -- r6 {}
      exact ⟨(i + (runeM s i).2.toNat, f), ⟨hI, by simp; omega, by simp; omega⟩, by simp; omega, by simp [vS]; omega, rfl, by simp [vS], by simp [vS]⟩ -- END OF ROUND
  · intro h1
    simp at h1
    refine AW.exit ?_ -- exit 0
    simp
    refine AW.seqRun tok [] (by intro C; conv => lhs; simp) trivial ?_ -- r7 {}
    exact AW.ret ⟨.inr rfl, _, _, by (conv => lhs; simp), trivial, by
      rw [hI]
      cases f with
      | zero => simp [vloop]
      | succ f => simp only [vloop]; rw [if_neg (by omega)]; simp⟩
end Go.Proofs.YtgoepemmcibdaaaDoor
/-
  A PLAIN LAW: the reference's runes are the model's own decoding; which texts are UTF-8.
-/
namespace Go.Proofs.YtgoepemmcibdaaaDoor
open Sy Go
set_option maxRecDepth 100000
set_option linter.unusedSimpArgs false
set_option linter.unusedVariables false

theorem ba_get {s : List UInt8} {j : Nat} {c : UInt8} (h : s[j]? = some c) : (⟨s.toArray⟩ : ByteArray).get! j = c := by
  have hj := (List.getElem?_eq_some_iff.1 h).1
  have hc := (List.getElem?_eq_some_iff.1 h).2
  show s.toArray[j]! = c
  rw [getElem!_pos s.toArray j (by simpa using hj)]
  simpa using hc
def byteO (o : Option UInt8) : Nat := match o with
  | some c => c.toNat
  | none => 0
def contO (o : Option UInt8) : Bool := match o with
  | some c => c.toNat / 64 == 2
  | none => false
def decO (b0 : Nat) (o1 o2 o3 : Option UInt8) : Nat × Nat :=
  if b0 < 0x80 then (b0, 1)
  else if b0 / 32 == 6 && contO o1 then
    if (b0 % 32) * 64 + byteO o1 % 64 ≥ 0x80 then ((b0 % 32) * 64 + byteO o1 % 64, 2) else (65533, 1)
  else if b0 / 16 == 14 && contO o1 && contO o2 then
    if (b0 % 16) * 4096 + (byteO o1 % 64) * 64 + byteO o2 % 64 ≥ 0x800 && Utf8.valid ((b0 % 16) * 4096 + (byteO o1 % 64) * 64 + byteO o2 % 64 : Nat) then ((b0 % 16) * 4096 + (byteO o1 % 64) * 64 + byteO o2 % 64, 3) else (65533, 1)
  else if b0 / 8 == 30 && contO o1 && contO o2 && contO o3 then
    if (b0 % 8) * 262144 + (byteO o1 % 64) * 4096 + (byteO o2 % 64) * 64 + byteO o3 % 64 ≥ 0x10000 && Utf8.valid ((b0 % 8) * 262144 + (byteO o1 % 64) * 4096 + (byteO o2 % 64) * 64 + byteO o3 % 64 : Nat) then
      ((b0 % 8) * 262144 + (byteO o1 % 64) * 4096 + (byteO o2 % 64) * 64 + byteO o3 % 64, 4) else (65533, 1)
  else (65533, 1)
theorem decode_O {s : List UInt8} {i : Nat} {b : UInt8} (h : s[i]? = some b) : Utf8.decode ⟨s.toArray⟩ i = decO b.toNat s[i + 1]? s[i + 2]? s[i + 3]? := by
  have hsz : (⟨s.toArray⟩ : ByteArray).size = s.length := by simp [ByteArray.size]
  have cont : ∀ k, (decide (i + k < (⟨s.toArray⟩ : ByteArray).size) && ((⟨s.toArray⟩ : ByteArray).get! (i + k)).toNat / 64 == 2) = contO s[i + k]? := by
    intro k
    rw [hsz]
    cases hk : s[i + k]? with
    | none =>
      have : ¬ i + k < s.length := by have := List.getElem?_eq_none_iff.1 hk; omega
      simp [contO, this]
    | some c =>
      have := (List.getElem?_eq_some_iff.1 hk).1
      simp [contO, this, ba_get hk]
  have byt : ∀ k, contO s[i + k]? = true → ((⟨s.toArray⟩ : ByteArray).get! (i + k)).toNat = byteO s[i + k]? := by
    intro k hk
    cases hc : s[i + k]? with
    | none => rw [hc] at hk; cases hk
    | some c => rw [ba_get hc]; rfl
  have b0 : ((⟨s.toArray⟩ : ByteArray).get! (i + 0)).toNat = b.toNat := by rw [Nat.add_zero, ba_get h]
  unfold Utf8.decode decO
  simp only [cont, b0]
  by_cases h1 : contO s[i + 1]? = true
  · rw [byt 1 h1]
    by_cases h2 : contO s[i + 2]? = true
    · rw [byt 2 h2]
      by_cases h3 : contO s[i + 3]? = true
      · rw [byt 3 h3]; simp only [h1, h2, h3]; rfl
      · simp only [h1, h2, h3, Bool.and_false, Bool.false_eq_true, if_false]; rfl
    · simp only [h1, h2, Bool.and_false, Bool.false_and, Bool.false_eq_true, if_false]; rfl
  · simp only [h1, Bool.and_false, Bool.false_and, Bool.false_eq_true, if_false]; rfl

theorem fin_case (low v : Int) (m k : Nat) (hk : k ≠ 0) (hv : v = (m : Int)) : (if (rfin low k (some v)).2 = 0 then ((65533 : Nat), (1 : Nat)) else ((rfin low k (some v)).1.toNat, (rfin low k (some v)).2.toNat)) =
    if (m : Int) < low ∨ (m : Int) > 1114111 ∨ (55296 ≤ (m : Int) ∧ (m : Int) < 57344) then (65533, 1) else (m, k) := by
  subst hv
  unfold rfin
  by_cases h : (m : Int) < low ∨ (m : Int) > 1114111 ∨ (55296 ≤ (m : Int) ∧ (m : Int) < 57344)
  · simp only [h, if_true]
  · simp only [h, if_false]
    rw [if_neg (by omega)]
    rfl
theorem valid_case (m : Nat) : Utf8.valid (m : Int) = decide (¬ ((m : Int) > 1114111 ∨ (55296 ≤ (m : Int) ∧ (m : Int) < 57344))) := by
  rw [Bool.eq_iff_iff]; simp only [Utf8.valid, Bool.or_eq_true, Bool.and_eq_true, decide_eq_true_eq]; omega
theorem isC (c : UInt8) : (c.toNat / 64 == 2) = decide (128 ≤ c.toNat ∧ c.toNat < 192) := by rw [Bool.eq_iff_iff]; simp only [beq_iff_eq, decide_eq_true_eq]; omega
theorem contO_some (c : UInt8) : contO (some c) = decide (128 ≤ c.toNat ∧ c.toNat < 192) := isC c
theorem rloop_ok {s : List UInt8} {i r j : Nat} {v : Int} {c : UInt8} (h : s[i + j]? = some c) (hc : 128 ≤ c.toNat ∧ c.toNat < 192) : rloop s i (r + 1) j v = rloop s i r (j + 1) (64 * v + c.toNat - 128) := by
  simp only [rloop, h]; rw [if_neg (by omega)]
theorem rloop_no {s : List UInt8} {i r j : Nat} {v : Int} {c : UInt8} (h : s[i + j]? = some c) (hc : ¬ (128 ≤ c.toNat ∧ c.toNat < 192)) : rloop s i (r + 1) j v = none := by
  simp only [rloop, h]; rw [if_pos (by omega)]
theorem decO_bad {n : Nat} {o1 o2 o3 : Option UInt8} (h0 : ¬ n < 128) (h : (n / 32 = 6 → contO o1 = true → n % 32 * 64 + byteO o1 % 64 < 128) ∧ (n / 16 = 14 → contO o1 = true → contO o2 = false) ∧ (n / 8 = 30 → contO o1 = true → contO o2 = true → contO o3 = true → 1114111 < n % 8 * 262144)) :
    decO n o1 o2 o3 = (65533, 1) := by
  obtain ⟨h1, h2, h3⟩ := h
  unfold decO
  rw [if_neg h0]
  by_cases a : n / 32 = 6
  · have b : ¬ n / 16 = 14 := by omega
    have c : ¬ n / 8 = 30 := by omega
    cases hc : contO o1 with
    | true => simp only [a, beq_self_eq_true, Bool.and_self, if_true]; rw [if_neg (by have := h1 a hc; omega)]
    | false => simp [a, b, c]
  · by_cases b : n / 16 = 14
    · have c : ¬ n / 8 = 30 := by omega
      cases hc : contO o1 with
      | true => simp [a, b, c, h2 b hc]
      | false => simp [a, b, c]
    · by_cases c : n / 8 = 30
      · cases hc1 : contO o1 with
        | false => simp [a, b]
        | true =>
          cases hc2 : contO o2 with
          | false => simp [a, b]
          | true =>
            cases hc3 : contO o3 with
            | false => simp [a, b]
            | true =>
              have hb := h3 c hc1 hc2 hc3
              simp only [a, b, c, beq_iff_eq, beq_self_eq_true, Bool.false_and, Bool.and_self, Bool.and_true, if_false, if_true, Bool.false_eq_true]
              rw [if_neg]
              rw [valid_case]
              simp only [Bool.and_eq_true, decide_eq_true_eq]
              omega
      · simp [a, b, c]

theorem decO_2 {n : Nat} {c : UInt8} {o2 o3 : Option UInt8} (h0 : ¬ n < 128) (hn : n / 32 = 6) (hc : 128 ≤ c.toNat ∧ c.toNat < 192) :
    decO n (some c) o2 o3 = if n % 32 * 64 + c.toNat % 64 ≥ 128 then (n % 32 * 64 + c.toNat % 64, 2) else (65533, 1) := by
  have h1 : contO (some c) = true := by rw [contO_some]; exact decide_eq_true hc
  unfold decO
  rw [if_neg h0, if_pos (by rw [h1, hn]; rfl)]
  rfl
theorem decO_3 {n : Nat} {c d : UInt8} {o3 : Option UInt8} (h0 : ¬ n < 128) (hn : n / 16 = 14) (hc : 128 ≤ c.toNat ∧ c.toNat < 192) (hd : 128 ≤ d.toNat ∧ d.toNat < 192) {m : Nat} (hm : m = n % 16 * 4096 + c.toNat % 64 * 64 + d.toNat % 64) :
    decO n (some c) (some d) o3 = if (m : Int) < 2048 ∨ (m : Int) > 1114111 ∨ (55296 ≤ (m : Int) ∧ (m : Int) < 57344) then (65533, 1) else (m, 3) := by
  have h1 : contO (some c) = true := by rw [contO_some]; exact decide_eq_true hc
  have h2 : contO (some d) = true := by rw [contO_some]; exact decide_eq_true hd
  have e1 : ¬ n / 32 = 6 := by omega
  unfold decO
  rw [if_neg h0, if_neg (by rw [h1]; simp [e1]), if_pos (by rw [h1, h2, hn]; rfl)]
  simp only [byteO, ← hm, valid_case]
  clear hm
  by_cases hb : (m : Int) < 2048 ∨ (m : Int) > 1114111 ∨ 55296 ≤ (m : Int) ∧ (m : Int) < 57344
  · rw [if_pos hb, if_neg]; simp only [Bool.and_eq_true, decide_eq_true_eq]; omega
  · rw [if_neg hb, if_pos]; simp only [Bool.and_eq_true, decide_eq_true_eq]; omega
theorem decO_4 {n : Nat} {c d e : UInt8} (h0 : ¬ n < 128) (hn : n / 8 = 30) (hc : 128 ≤ c.toNat ∧ c.toNat < 192) (hd : 128 ≤ d.toNat ∧ d.toNat < 192) (he : 128 ≤ e.toNat ∧ e.toNat < 192) {m : Nat}
    (hm : m = n % 8 * 262144 + c.toNat % 64 * 4096 + d.toNat % 64 * 64 + e.toNat % 64) :
    decO n (some c) (some d) (some e) = if (m : Int) < 65536 ∨ (m : Int) > 1114111 ∨ (55296 ≤ (m : Int) ∧ (m : Int) < 57344) then (65533, 1) else (m, 4) := by
  have h1 : contO (some c) = true := by rw [contO_some]; exact decide_eq_true hc
  have h2 : contO (some d) = true := by rw [contO_some]; exact decide_eq_true hd
  have h3 : contO (some e) = true := by rw [contO_some]; exact decide_eq_true he
  have e1 : ¬ n / 32 = 6 := by omega
  have e2 : ¬ n / 16 = 14 := by omega
  unfold decO
  rw [if_neg h0, if_neg (by rw [h1]; simp [e1]), if_neg (by rw [h1, h2]; simp [e2]), if_pos (by rw [h1, h2, h3, hn]; rfl)]
  simp only [byteO, ← hm, valid_case]
  clear hm
  by_cases hb : (m : Int) < 65536 ∨ (m : Int) > 1114111 ∨ 55296 ≤ (m : Int) ∧ (m : Int) < 57344
  · rw [if_pos hb, if_neg]; simp only [Bool.and_eq_true, decide_eq_true_eq]; omega
  · rw [if_neg hb, if_pos]; simp only [Bool.and_eq_true, decide_eq_true_eq]; omega

/-- What the reference's rune says of the model's. -/
theorem rune_decode {s : List UInt8} {i : Nat} (hi : i < s.length) : Utf8.decode ⟨s.toArray⟩ i = if (runeM s i).2 = 0 then (65533, 1) else ((runeM s i).1.toNat, (runeM s i).2.toNat) := by
  obtain ⟨b, hb⟩ : ∃ b, s[i]? = some b := ⟨s[i], by simp [hi]⟩
  rw [decode_O hb]
  have hblt : b.toNat < 256 := b.toNat_lt
  have hr : runeM s i = if (b.toNat : Int) < 128 then ((b.toNat : Int), 1) else rtail s i (rcase b.toNat) := by simp only [runeM, hb]
  have in1 : ∀ k, s[i + k]? = none ↔ s.length ≤ i + k := fun k => List.getElem?_eq_none_iff
  have has : ∀ k, i + k < s.length → ∃ c, s[i + k]? = some c := fun k hk => ⟨s[i + k], by simp [hk]⟩
  generalize b.toNat = n at hblt hr
  by_cases h0 : n < 128
  · rw [if_pos (by omega)] at hr
    rw [hr]
    simp [decO, h0]
  rw [if_neg (by omega)] at hr
  rw [hr]
  clear hr
  have tail0 : ∀ x : Nat × Int × Int, (x.1 = 0 ∨ s.length < i + x.1) → (if (rtail s i x).2 = 0 then ((65533 : Nat), (1 : Nat)) else ((rtail s i x).1.toNat, (rtail s i x).2.toNat)) = (65533, 1) := by
    intro x hx; unfold rtail; rw [if_pos hx]; rfl
  have tailn : ∀ x : Nat × Int × Int, ¬ (x.1 = 0 ∨ s.length < i + x.1) → rloop s i (x.1 - 1) 1 x.2.2 = none → (if (rtail s i x).2 = 0 then ((65533 : Nat), (1 : Nat)) else ((rtail s i x).1.toNat, (rtail s i x).2.toNat)) = (65533, 1) := by
    intro x hx hn; unfold rtail; rw [if_neg hx, hn]; rfl
  have tails : ∀ (x : Nat × Int × Int) (v : Int) (m : Nat), ¬ (x.1 = 0 ∨ s.length < i + x.1) → rloop s i (x.1 - 1) 1 x.2.2 = some v → v = m → (if (rtail s i x).2 = 0 then ((65533 : Nat), (1 : Nat)) else ((rtail s i x).1.toNat, (rtail s i x).2.toNat)) =
      if (m : Int) < x.2.1 ∨ (m : Int) > 1114111 ∨ (55296 ≤ (m : Int) ∧ (m : Int) < 57344) then (65533, 1) else (m, x.1) := by
    intro x v m hx hl hv; unfold rtail; rw [if_neg hx, hl]; exact fin_case _ _ _ _ (by omega) hv
  by_cases hA : 194 ≤ n ∧ n < 224
  · have hrc : rcase n = (2, 128, (n : Int) - 192) := by unfold rcase; rw [if_pos (by omega)]
    rw [hrc]
    by_cases hl : s.length < i + 2
    · rw [tail0 _ (Or.inr hl)]
      refine decO_bad h0 ⟨fun _ h => ?_, fun h => by omega, fun h => by omega⟩
      rw [(in1 1).2 (by omega)] at h; cases h
    obtain ⟨c, h1⟩ := has 1 (by omega)
    rw [h1]
    by_cases hc : 128 ≤ c.toNat ∧ c.toNat < 192
    · rw [tails (2, 128, (n : Int) - 192) _ (n % 32 * 64 + c.toNat % 64) (by simp; omega) (by rw [show (2 : Nat) - 1 = 0 + 1 from rfl, rloop_ok h1 hc]; rfl) (by simp only []; omega)]
      rw [decO_2 h0 (by omega) hc, if_pos (by omega), if_neg (by simp only []; omega)]
    · rw [tailn _ (by simp; omega) (by rw [show ((2 : Nat), (128 : Int), (n : Int) - 192).1 - 1 = 0 + 1 from rfl, rloop_no h1 hc])]
      refine decO_bad h0 ⟨fun _ h => ?_, fun h => by omega, fun h => by omega⟩
      rw [contO_some] at h; exact (hc (of_decide_eq_true h)).elim
  by_cases hB : 224 ≤ n ∧ n < 240
  · have hrc : rcase n = (3, 2048, (n : Int) - 224) := by unfold rcase; rw [if_neg (by omega), if_pos (by omega)]
    rw [hrc]
    by_cases hl : s.length < i + 3
    · rw [tail0 _ (Or.inr hl)]
      refine decO_bad h0 ⟨fun h => by omega, fun _ _ => ?_, fun h => by omega⟩
      rw [(in1 2).2 (by omega)]; rfl
    obtain ⟨c, h1⟩ := has 1 (by omega)
    obtain ⟨d, h2⟩ := has 2 (by omega)
    rw [h1, h2]
    by_cases hc : 128 ≤ c.toNat ∧ c.toNat < 192
    · by_cases hd : 128 ≤ d.toNat ∧ d.toNat < 192
      · rw [tails (3, 2048, (n : Int) - 224) _ (n % 16 * 4096 + c.toNat % 64 * 64 + d.toNat % 64) (by simp; omega) (by rw [show (3 : Nat) - 1 = 1 + 1 from rfl, rloop_ok h1 hc, show (1 : Nat) = 0 + 1 from rfl, rloop_ok h2 hd]; rfl) (by simp only []; omega)]
        exact decO_3 h0 (by omega) hc hd rfl
      · rw [tailn _ (by simp; omega) (by rw [show ((3 : Nat), (2048 : Int), (n : Int) - 224).1 - 1 = 1 + 1 from rfl, rloop_ok h1 hc, show (1 : Nat) = 0 + 1 from rfl, rloop_no h2 hd])]
        refine decO_bad h0 ⟨fun h => by omega, fun _ _ => ?_, fun h => by omega⟩
        rw [contO_some]; exact decide_eq_false hd
    · rw [tailn _ (by simp; omega) (by rw [show ((3 : Nat), (2048 : Int), (n : Int) - 224).1 - 1 = 1 + 1 from rfl, rloop_no h1 hc])]
      refine decO_bad h0 ⟨fun h => by omega, fun _ h => ?_, fun h => by omega⟩
      rw [contO_some] at h; exact (hc (of_decide_eq_true h)).elim
  by_cases hC : 240 ≤ n ∧ n < 245
  · have hrc : rcase n = (4, 65536, (n : Int) - 240) := by unfold rcase; rw [if_neg (by omega), if_neg (by omega), if_pos (by omega)]
    rw [hrc]
    by_cases hl : s.length < i + 4
    · rw [tail0 _ (Or.inr hl)]
      refine decO_bad h0 ⟨fun h => by omega, fun h => by omega, fun _ _ _ h => ?_⟩
      rw [(in1 3).2 (by omega)] at h; cases h
    obtain ⟨c, h1⟩ := has 1 (by omega)
    obtain ⟨d, h2⟩ := has 2 (by omega)
    obtain ⟨e, h3⟩ := has 3 (by omega)
    rw [h1, h2, h3]
    by_cases hc : 128 ≤ c.toNat ∧ c.toNat < 192
    · by_cases hd : 128 ≤ d.toNat ∧ d.toNat < 192
      · by_cases he : 128 ≤ e.toNat ∧ e.toNat < 192
        · rw [tails (4, 65536, (n : Int) - 240) _ (n % 8 * 262144 + c.toNat % 64 * 4096 + d.toNat % 64 * 64 + e.toNat % 64) (by simp; omega)
            (by rw [show (4 : Nat) - 1 = 2 + 1 from rfl, rloop_ok h1 hc, show (2 : Nat) = 1 + 1 from rfl, rloop_ok h2 hd, show (1 : Nat) = 0 + 1 from rfl, rloop_ok h3 he]; rfl) (by simp only []; omega)]
          exact decO_4 h0 (by omega) hc hd he rfl
        · rw [tailn _ (by simp; omega) (by rw [show ((4 : Nat), (65536 : Int), (n : Int) - 240).1 - 1 = 2 + 1 from rfl, rloop_ok h1 hc, show (2 : Nat) = 1 + 1 from rfl, rloop_ok h2 hd, show (1 : Nat) = 0 + 1 from rfl, rloop_no h3 he])]
          refine decO_bad h0 ⟨fun h => by omega, fun h => by omega, fun _ _ _ h => ?_⟩
          rw [contO_some] at h; exact (he (of_decide_eq_true h)).elim
      · rw [tailn _ (by simp; omega) (by rw [show ((4 : Nat), (65536 : Int), (n : Int) - 240).1 - 1 = 2 + 1 from rfl, rloop_ok h1 hc, show (2 : Nat) = 1 + 1 from rfl, rloop_no h2 hd])]
        refine decO_bad h0 ⟨fun h => by omega, fun h => by omega, fun _ _ h => ?_⟩
        rw [contO_some] at h; exact (hd (of_decide_eq_true h)).elim
    · rw [tailn _ (by simp; omega) (by rw [show ((4 : Nat), (65536 : Int), (n : Int) - 240).1 - 1 = 2 + 1 from rfl, rloop_no h1 hc])]
      refine decO_bad h0 ⟨fun h => by omega, fun h => by omega, fun _ h => ?_⟩
      rw [contO_some] at h; exact (hc (of_decide_eq_true h)).elim
  · have hrc : rcase n = (0, 0, 0) := by unfold rcase; rw [if_neg (by omega), if_neg (by omega), if_neg (by omega)]
    rw [hrc, tail0 _ (.inl rfl)]
    refine decO_bad h0 ⟨fun h _ => ?_, fun h => by omega, fun h _ _ _ => by omega⟩
    have : byteO s[i + 1]? % 64 < 64 := Nat.mod_lt _ (by omega)
    omega

theorem runeM_drop (s : List UInt8) (i : Nat) : runeM s i = runeM (s.drop i) 0 := by
  have h : ∀ k, (s.drop i)[k]? = s[i + k]? := fun k => by rw [List.getElem?_drop]
  have hl : ∀ (f : Nat) (j : Nat) (v : Int), rloop s i f j v = rloop (s.drop i) 0 f j v := by
    intro f
    induction f with
    | zero => intro j v; rfl
    | succ f ih =>
      intro j v
      simp only [rloop, Nat.zero_add, h, ih]
  unfold runeM
  rw [h 0, Nat.add_zero]
  cases hb : s[i]? with
  | none => rfl
  | some b =>
    have hi := (List.getElem?_eq_some_iff.1 hb).1
    simp only [rtail, hl, List.length_drop]
    have e : (s.length < i + (rcase ↑b.toNat).1) ↔ (s.length - i < 0 + (rcase ↑b.toNat).1) := by omega
    simp only [e]
theorem valid_eq (s : List UInt8) : Lib.validD s = validM s := by
  have key : ∀ (n : Nat) (s : List UInt8) (i f : Nat), n = s.length - i → i ≤ s.length → s.length + 1 ≤ f + i → vloop s f i = Lib.validD (s.drop i) := by
    intro n
    induction n using Nat.strongRecOn with
    | _ n ih =>
      intro s i f hn hi hf
      cases f with
      | zero => omega
      | succ f =>
        simp only [vloop]
        by_cases hlt : i < s.length
        · rw [if_pos hlt]
          have hne : s.drop i ≠ [] := by simp; omega
          rw [Lib.validD_step _ hne]
          have hd := rune_decode (s := s.drop i) (i := 0) (by simp; omega)
          rw [← runeM_drop] at hd
          have hl := runeM_len s i hlt
          have hdl : Lib.decodeL (s.drop i) = Utf8.decode ⟨(s.drop i).toArray⟩ 0 := rfl
          rw [hdl, hd]
          by_cases h0 : (runeM s i).2 = 0
          · rw [if_pos h0, if_pos h0, if_pos ⟨rfl, rfl⟩]
          · rw [if_neg h0, if_neg h0]
            have hne2 : ¬ ((runeM s i).1.toNat = 65533 ∧ (runeM s i).2.toNat = 1) := by
              rintro ⟨h1, h2⟩
              have : (runeM s i).1 = 65533 := by omega
              have h3 : (runeM s i).2 = 1 := by omega
              obtain ⟨b, hb⟩ : ∃ b, s[i]? = some b := ⟨s[i], by simp [hlt]⟩
              have hb256 : b.toNat < 256 := b.toNat_lt
              have hr : runeM s i = if (b.toNat : Int) < 128 then ((b.toNat : Int), 1) else rtail s i (rcase b.toNat) := by simp only [runeM, hb]
              rw [hr] at this h3
              split at this
              · simp only [] at this; omega
              · rename_i hge
                rw [if_neg hge] at h3
                unfold rtail at h3
                split at h3
                · simp at h3
                · rename_i hx
                  have : (rcase b.toNat).1 = 0 ∨ 2 ≤ (rcase b.toNat).1 := by
                    unfold rcase; repeat' split
                    all_goals simp
                  unfold rfin at h3
                  split at h3
                  · simp at h3
                  · split at h3
                    · simp at h3
                    · simp only [] at h3; omega
            simp only []
            rw [if_neg hne2, List.drop_drop]
            exact ih _ (by omega) s (i + (runeM s i).2.toNat) f rfl (by omega) (by omega)
        · rw [if_neg hlt, List.drop_eq_nil_of_le (by omega)]; rfl
  exact (key _ s 0 (s.length + 1) rfl (by omega) (by omega)).symm
end Go.Proofs.YtgoepemmcibdaaaDoor
