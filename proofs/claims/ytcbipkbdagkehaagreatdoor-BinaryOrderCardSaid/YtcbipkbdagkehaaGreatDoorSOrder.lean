import Derived.Test.YtcbipkbdagkehaaGreatDoorSShown14
import Derived.Test.YtcbipkbdagkehaaGreatDoorK2
namespace Go.Proofs.YtcbipkbdagkehaaGreatDoor
open Sy Go
set_option maxRecDepth 100000
set_option maxHeartbeats 4000000
set_option linter.unusedSimpArgs false
set_option linter.unusedVariables false
variable {G : Glob}
theorem says_lt (c : Int) : saysT [60] c = decide (c < 0) := by simp [saysT]
theorem says_eq (c : Int) : saysT [61, 61] c = decide (c = 0) := by simp [saysT]
theorem says_gt (c : Int) : saysT [62] c = decide (0 < c) := by simp [saysT]
theorem says_ne (c : Int) : saysT [33, 61] c = !decide (c = 0) := by simp [saysT]
theorem says_le (c : Int) : saysT [60, 61] c = decide (c ≤ 0) := by
 simp only [saysT]
 rcases Int.lt_trichotomy c 0 with h | h | h
 ·simp [h, show c ≤ 0 by omega]
 ·simp [h]
 ·simp [show ¬ c ≤ 0 by omega, show ¬ c = 0 by omega, show ¬ c < 0 by omega]
theorem says_ge (c : Int) : saysT [62, 61] c = decide (0 ≤ c) := by
 simp only [saysT]
 rcases Int.lt_trichotomy c 0 with h | h | h
 ·simp [show ¬ 0 ≤ c by omega, show ¬ c = 0 by omega, show ¬ 0 < c by omega]
 ·simp [h]
 ·simp [h, show 0 ≤ c by omega]
theorem BinaryOrder_ev (l m : List Item) (hl : ∀ x ∈ l, x.keys.length ≤ 140737488351232) (hm : ∀ x ∈ m, x.keys.length ≤ 140737488351232) : AFn Tryz.prog G 9 [.sl 6 (l.map Item.enc), .sl 6 (m.map Item.enc)] (.bool true) := by
 refine AFn.introU tok Tryz.func9 (by kernel_rfl) rfl rfl ?_
 simp only [Tryz.f9, enumA, List.map_cons, List.map_nil]
 have hsh := shown14_ev (G := G)
 have hbl := Built_ev (G := G) l hl
 have hbm := Built_ev (G := G) m hm
 have ml := built_may l
 have mm := built_may m
 generalize builtM l = a at *
 generalize builtM m = b at *
 have i1 := isCmp_ev (G := G) [60] a b (by unfold isCmp; decide) ml mm
 have i2 := isCmp_ev (G := G) [61, 61] a b (by unfold isCmp; decide) ml mm
 have i3 := isCmp_ev (G := G) [62] a b (by unfold isCmp; decide) ml mm
 have i4 := isCmp_ev (G := G) [33, 61] a b (by unfold isCmp; decide) ml mm
 have i5 := isCmp_ev (G := G) [60, 61] a b (by unfold isCmp; decide) ml mm
 have i6 := isCmp_ev (G := G) [62, 61] a b (by unfold isCmp; decide) ml mm
 have i7 := isCmp_ev (G := G) [62] b a (by unfold isCmp; decide) mm ml
 have i8 := isCmp_ev (G := G) [61, 61] b a (by unfold isCmp; decide) mm ml
 have han := cmpT_ord.anti b a mm ml
 rw [han] at i7 i8
 rw [says_lt] at i1
 rw [says_eq] at i2 i8
 rw [says_gt] at i3 i7
 rw [says_ne] at i4
 rw [says_le] at i5
 rw [says_ge] at i6
 generalize cmpT a b = c at *
 have e7 : decide (0 < -c) = decide (c < 0) := by rw [decide_eq_decide]; omega
 have e8 : decide (-c = 0) = decide (c = 0) := by rw [decide_eq_decide]; omega
 have e5 : decide (c ≤ 0) = !decide (0 < c) := by by_cases h : 0 < c <;> simp [h] <;> omega
 have e6 : decide (0 ≤ c) = !decide (c < 0) := by by_cases h : c < 0 <;> simp [h] <;> omega
 rw [e7] at i7
 rw [e8] at i8
 rw [e5] at i5
 rw [e6] at i6
 have hone : (decide (c < 0) && !decide (c = 0) && !decide (0 < c)) = true ∨ (decide (c = 0) && !decide (c < 0) && !decide (0 < c)) = true ∨ (decide (0 < c) && !decide (c < 0) && !decide (c = 0)) = true := by
  rcases Int.lt_trichotomy c 0 with h | h | h
  ·refine .inl ?_; simp [h]; omega
  ·refine .inr (.inl ?_); simp [h]
  ·refine .inr (.inr ?_); simp [h]; omega
 generalize decide (c < 0) = x at *
 generalize decide (c = 0) = y at *
 generalize decide (0 < c) = z at *
 simp only [Val.enc_def] at hbl hbm i1 i2 i3 i4 i5 i6 i7 i8
 refine rgn [] [[0, 1]] ?_
 refine op1 tok ?_
 refine runEnd ?_
 refine rgn [.nilp, .bool true] [[], [0, 1, 5]] ?_
 iterate 2 refine op1 tok ?_ (hv := by first | with_reducible exact True.intro | (exact hsh; done) | omega | simp | (simp; omega) | (simp +contextual; omega))
 refine runEnd ?_
 refine rgn [.nilp, a.enc] [[], [], [], [1, 5, 6]] ?_
 iterate 4 refine op1 tok ?_ (hv := by first | with_reducible exact True.intro | (exact hbl; done) | omega | simp | (simp; omega) | (simp +contextual; omega))
 refine runEnd ?_
 refine rgn [.nilp, b.enc] [[], [], [], [5, 6, 7]] ?_
 iterate 4 refine op1 tok ?_ (hv := by first | with_reducible exact True.intro | (exact hbm; done) | omega | simp | (simp; omega) | (simp +contextual; omega))
 refine runEnd ?_
 refine rgn [.nilp, .bool x] [[], [], [], [5, 6, 7, 8]] ?_
 iterate 4 refine op1 tok ?_ (hv := by first | with_reducible exact True.intro | (exact i1; done) | omega | simp | (simp; omega) | (simp +contextual; omega))
 refine runEnd ?_
 refine rgn [.nilp, .bool y] [[], [], [], [5, 6, 7, 8, 9]] ?_
 iterate 4 refine op1 tok ?_ (hv := by first | with_reducible exact True.intro | (exact i2; done) | omega | simp | (simp; omega) | (simp +contextual; omega))
 refine runEnd ?_
 refine rgn [.nilp, .bool z] [[], [], [], [5, 6, 7, 8, 9, 10]] ?_
 iterate 4 refine op1 tok ?_ (hv := by first | with_reducible exact True.intro | (exact i3; done) | omega | simp | (simp; omega) | (simp +contextual; omega))
 refine runEnd ?_
 refine rgn [] [[], [], [], [], [5, 6, 7, 8, 9, 10, 30], [], [], [], [5, 6, 7, 8, 9, 10, 34], [], [], [], [], [], [5, 6, 7, 8, 9, 10, 35, 40], [], [], [], [5, 6, 7, 8, 9, 10, 35, 44], [], [], [], [5, 6, 7, 8, 9, 10, 46, 48], [], [], [], [5, 6, 7, 8, 9, 10, 46, 52], [], [], [], [5, 6, 7, 8, 9, 10, 56], [5, 6, 7, 8, 9, 10, 11]] ?_
 iterate 32 first | refine op1 tok ?_ (hv := by first | with_reducible exact True.intro | ((intros; grind); done) | omega | simp | (simp; omega) | (simp +contextual; omega)) | refine op2 tok ?_ (hv := by first | with_reducible exact True.intro | ((intros; grind); done) | omega | simp | (simp; omega) | (simp +contextual; omega))
 refine runEnd ?_
 refine rgn [.nilp, .bool (!y), .nilp, .bool (!z), .nilp, .bool (!x), .nilp, .bool x, .nilp, .bool y] [[], [], [], [6, 7, 8, 9, 10, 60], [], [], [], [], [], [6, 7, 8, 9, 10, 61, 64, 66], [], [6, 7, 8, 9, 10, 68], [], [], [], [], [6, 7, 8, 9, 69, 72, 73], [], [], [6, 7, 8, 9, 76], [], [], [], [], [], [6, 7, 8, 9, 77, 80, 82], [], [6, 7, 8, 9, 84], [], [], [], [], [6, 7, 9, 85, 88, 89], [], [6, 7, 9, 91], [], [], [], [9, 92, 95], [], [], [98], [4]] ?_
 iterate 43 first | refine op1 tok ?_ (hv := by first | with_reducible exact True.intro | (first | (intros; first | exact ⟨by grind, i4⟩ | exact ⟨by grind, i5⟩ | exact ⟨by grind, i6⟩ | exact ⟨by grind, i7⟩ | exact ⟨by grind, i8⟩ | exact i4 | exact i5 | exact i6 | exact i7 | exact i8) | (intros; grind); done) | omega | simp | (simp; omega) | (simp +contextual; omega)) | refine op2 tok ?_ (hv := by first | with_reducible exact True.intro | (first | (intros; first | exact ⟨by grind, i4⟩ | exact ⟨by grind, i5⟩ | exact ⟨by grind, i6⟩ | exact ⟨by grind, i7⟩ | exact ⟨by grind, i8⟩ | exact i4 | exact i5 | exact i6 | exact i7 | exact i8) | (intros; grind); done) | omega | simp | (simp; omega) | (simp +contextual; omega))
 refine runEnd ?_
 exact AW.ret ⟨.inr rfl, _, _, by (conv => lhs; simp), trivial, by (simp; revert hone; cases x <;> cases y <;> cases z <;> simp)⟩
end Go.Proofs.YtcbipkbdagkehaaGreatDoor
