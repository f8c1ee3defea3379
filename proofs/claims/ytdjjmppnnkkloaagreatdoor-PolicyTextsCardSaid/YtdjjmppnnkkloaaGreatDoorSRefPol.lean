import Derived.Test.YtdjjmppnnkkloaaGreatDoorK2
import Derived.Test.YtdjjmppnnkkloaaGreatDoorSPath10
import Derived.Test.YtdjjmppnnkkloaaGreatDoorSUtf
import Derived.Test.YtdjjmppnnkkloaaGreatDoorSPol
namespace Go.Proofs.YtdjjmppnnkkloaaGreatDoor
open Sy Go
set_option maxRecDepth 100000
set_option maxHeartbeats 4000000
set_option linter.unusedSimpArgs false
set_option linter.unusedVariables false
variable {G : Glob}
def ltB (c : UInt8) : Bool := decide (97 ≤ (c.toNat : Int)) && decide ((c.toNat : Int) ≤ 122)
def otB (c : UInt8) : Bool := (decide (48 ≤ (c.toNat : Int)) && decide ((c.toNat : Int) ≤ 57)) || decide ((c.toNat : Int) = 95)
theorem nm_all : ∀ k : Fin 256, asF nameSet k.val = (ltB (UInt8.ofNat k.val) || otB (UInt8.ofNat k.val)) ∧ (decide (UInt8.ofNat k.val ∈ letters) = ltB (UInt8.ofNat k.val)) := by decide +kernel
theorem nm_at (c : UInt8) : asF nameSet c.toNat = (ltB c || otB c) ∧ (decide (c ∈ letters) = ltB c) := by
  have := nm_all ⟨c.toNat, c.toNat_lt⟩
  simpa using this
def nmB (c : UInt8) : Bool := ltB c || otB c
def hdB : List UInt8 → Bool
  | b :: _ => ltB b
  | [] => false
theorem name_spec (s : List UInt8) : mayNameM s = (s.all nmB && decide (s.length ≤ 24) && hdB s) := by
  unfold mayNameM
  have h : (s.all fun b => asF nameSet b.toNat) = s.all nmB := by congr 1; funext c; exact (nm_at c).1
  rw [h]
  cases s with
  | nil => simp [hdB]
  | cons b r => simp only [(nm_at b).2, Bool.and_assoc, hdB]
theorem refMayName_ev (s : List UInt8) (hs : s.length ≤ 1000000000) : AFn Tryz.prog G 75 [.str s] (.bool (mayNameM s)) := by
  refine AFn.introU tok Tryz.func75 (by kernel_rfl) rfl rfl ?_
  simp only [Tryz.f75, enumA, List.map_cons, List.map_nil]
  rw [name_spec]
  refine rgn [] [[0]] ?_
  refine op1 tok ?_
  refine runEnd ?_
  refine AW.seq ?_
  refine rgn [] [[]] ?_
  refine op1 tok ?_
  refine runEnd ?_
  refine AW.block ?_
  refine AW.loop (α := Nat) (fun k => k ≤ s.length ∧ (s.take k).all nmB = true ∧ (0 < k → hdB s = true)) (fun k => ⟨upds 50 [(0, .p (.str s)), (3, .p (.int .i64 k))], [], [], 0⟩) (fun k => s.length - k) (0) ⟨by omega, by simp, by omega⟩ ⟨upds_le (by simp), rfl, by simp, by simp⟩ ?_
  rintro k ⟨hk, hall, hhd⟩
  refine AW.seq ?_
  refine rgn [] [[], [], [], [0, 3, 10]] ?_
  iterate 4 refine op1 tok ?_
  refine runEnd ?_
  refine cnd ?_ ?_
  · intro h10
    try simp at h10
    obtain ⟨c, hc⟩ : ∃ c, s[k]? = some c := ⟨s[k], by simp [h10]⟩
    have hcm := List.mem_of_getElem? hc
    have hh0 : k = 0 → hdB s = ltB c := by
      rintro rfl
      cases s with
      | nil => simp at hc
      | cons b r => simp at hc; subst hc; rfl
    have hnb : nmB c = (ltB c).or (otB c) := rfl
    have hlt : ltB c = true ↔ (97 ≤ (c.toNat : Int) ∧ (c.toNat : Int) ≤ 122) := by simp [ltB]
    have hot : otB c = true ↔ ((48 ≤ (c.toNat : Int) ∧ (c.toNat : Int) ≤ 57) ∨ (c.toNat : Int) = 95) := by simp [otB]
    generalize ltB c = L at *
    generalize otB c = O at *
    refine AW.skip ?_
    refine AW.seq ?_
    refine AW.block ?_
    refine rgn [.int .u8 c.toNat] [[], [], [], [0, 3, 4]] ?_
    iterate 4 refine op1 tok ?_ (hv := by first | with_reducible exact True.intro | (first | exact ⟨_, hc, rfl⟩ | simp; done) | omega | simp | (simp; omega) | (simp +contextual; omega))
    refine runEnd ?_
    refine rgn [] [[], [], [], [], [], [0, 3, 4, 21], [0, 3, 4, 5]] ?_
    iterate 3 refine op1 tok ?_
    iterate 2 refine op2 tok ?_
    iterate 2 refine op1 tok ?_
    refine runEnd ?_
    refine rgn [] [[], [], [], [], [], [0, 3, 4, 5, 27], [], [], [], [0, 3, 5, 31], [0, 3, 5, 6]] ?_
    iterate 11 first | refine op1 tok ?_ | refine op2 tok ?_
    refine runEnd ?_
    refine rgn [] [[], [], [], [0, 3, 34, 35], [], [], [], [], [0, 3, 34, 40], [0, 3, 41]] ?_
    iterate 3 refine op1 tok ?_
    iterate 6 refine op2 tok ?_
    refine op1 tok ?_
    refine runEnd ?_
    refine cnd ?_ ?_
    · intro h41
      try simp at h41
      have hL : L = false := by cases L with
        | false => rfl
        | true => have := hlt.1 rfl; omega
      have hf : (s.all nmB && decide (s.length ≤ 24) && hdB s) = false := by
        rcases h41.2 with h | h
        · have hO : O = false := by cases O with
            | false => rfl
            | true => have := hot.1 rfl; omega
          have : s.all nmB = false := List.all_eq_false.2 ⟨c, hcm, by rw [hnb, hL, hO]; simp⟩
          rw [this]; rfl
        · rw [hh0 h, hL]; simp
      rw [hf]
      refine rgn [] [[]] ?_
      refine op1 tok ?_
      refine runEnd ?_
      exact AW.ret ⟨.inr rfl, _, _, by (conv => lhs; simp), trivial, by simp⟩
    · intro h41
      try simp at h41
      have hlo : L = true ∨ (O = true ∧ k ≠ 0) := by
        by_cases hl : 97 ≤ (c.toNat : Int) ∧ (c.toNat : Int) ≤ 122
        · exact .inl (hlt.2 hl)
        · have := h41 (by omega)
          exact .inr ⟨hot.2 (by omega), this.2⟩
      have hnbt : nmB c = true := by rw [hnb]; rcases hlo with h | ⟨h, _⟩ <;> simp [h]
      have hall2 : (s.take (k + 1)).all nmB = true := by rw [List.take_add_one, hc, List.all_append, hall]; simp [hnbt]
      have hhd2 : 0 < k + 1 → hdB s = true := fun _ => by
        by_cases h0 : k = 0
        · rw [hh0 h0]; rcases hlo with h | ⟨_, h⟩
          · exact h
          · exact absurd h0 h
        · exact hhd (by omega)
      refine AW.skip ?_
      refine rgz [] [[], [], [0, 3]] ?_
      iterate 3 refine op1 tok ?_
      refine runEnd ?_
      exact ⟨k + 1, ⟨by omega, hall2, hhd2⟩, by omega, upds_le (by simp), rfl, by simp, by simp⟩
  · intro h10
    try simp at h10
    rw [List.take_of_length_le h10] at hall
    have hfin : (decide (1 ≤ (s.length : Int)) && decide ((s.length : Int) ≤ 24)) = (s.all nmB && decide (s.length ≤ 24) && hdB s) := by
      rw [hall]
      cases s with
      | nil => simp [hdB]
      | cons b r =>
        have h1 : (1 : Int) ≤ ((b :: r).length : Int) := by simp only [List.length_cons]; omega
        have h2 : 0 < k := by simp only [List.length_cons] at h10; omega
        rw [hhd h2, decide_eq_true h1]
        simp only [Bool.true_and, Bool.and_true]
        rw [Bool.eq_iff_iff, decide_eq_true_eq, decide_eq_true_eq]; omega
    refine AW.exit ?_
    simp
    refine rgn [] [[], [], [], [], [45, 46], [], [], [49], [2]] ?_
    iterate 4 refine op1 tok ?_
    iterate 3 refine op2 tok ?_
    iterate 2 refine op1 tok ?_
    refine runEnd ?_
    exact AW.ret ⟨.inr rfl, _, _, by (conv => lhs; simp), trivial, by simpa using hfin⟩
theorem idx_at {c : List UInt8} : ∀ {l : List (List UInt8)} {k : Nat}, l[k]? = some c → (l.idxOf c = k ↔ c ∉ l.take k)
  | [], k, h => by simp at h
  | a :: l, 0, h => by simp at h; subst h; simp
  | a :: l, k + 1, h => by
    simp only [List.getElem?_cons_succ] at h
    have ih := idx_at h
    rw [List.take_succ_cons, List.mem_cons, not_or, ← ih, List.idxOf_cons]
    by_cases e : a = c
    · subst e; simp
    · have : (a == c) = false := by simpa using e
      rw [this]; simp only [cond_false, Nat.add_right_cancel_iff]
      exact ⟨fun h => ⟨fun h2 => e h2.symm, h⟩, fun h => h.2⟩
theorem refPlace_ev (cats : List (List UInt8)) (s : List UInt8) (hl : cats.length ≤ 1000000) : AFn Tryz.prog G 76 [.sl 1 (cats.map PD.str), .str s] (.int .i64 (if s ∈ cats then (cats.idxOf s : Int) else -1)) := by
  refine AFn.introU tok Tryz.func76 (by kernel_rfl) rfl rfl ?_
  simp only [Tryz.f76, enumA, List.map_cons, List.map_nil]
  refine rgn [] [[0, 1]] ?_
  refine op1 tok ?_
  refine runEnd ?_
  refine AW.seq ?_
  refine rgn [] [[]] ?_
  refine op1 tok ?_
  refine runEnd ?_
  refine AW.block ?_
  refine AW.loop (α := Nat) (fun k => k ≤ cats.length ∧ s ∉ cats.take k) (fun k => ⟨upds 19 [(0, .p (.sl 1 (cats.map PD.str))), (1, .p (.str s)), (5, .p (.int .i64 k))], [], [], 0⟩) (fun k => cats.length - k) (0) ⟨by omega, by simp⟩ ⟨upds_le (by simp), rfl, by simp, by simp⟩ ?_
  rintro k ⟨hk, hno⟩
  refine AW.seq ?_
  refine rgn [] [[], [], [], [0, 1, 5, 9]] ?_
  iterate 4 refine op1 tok ?_
  refine runEnd ?_
  refine cnd ?_ ?_
  · intro h9
    try simp at h9
    obtain ⟨c, hc⟩ : ∃ c, cats[k]? = some c := ⟨cats[k], by simp [h9]⟩
    refine AW.skip ?_
    refine AW.seq ?_
    refine AW.block ?_
    refine rgn [.str c] [[], [], [], [], [], [0, 1, 5, 17]] ?_
    iterate 6 refine op1 tok ?_ (hv := by first | with_reducible exact True.intro | (first | (simp [hc]; done) | simp; done) | omega | simp | (simp; omega) | (simp +contextual; omega))
    refine runEnd ?_
    refine cnd ?_ ?_
    · intro h17
      try simp at h17
      subst h17
      have hi : cats.idxOf c = k := (idx_at hc).2 hno
      rw [if_pos (List.mem_of_getElem? hc), hi]
      refine rgn [] [[], [4]] ?_
      iterate 2 refine op1 tok ?_
      refine runEnd ?_
      exact AW.ret ⟨.inr rfl, _, _, by (conv => lhs; simp), trivial, by simp⟩
    · intro h17
      try simp at h17
      have hno2 : s ∉ cats.take (k + 1) := by
        rw [List.take_add_one, hc]
        simp only [Option.toList_some, List.mem_append, List.mem_singleton, not_or]
        exact ⟨hno, fun e => h17 e.symm⟩
      refine AW.skip ?_
      refine rgz [] [[], [], [0, 1, 5]] ?_
      iterate 3 refine op1 tok ?_
      refine runEnd ?_
      exact ⟨k + 1, ⟨by omega, hno2⟩, by omega, upds_le (by simp), rfl, by simp, by simp⟩
  · intro h9
    try simp at h9
    rw [List.take_of_length_le h9] at hno
    rw [if_neg hno]
    refine AW.exit ?_
    simp
    refine rgn [] [[]] ?_
    refine op1 tok ?_
    refine runEnd ?_
    exact AW.ret ⟨.inr rfl, _, _, by (conv => lhs; simp), trivial, by simp⟩
theorem refCatsMay_ev (cats : List (List UInt8)) (hc : ∀ c ∈ cats, c.length ≤ 1000000000) : AFn Tryz.prog G 34 [.sl 1 (cats.map PD.str)] (.int .i64 (catsMayM cats)) := by
  refine AFn.introU tok Tryz.func34 (by kernel_rfl) rfl rfl ?_
  simp only [Tryz.f34, enumA, List.map_cons, List.map_nil]
  unfold catsMayM
  refine rgn [] [[0]] ?_
  refine op1 tok ?_
  refine runEnd ?_
  refine AW.seq ?_
  refine rgn [] [[], [], [0, 6]] ?_
  iterate 3 refine op1 tok ?_
  refine runEnd ?_
  refine cnd ?_ ?_
  · intro h6
    try simp at h6
    rw [if_pos (show 64 < cats.length by omega)]
    refine rgn [] [[]] ?_
    refine op1 tok ?_
    refine runEnd ?_
    exact AW.ret ⟨.inr rfl, _, _, by (conv => lhs; simp), trivial, by simp⟩
  · intro h6
    try simp at h6
    rw [if_neg (show ¬ 64 < cats.length by omega)]
    refine AW.skip ?_
    refine AW.seq ?_
    refine rgn [] [[]] ?_
    refine op1 tok ?_
    refine runEnd ?_
    refine AW.block ?_
    refine AW.loop (α := Nat) (fun k => k ≤ cats.length ∧ (cats.take k).Nodup ∧ (cats.take k).all mayNameM = true) (fun k => ⟨upds 29 [(0, .p (.sl 1 (cats.map PD.str))), (3, .p (.int .i64 k))], [], [], 0⟩) (fun k => cats.length - k) (0) ⟨by omega, by simp, by simp⟩ ⟨upds_le (by simp), rfl, by simp, by simp⟩ ?_
    rintro k ⟨hk, hnd, hall⟩
    refine AW.seq ?_
    refine rgn [] [[], [], [], [0, 3, 10]] ?_
    iterate 4 refine op1 tok ?_
    refine runEnd ?_
    refine cnd ?_ ?_
    · intro h10
      try simp at h10
      obtain ⟨c, hcs⟩ : ∃ c, cats[k]? = some c := ⟨cats[k], by simp [h10]⟩
      have hcm := List.mem_of_getElem? hcs
      have hM := refMayName_ev (G := G) c (hc c hcm)
      have hP := refPlace_ev (G := G) cats c (by omega)
      rw [if_pos hcm] at hP
      have hik : (cats.idxOf c : Int) = k ↔ c ∉ cats.take k := by
        rw [← idx_at hcs]; omega
      generalize cats.idxOf c = e at *
      refine AW.skip ?_
      refine AW.seq ?_
      refine AW.block ?_
      refine rgn [.str c, .nilp, .bool (mayNameM c), .str c, .nilp, .int .i64 e] [[], [], [], [], [0, 3, 17], [], [], [], [], [], [0, 3, 19, 20, 23], [], [], [], [0, 3, 19, 27], [0, 3, 28]] ?_
      iterate 7 refine op1 tok ?_ (hv := by first | with_reducible exact True.intro | (first | exact hM | exact hP | (simp [hcs]; done) | (simp [hcs, hM, hP]; done) | simp; done) | omega | simp | (simp; omega) | (simp +contextual; omega))
      iterate 8 refine op2 tok ?_ (hv := by first | with_reducible exact True.intro | (first | exact hM | exact hP | (simp [hcs]; done) | (simp [hcs, hM, hP]; done) | simp; done) | omega | simp | (simp; omega) | (simp +contextual; omega))
      refine op1 tok ?_ (hv := by first | with_reducible exact True.intro | (first | exact hM | exact hP | (simp [hcs]; done) | (simp [hcs, hM, hP]; done) | simp; done) | omega | simp | (simp; omega) | (simp +contextual; omega))
      refine runEnd ?_
      refine cnd ?_ ?_
      · intro h28
        try simp at h28
        have hbad : (decide cats.Nodup && cats.all mayNameM) = false := by
          by_cases hm : mayNameM c = true
          · have hne : ¬ (e : Int) = k := by
              rcases h28 with h | h
              · rw [hm] at h; cases h
              · exact h
            have hin : c ∈ cats.take k := by
              apply Classical.byContradiction; intro h; exact hne (hik.2 h)
            have : ¬ cats.Nodup := fun hn => by
              have h2 := List.Nodup.sublist (List.take_sublist (k + 1) cats) hn
              rw [List.take_add_one, hcs] at h2
              simp only [Option.toList_some, List.nodup_append] at h2
              exact h2.2.2 c hin c (by simp) rfl
            simp [this]
          · have : cats.all mayNameM = false := List.all_eq_false.2 ⟨c, hcm, hm⟩
            rw [this]; simp
        rw [hbad]
        refine rgn [] [[]] ?_
        refine op1 tok ?_
        refine runEnd ?_
        exact AW.ret ⟨.inr rfl, _, _, by (conv => lhs; simp), trivial, by simp⟩
      · intro h28
        try simp at h28
        have hgood : c ∉ cats.take k ∧ mayNameM c = true := ⟨hik.1 h28.2, h28.1⟩
        have hnd2 : (cats.take (k + 1)).Nodup := by
          rw [List.take_add_one, hcs]
          simp only [Option.toList_some, List.nodup_append]
          exact ⟨hnd, by simp, fun a ha b hb => by rw [List.mem_singleton] at hb; subst hb; rintro rfl; exact hgood.1 ha⟩
        have hall2 : (cats.take (k + 1)).all mayNameM = true := by
          rw [List.take_add_one, hcs, List.all_append, hall]; simp [hgood.2]
        refine AW.skip ?_
        refine rgz [] [[], [], [0, 3]] ?_
        iterate 3 refine op1 tok ?_
        refine runEnd ?_
        exact ⟨k + 1, ⟨by omega, hnd2, hall2⟩, by omega, upds_le (by simp), rfl, by simp, by simp⟩
    · intro h10
      try simp at h10
      rw [List.take_of_length_le h10] at hnd hall
      refine AW.exit ?_
      simp
      refine rgn [] [[]] ?_
      refine op1 tok ?_
      refine runEnd ?_
      exact AW.ret ⟨.inr rfl, _, _, by (conv => lhs; simp), trivial, by simp [hnd]; exact List.all_eq_true.1 hall⟩
theorem refMayM_eq (t : Step) : refMayM t = mayM t := by
  unfold refMayM mayM stepM rmKey rmN
  rw [← valid_eq]
  rw [Bool.eq_iff_iff]
  by_cases h1 : t.kind = 1
  · simp [h1, Bool.and_assoc]
  · by_cases h2 : t.kind = 2
    · simp [h2]; constructor
      · rintro ⟨a, b, c⟩; exact ⟨⟨b, c⟩, a⟩
      · rintro ⟨⟨b, c⟩, a⟩; exact ⟨a, b, c⟩
    · simp only [if_neg h1, if_neg h2]
      by_cases h3 : 3 ≤ t.kind ∧ t.kind ≤ 5
      · rw [if_pos h3]
        simp only [Bool.and_eq_true, decide_eq_true_eq]
        exact ⟨fun h => ⟨h.1.2, h.2⟩, fun h => ⟨⟨⟨by omega, by omega⟩, h.1⟩, h.2⟩⟩
      · rw [if_neg h3]
        simp only [Bool.and_eq_true, decide_eq_true_eq, Bool.false_eq_true, iff_false]
        rintro ⟨⟨⟨a, b⟩, _⟩, _⟩
        omega
theorem refMayL_eq (l : List Step) : refMayL l = mayL l := by
  unfold refMayL mayL
  have : l.all refMayM = l.all mayM := by congr 1; funext t; exact refMayM_eq t
  rw [this]
theorem refWithin_ev (a b : Int) : AFn Tryz.prog G 41 [.int .u64 a, .int .u64 b] (.bool (decide (subM a b = 0))) := by
  refine AFn.introU tok Tryz.func41 (by kernel_rfl) rfl rfl ?_
  simp only [Tryz.f41, enumA, List.map_cons, List.map_nil]
  refine rgn [] [[0, 1]] ?_
  refine op1 tok ?_
  refine runEnd ?_
  refine rgn [] [[], [], [7], [], [4]] ?_
  iterate 5 refine op1 tok ?_ (h := by intro C; conv => lhs; simp [sub_wrap])
  refine runEnd ?_
  exact AW.ret ⟨.inr rfl, _, _, by (conv => lhs; simp), trivial, by simp⟩
theorem refFuel_ev (n : Int) : AFn Tryz.prog G 43 [.int .i64 n] (.bool (fuelM n)) := by
  refine AFn.introU tok Tryz.func43 (by kernel_rfl) rfl rfl ?_
  simp only [Tryz.f43, enumA, List.map_cons, List.map_nil]
  refine rgn [] [[0]] ?_
  refine op1 tok ?_
  refine runEnd ?_
  refine rgn [] [[], [], [], [], [5, 7], [], [2]] ?_
  iterate 3 refine op1 tok ?_
  iterate 2 refine op2 tok ?_
  iterate 2 refine op1 tok ?_
  refine runEnd ?_
  exact AW.ret ⟨.inr rfl, _, _, by (conv => lhs; simp), trivial, by simp [fuelM]⟩
/-- The masks of the first 'k' categories. -/
def allC : Nat → Int
  | 0 => 0
  | k + 1 => orM (allC k) (bitM k)
theorem allC_nat : ∀ k, k ≤ 64 → natM (allC k) = 2 ^ k - 1
  | 0, _ => rfl
  | k + 1, h => by
    have ih := allC_nat k (by omega)
    have hb : natM (bitM k) = 2 ^ k := by
      unfold bitM
      rw [Nat.mod_eq_of_lt (Nat.pow_lt_pow_right (by decide) (by omega)), natM_cast (Nat.pow_lt_pow_right (by decide) (by omega))]
    simp only [allC]
    rw [natM_or, ih, hb]
    apply Nat.eq_of_testBit_eq
    intro i
    rw [Nat.testBit_or, Nat.testBit_two_pow_sub_one, Nat.testBit_two_pow, Nat.testBit_two_pow_sub_one]
    by_cases h1 : i < k
    · simp [h1, show i < k + 1 by omega]
    · by_cases h2 : k = i
      · simp [h2]
      · simp [h1, h2, show ¬ i < k + 1 by omega]
theorem within_all {m : Int} (hm : InM m) {n : Nat} (hn : n ≤ 64) : subM m (allC n) = 0 ↔ m / 2 ^ n = 0 := by
  have hnm := natM_of hm
  have hl := natM_lt m
  have key : natM m &&& (18446744073709551615 - (2 ^ n - 1)) = 0 ↔ natM m < 2 ^ n := by
    have hp : 2 ^ n ≤ 2 ^ 64 := Nat.pow_le_pow_right (by decide) hn
    have hp1 : 1 ≤ 2 ^ n := Nat.pos_of_ne_zero (by simp)
    have he : 18446744073709551615 - (2 ^ n - 1) = 2 ^ 64 - ((2 ^ n - 1) + 1) := by omega
    have hlt : 2 ^ n - 1 < 2 ^ 64 := by omega
    constructor
    · intro h
      apply Nat.lt_pow_two_of_testBit
      intro i hi
      by_cases h64 : i < 64
      · have h2 : (natM m &&& (18446744073709551615 - (2 ^ n - 1))).testBit i = false := by rw [h]; simp
        rw [he, Nat.testBit_and, Nat.testBit_two_pow_sub_succ hlt, Nat.testBit_two_pow_sub_one] at h2
        simpa [h64, show ¬ i < n by omega] using h2
      · exact Nat.testBit_lt_two_pow (Nat.lt_of_lt_of_le hl (Nat.pow_le_pow_right (by decide) (by omega)))
    · intro h
      apply Nat.eq_of_testBit_eq
      intro i
      rw [he, Nat.testBit_and, Nat.testBit_two_pow_sub_succ hlt, Nat.testBit_two_pow_sub_one, Nat.zero_testBit]
      by_cases hi : i < n
      · simp [hi]
      · rw [Nat.testBit_lt_two_pow (Nat.lt_of_lt_of_le h (Nat.pow_le_pow_right (by decide) (by omega)))]; rfl
  unfold subM
  rw [allC_nat n hn]
  have hdiv : m / 2 ^ n = ((natM m / 2 ^ n : Nat) : Int) := by
    rw [Int.natCast_ediv, hnm]; simp
  rw [hdiv]
  constructor
  · intro h
    have h1 := key.1 (by omega)
    rw [Nat.div_eq_of_lt h1]; rfl
  · intro h
    have h1 : natM m / 2 ^ n = 0 := by omega
    have h2 : natM m < 2 ^ n := by
      rcases Nat.div_eq_zero_iff.1 h1 with h | h
      · exact absurd h (by simp)
      · exact h
    have := key.2 h2
    omega
theorem bad_ref {m : Int} (hm : InM m) {n : Nat} (hn : n ≤ 64) : badM n m = true ↔ (m = 0 ∨ ¬ subM m (allC n) = 0) := by
  rw [within_all hm hn]
  unfold badM
  simp only [Bool.or_eq_true, Bool.and_eq_true, decide_eq_true_eq]
  constructor
  · rintro (h | ⟨_, h⟩)
    · exact .inl h
    · exact .inr h
  · rintro (h | h)
    · exact .inl h
    · refine .inr ⟨?_, h⟩
      apply Classical.byContradiction
      intro h64
      obtain rfl : n = 64 := by omega
      exact h (Int.ediv_eq_zero_of_lt hm.1 hm.2)
theorem refPolMay_ev (p : Pol) (hi : ∀ m ∈ p.marks, InM m.mask) (hk : ∀ m ∈ p.marks, ∀ t ∈ m.path, t.key.length ≤ 1000) (hc : ∀ c ∈ p.cats, c.length ≤ 1000000000) (ht : p.token.length ≤ 1000000000) : AFn Tryz.prog G 14 [p.enc] (.int .i64 (polMay p)) := by
  refine AFn.introU tok Tryz.func14 (by kernel_rfl) rfl rfl ?_
  simp only [Tryz.f14, enumA, List.map_cons, List.map_nil]
  have h1 := refCatsMay_ev (G := G) p.cats hc
  have h3 := refValid_ev (G := G) p.token ht
  have h4 := refFuel_ev (G := G) p.fuel
  have h5 := refFuel_ev (G := G) p.quota
  rw [← valid_eq] at h3
  unfold polMay
  have hc64 : catsMayM p.cats = 0 → p.cats.length ≤ 64 := fun h => (may_cats h).1
  generalize catsMayM p.cats = c at *
  refine rgn [] [[], [1]] ?_
  iterate 2 refine op1 tok ?_
  refine runEnd ?_
  refine rgn [.nilp, .int .i64 c] [[], [], [], [1, 3]] ?_
  iterate 4 refine op1 tok ?_ (hv := by first | with_reducible exact True.intro | (exact h1; done) | omega | simp | (simp; omega) | (simp +contextual; omega))
  refine runEnd ?_
  refine AW.seq ?_
  refine rgn [] [[], [1, 3, 13]] ?_
  iterate 2 refine op1 tok ?_
  refine runEnd ?_
  refine cnd ?_ ?_
  · intro h13
    try simp at h13
    rw [if_pos h13]
    refine rgn [] [[], [2]] ?_
    iterate 2 refine op1 tok ?_
    refine runEnd ?_
    exact AW.ret ⟨.inr rfl, _, _, by (conv => lhs; simp), trivial, by simp⟩
  · intro h13
    try simp at h13
    rw [if_neg (by simp [h13])]
    have hc64' := hc64 h13
    refine AW.skip ?_
    refine AW.seq ?_
    refine rgn [] [[], [], [], [1, 18]] ?_
    iterate 4 refine op1 tok ?_
    refine runEnd ?_
    refine cnd ?_ ?_
    · intro h18
      try simp at h18
      rw [if_pos (by omega)]
      refine rgn [] [[]] ?_
      refine op1 tok ?_
      refine runEnd ?_
      exact AW.ret ⟨.inr rfl, _, _, by (conv => lhs; simp), trivial, by simp⟩
    · intro h18
      try simp at h18
      rw [if_neg (by omega)]
      refine AW.skip ?_
      refine rgn [] [[]] ?_
      refine op1 tok ?_
      refine runEnd ?_
      refine AW.seq ?_
      refine rgn [] [[]] ?_
      refine op1 tok ?_
      refine runEnd ?_
      refine AW.block ?_
      refine AW.loop (α := Nat) (fun k => k ≤ p.cats.length) (fun k => ⟨upds 80 [(1, .ptr 1 0), (4, .p (.int .u64 (allC k))), (5, .p (.int .i64 k))], [], [(1, .vars 25 [.p (.sl 1 (p.cats.map PD.str)), .p (.sl 2 (p.marks.map Mk.enc)), .p (.str p.token), .p (.int .i64 p.fuel), .p (.int .i64 p.quota)])], 0⟩) (fun k => p.cats.length - k) (0) (by omega) ⟨upds_le (by simp [allC]), rfl, by simp, by simp⟩ ?_
      rintro k hk0
      refine AW.seq ?_
      refine rgn [] [[], [], [], [], [1, 4, 5, 23]] ?_
      iterate 5 refine op1 tok ?_
      refine runEnd ?_
      refine cnd ?_ ?_
      · intro h23
        try simp at h23
        have hbit := shl_bit (e := k) (by omega)
        refine AW.skip ?_
        refine AW.seq ?_
        refine AW.block ?_
        refine rgz [] [[], [], [], [1, 5, 29], [1, 4, 5]] ?_
        iterate 5 refine op1 tok ?_
        refine runEnd ?_
        refine rgz [] [[], [], [1, 4, 5]] ?_
        iterate 3 refine op1 tok ?_
        refine runEnd ?_
        exact ⟨k + 1, by omega, by omega, upds_le (by simp [allC, hbit, or_wrap]), rfl, by simp [allC, hbit, or_wrap], by simp [allC, hbit, or_wrap]⟩
      · intro h23
        try simp at h23
        obtain rfl : k = p.cats.length := by omega
        refine AW.exit ?_
        simp
        refine AW.seq ?_
        refine rgn [] [[]] ?_
        refine op1 tok ?_
        refine runEnd ?_
        refine AW.block ?_
        refine AW.loop (α := Nat) (fun k => k ≤ p.marks.length ∧ marksM p.cats.length p.marks = marksM p.cats.length (p.marks.drop k)) (fun k => ⟨upds 80 [(1, .ptr 1 0), (4, .p (.int .u64 (allC p.cats.length))), (6, .p (.int .i64 k))], [], [(1, .vars 25 [.p (.sl 1 (p.cats.map PD.str)), .p (.sl 2 (p.marks.map Mk.enc)), .p (.str p.token), .p (.int .i64 p.fuel), .p (.int .i64 p.quota)])], 0⟩) (fun k => p.marks.length - k) (0) ⟨by omega, rfl⟩ ⟨upds_le (by simp), rfl, by simp, by simp⟩ ?_
        rintro k ⟨hk1, hq⟩
        refine AW.seq ?_
        refine rgn [] [[], [], [], [], [1, 4, 6, 34]] ?_
        iterate 5 refine op1 tok ?_
        refine runEnd ?_
        refine cnd ?_ ?_
        · intro h34
          try simp at h34
          obtain ⟨x, hx⟩ : ∃ x, p.marks[k]? = some x := ⟨p.marks[k], by simp [h34]⟩
          have hxm := List.mem_of_getElem? hx
          have hdx : p.marks.drop k = x :: p.marks.drop (k + 1) := by
            obtain ⟨h, rfl⟩ := List.getElem?_eq_some_iff.1 hx
            exact List.drop_eq_getElem_cons h
          rw [hdx] at hq
          simp only [marksM] at hq
          have hM := refMay_ev (G := G) x.path (hk x hxm)
          rw [refMayL_eq] at hM
          have hW := refWithin_ev (G := G) x.mask (allC p.cats.length)
          have hbad := bad_ref (hi x hxm) hc64'
          refine AW.skip ?_
          refine AW.seq ?_
          refine AW.block ?_
          refine rgn [x.enc] [[], [], [], [], [1, 4, 6, 41], [], [1, 4, 6, 7]] ?_
          iterate 7 refine op1 tok ?_ (hv := by first | with_reducible exact True.intro | (simp [hx]; done) | omega | simp | (simp; omega) | (simp +contextual; omega))
          refine runEnd ?_
          refine rgn [.nilp, .int .i64 (mayL x.path)] [[], [], [], [1, 4, 6, 7, 8]] ?_
          iterate 4 refine op1 tok ?_ (hv := by first | with_reducible exact True.intro | (exact hM; done) | omega | simp | (simp; omega) | (simp +contextual; omega))
          refine runEnd ?_
          refine AW.seq ?_
          refine rgn [] [[], [1, 4, 6, 7, 8, 46]] ?_
          iterate 2 refine op1 tok ?_
          refine runEnd ?_
          refine cnd ?_ ?_
          · intro h46
            try simp at h46
            rw [if_pos h46] at hq
            rw [hq, if_neg h46]
            refine rgn [] [[], [2]] ?_
            iterate 2 refine op1 tok ?_
            refine runEnd ?_
            exact AW.ret ⟨.inr rfl, _, _, by (conv => lhs; simp), trivial, by simp⟩
          · intro h46
            try simp at h46
            rw [if_neg (by simp [h46])] at hq
            refine AW.skip ?_
            refine rgn [.nilp, .bool (decide (subM x.mask (allC p.cats.length) = 0))] [[], [], [], [], [1, 4, 6, 51, 52], [], [], [], [1, 4, 6, 51, 56], [1, 4, 6, 57]] ?_
            iterate 4 refine op1 tok ?_ (hv := by first | with_reducible exact True.intro | (first | exact hW | simp [hW]; done) | omega | simp | (simp; omega) | (simp +contextual; omega))
            iterate 5 refine op2 tok ?_ (hv := by first | with_reducible exact True.intro | (first | exact hW | simp [hW]; done) | omega | simp | (simp; omega) | (simp +contextual; omega))
            refine op1 tok ?_ (hv := by first | with_reducible exact True.intro | (first | exact hW | simp [hW]; done) | omega | simp | (simp; omega) | (simp +contextual; omega))
            refine runEnd ?_
            refine cnd ?_ ?_
            · intro h57
              try simp at h57
              rw [if_pos (hbad.2 h57)] at hq
              rw [hq]
              refine rgn [] [[]] ?_
              refine op1 tok ?_
              refine runEnd ?_
              exact AW.ret ⟨.inr rfl, _, _, by (conv => lhs; simp), trivial, by simp⟩
            · intro h57
              try simp at h57
              rw [if_neg fun h => by
                rcases hbad.1 h with h | h
                · exact h57.1 h
                · exact h h57.2] at hq
              refine AW.skip ?_
              refine rgz [] [[], [], [1, 4, 6]] ?_
              iterate 3 refine op1 tok ?_
              refine runEnd ?_
              exact ⟨k + 1, ⟨by omega, hq⟩, by omega, upds_le (by simp), rfl, by simp, by simp⟩
        · intro h34
          try simp at h34
          rw [List.drop_of_length_le h34] at hq
          rw [hq]
          simp only [marksM]
          try rw [if_pos rfl]
          refine AW.exit ?_
          simp
          refine AW.seq ?_
          refine rgn [.nilp, .bool (Lib.validD p.token), .nilp, .bool (fuelM p.fuel), .nilp, .bool (fuelM p.quota)] [[], [], [], [], [1, 62], [], [], [], [], [1, 67], [], [], [], [], [1, 68, 72], [], [], [74, 75], [], [], [], [79]] ?_
          iterate 22 first | refine op1 tok ?_ (hv := by first | with_reducible exact True.intro | (first | exact h3 | ((repeat' (first | with_reducible apply And.intro | intro _)) <;> first | exact (h3) | exact (h4) | exact (h5) | assumption | omega | contradiction | simp_all); done) | omega | simp | (simp; omega) | (simp +contextual; omega)) | refine op2 tok ?_ (hv := by first | with_reducible exact True.intro | (first | exact h3 | ((repeat' (first | with_reducible apply And.intro | intro _)) <;> first | exact (h3) | exact (h4) | exact (h5) | assumption | omega | contradiction | simp_all); done) | omega | simp | (simp; omega) | (simp +contextual; omega))
          refine runEnd ?_
          refine cnd ?_ ?_
          · intro h79
            try simp at h79
            rw [if_pos]
            rotate_left
            · rcases h79 with ((h | h) | h) | h
              · exact .inl (by omega)
              · exact .inr (.inl h)
              · exact .inr (.inr (.inl h))
              · exact .inr (.inr (.inr h))
            refine rgn [] [[]] ?_
            refine op1 tok ?_
            refine runEnd ?_
            exact AW.ret ⟨.inr rfl, _, _, by (conv => lhs; simp), trivial, by simp⟩
          · intro h79
            try simp at h79
            rw [if_neg (by obtain ⟨⟨⟨a, b⟩, c⟩, d⟩ := h79; simp [b, c, d]; omega)]
            refine AW.skip ?_
            refine rgn [] [[]] ?_
            refine op1 tok ?_
            refine runEnd ?_
            exact AW.ret ⟨.inr rfl, _, _, by (conv => lhs; simp), trivial, by simp⟩
end Go.Proofs.YtdjjmppnnkkloaaGreatDoor
