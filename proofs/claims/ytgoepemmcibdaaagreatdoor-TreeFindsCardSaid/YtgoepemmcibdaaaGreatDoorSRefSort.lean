import Derived.Test.YtgoepemmcibdaaaGreatDoorSRefCmp
namespace Go.Proofs.YtgoepemmcibdaaaGreatDoor
open Sy Go
set_option maxRecDepth 100000
set_option maxHeartbeats 4000000
set_option linter.unusedSimpArgs false
set_option linter.unusedVariables false
variable {G : Glob}
def leB (a b : List UInt8) : Bool := Op.bytesLess a b || decide (a = b)
theorem leB_cmp (a b : List UInt8) : leB a b = true ↔ cmpS a b ≤ 0 := by
  unfold leB cmpS
  by_cases h1 : Op.bytesLess a b = true
  · simp [h1]
  · rw [if_neg h1]
    by_cases h2 : a = b
    · rw [if_pos h2]; simp [h2]
    · rw [if_neg h2]; simp [h1, h2]
theorem bytesLess_lt : ∀ a b : List UInt8, Op.bytesLess a b = true ↔ a < b
  | [], [] => by simp [Op.bytesLess]
  | [], b :: bs => by simp [Op.bytesLess]
  | a :: al, [] => by simp [Op.bytesLess]
  | a :: al, b :: bs => by simp [Op.bytesLess, List.cons_lt_cons_iff, bytesLess_lt al bs]
theorem leB_le (a b : List UInt8) : leB a b = decide (a ≤ b) := by
  rw [Bool.eq_iff_iff, leB_cmp, decide_eq_true_eq, ← List.not_lt, ← bytesLess_lt]
  have h := cmpS_ord.anti a b trivial trivial
  rw [h]
  unfold cmpS
  by_cases h1 : Op.bytesLess b a = true
  · simp [h1]
  · rw [if_neg h1]
    by_cases h2 : b = a
    · rw [if_pos h2]; simpa using h1
    · rw [if_neg h2]; simpa using h1
theorem leB_tot (a b : List UInt8) : leB a b = true ∨ leB b a = true := by
  rw [leB_cmp, leB_cmp]; have := cmpS_ord.anti a b trivial trivial; omega
theorem leB_tr {a b c : List UInt8} (h1 : leB a b = true) (h2 : leB b c = true) : leB a c = true := by
  rw [leB_cmp] at *; exact cmpS_ord.tr a b c trivial trivial trivial h1 h2
theorem leB_anti {a b : List UInt8} (h1 : leB a b = true) (h2 : leB b a = true) : a = b := by
  rw [leB_cmp] at *
  have h := cmpS_ord.anti a b trivial trivial
  have h0 : cmpS a b = 0 := by omega
  unfold cmpS at h0
  split at h0
  · omega
  · split at h0
    · assumption
    · omega
def posK (s : List UInt8) (l : List (List UInt8)) : Nat := (l.takeWhile fun x => leB x s).length
def insK (l : List (List UInt8)) (s : List UInt8) : List (List UInt8) := l.take (posK s l) ++ [s] ++ l.drop (posK s l)
theorem posK_le (s : List UInt8) (l : List (List UInt8)) : posK s l ≤ l.length := (List.takeWhile_sublist _).length_le
theorem posK_take (s : List UInt8) (l : List (List UInt8)) : l.take (posK s l) = l.takeWhile fun x => leB x s := by
  unfold posK
  induction l with
  | nil => rfl
  | cons a l ih => rw [List.takeWhile_cons]; split
                   · simp [ih]
                   · rfl
theorem posK_drop (s : List UInt8) (l : List (List UInt8)) : l.drop (posK s l) = l.dropWhile fun x => leB x s := by
  unfold posK
  induction l with
  | nil => rfl
  | cons a l ih => rw [List.takeWhile_cons, List.dropWhile_cons]; split
                   · simp [ih]
                   · rfl
theorem posK_lt {s x : List UInt8} {l : List (List UInt8)} {k : Nat} (hk : k ≤ posK s l) (hx : l[k]? = some x) : leB x s = true ↔ k < posK s l := by
  induction l generalizing k with
  | nil => simp at hx
  | cons a l ih =>
    unfold posK at hk ⊢
    rw [List.takeWhile_cons] at hk ⊢
    cases k with
    | zero => simp at hx; subst hx; split <;> simp_all
    | succ k =>
      split at hk
      · rename_i h
        rw [if_pos h]
        simp at hx hk
        have := ih (k := k) hk hx
        unfold posK at this
        simpa using this
      · simp at hk
theorem insK_perm (l : List (List UInt8)) (s : List UInt8) : (insK l s).Perm (s :: l) := by
  unfold insK
  have : (l.take (posK s l) ++ [s] ++ l.drop (posK s l)).Perm (s :: (l.take (posK s l) ++ l.drop (posK s l))) := by
    rw [List.append_assoc]; exact List.perm_middle
  rwa [List.take_append_drop] at this
theorem takeW_all {p : List UInt8 → Bool} {l : List (List UInt8)} {x : List UInt8} (h : x ∈ l.takeWhile p) : p x = true := by
  induction l with
  | nil => simp at h
  | cons a l ih =>
    rw [List.takeWhile_cons] at h
    split at h
    · rename_i ha
      rcases List.mem_cons.1 h with rfl | h
      · exact ha
      · exact ih h
    · simp at h
theorem insK_sorted {l : List (List UInt8)} {s : List UInt8} (h : l.Pairwise fun a b => leB a b = true) : (insK l s).Pairwise fun a b => leB a b = true := by
  have h0 := h
  rw [← List.take_append_drop (posK s l) l, List.pairwise_append] at h
  obtain ⟨h1, h2, h3⟩ := h
  have hd : ∀ x ∈ l.drop (posK s l), leB s x = true := by
    rw [posK_drop] at h2 ⊢
    cases hq : l.dropWhile fun x => leB x s with
    | nil => simp
    | cons y m =>
      have hy : leB y s = false := by
        have := List.head?_dropWhile_not (fun x => leB x s) l
        rw [hq] at this; simpa using this
      have hsy : leB s y = true := (leB_tot s y).resolve_right (by simp [hy])
      rw [hq] at h2
      rw [List.pairwise_cons] at h2
      intro x hx
      rcases List.mem_cons.1 hx with rfl | hx
      · exact hsy
      · exact leB_tr hsy (h2.1 x hx)
  unfold insK
  rw [List.append_assoc, List.pairwise_append]
  refine ⟨h1, ?_, fun a ha b hb => ?_⟩
  · show (s :: l.drop (posK s l)).Pairwise _
    rw [List.pairwise_cons]; exact ⟨hd, h2⟩
  · rcases List.mem_cons.1 hb with rfl | hb
    · rw [posK_take] at ha; exact takeW_all (p := fun x => leB x b) ha
    · exact h3 a ha b hb
def insS (l : List (List UInt8)) : List (List UInt8) := l.foldl insK []
theorem insS_snoc (l : List (List UInt8)) (s : List UInt8) : insS (l ++ [s]) = insK (insS l) s := by unfold insS; rw [List.foldl_append]; rfl
theorem insS_take {l : List (List UInt8)} {k : Nat} {s : List UInt8} (h : l[k]? = some s) : insS (l.take (k + 1)) = insK (insS (l.take k)) s := by rw [List.take_add_one, h]; exact insS_snoc _ _
theorem insS_both (l : List (List UInt8)) : (insS l).Perm l ∧ (insS l).Pairwise fun a b => leB a b = true := by
  have : ∀ (l m : List (List UInt8)), m.Pairwise (fun a b => leB a b = true) → (l.foldl insK m).Perm (l ++ m) ∧ (l.foldl insK m).Pairwise fun a b => leB a b = true := by
    intro l
    induction l with
    | nil => exact fun m h => ⟨.refl _, h⟩
    | cons s l ih =>
      intro m h
      obtain ⟨h1, h2⟩ := ih (insK m s) (insK_sorted h)
      refine ⟨h1.trans ?_, h2⟩
      exact ((insK_perm m s).append_left l).trans List.perm_middle
  have h := this l [] List.Pairwise.nil
  simpa [insS] using h
theorem insS_eq (l : List (List UInt8)) : insS l = sortK l := by
  obtain ⟨h1, h2⟩ := insS_both l
  refine List.Perm.eq_of_pairwise (le := fun a b => leB a b = true) (fun a b _ _ => leB_anti) h2 ?_ (h1.trans (List.mergeSort_perm _ _).symm)
  have e : (fun x y : List UInt8 => decide (x ≤ y)) = leB := funext fun a => funext fun b => (leB_le a b).symm
  unfold sortK
  rw [e]
  exact List.pairwise_mergeSort (le := leB) (fun a b c => leB_tr) (fun a b => by rw [Bool.or_eq_true]; exact leB_tot _ _) l
theorem insS_len (l : List (List UInt8)) : (insS l).length = l.length := (insS_both l).1.length_eq
theorem sortedR_ev (l : List (List UInt8)) (hlm : l.length ≤ 1000000) : AFn Tryz.prog G 61 [.sl 1 (l.map PD.str)] (.sl 1 ((sortK l).map PD.str)) := by
  refine AFn.introU tok Tryz.func61 (by kernel_rfl) rfl rfl ?_
  simp only [Tryz.f61, enumA, List.map_cons, List.map_nil]
  rw [← insS_eq]
  refine AW.seqRegionO [] ?_
  refine s1 tok [0] ?_
  refine AOpsO.nil ?_
  refine AW.seqRegionO [] ?_
  refine s1 tok [0, 7] ?_
  refine s1 tok [0, 3] ?_
  refine AOpsO.nil ?_
  refine AW.seq ?_
  refine AW.seqRegionO [] ?_
  refine s1 tok [0, 3, 4] ?_
  refine AOpsO.nil ?_
  refine AW.block ?_
  refine AW.loop (α := Nat) (fun k => k ≤ l.length) (fun k => ⟨upds 51 [(0, .p (.sl 1 (l.map PD.str))), (3, .ms 7), (4, .p (.int .i64 k))], [], [(7, .row 9 1 ((insS (l.take k)).map PD.str))], 0⟩) (fun k => l.length - k) (0) (by omega) ⟨upds_le (by simp), rfl, by simp [insS], by simp⟩ ?_
  rintro k hk
  have hil := insS_len (l.take k)
  rw [List.length_take, Nat.min_eq_left hk] at hil
  refine AW.seq ?_
  refine AW.seqRegionO [] ?_
  refine s1 tok [0, 3, 4, 8] ?_
  refine s1 tok [0, 3, 4, 8, 9] ?_
  refine s1 tok [0, 3, 4, 8, 10] ?_
  refine s1 tok [0, 3, 4, 11] ?_
  refine AOpsO.nil ?_
  refine AW.cond (c := .tmp 11) (by conv => lhs; simp) trivial ?_ ?_
  · intro h11
    try simp at h11
    obtain ⟨s, hs⟩ : ∃ s, l[k]? = some s := ⟨l[k], by simp [h11]⟩
    have hnx := insS_take hs
    generalize insS (l.take k) = o at *
    have hpl := posK_le s o
    refine AW.skip ?_
    refine AW.seq ?_
    refine AW.block ?_
    refine AW.seqRegionO [] ?_
    refine s1 tok [0, 3, 4, 5] ?_
    refine AOpsO.nil ?_
    refine AW.seq ?_
    refine AW.block ?_
    refine AW.freezeE 7 (by conv => lhs; simp) ?_
    refine AW.loop (α := Nat) (fun j => j ≤ posK s o) (fun j => ⟨upds 51 [(0, .p (.sl 1 (l.map PD.str))), (3, .p (.sl 1 (o.map PD.str))), (4, .p (.int .i64 k)), (5, .p (.int .i64 j))], [], [], 0⟩) (fun j => posK s o - j) (0) (by omega) ⟨upds_le (by simp), rfl, by simp, by simp⟩ ?_
    rintro j hj
    refine AW.seq ?_
    refine AW.seqDrawS tok mixed 15 [[5], [3], [15], [14, 16], [17], [3, 18], [5, 18], [19, 20, 18], [21, 18], [0, 18], [4, 18], [23, 24, 18], [25, 18], [22, 26, 18], [18, 27]] [.str (o.getD j []), .str s] [] (by kernel_rfl) ?_
    refine d1 ?_
    refine d1 ?_
    refine d1 ?_ (hv := by first | with_reducible exact True.intro | (first | (simp [hs]; done) | (simp +contextual; done) | (simp; intros; omega) | (simp [List.getD_eq_getElem?_getD]; intros; simp [*]); done) | omega | simp | (simp; omega) | (simp +contextual; omega))
    refine d1 ?_ (hv := by first | with_reducible exact True.intro | (first | (simp [hs]; done) | (simp +contextual; done) | (simp; intros; omega) | (simp [List.getD_eq_getElem?_getD]; intros; simp [*]); done) | omega | simp | (simp; omega) | (simp +contextual; omega))
    refine d1 ?_
    refine d2 18 rfl rfl ?_
    refine d2 18 rfl rfl ?_
    refine d2 18 rfl rfl ?_ (hv := by first | with_reducible exact True.intro | (first | (simp [hs]; done) | (simp +contextual; done) | (simp; intros; omega) | (simp [List.getD_eq_getElem?_getD]; intros; simp [*]); done) | omega | simp | (simp; omega) | (simp +contextual; omega))
    refine d2 18 rfl rfl ?_ (hv := by first | with_reducible exact True.intro | (first | (simp [hs]; done) | (simp +contextual; done) | (simp; intros; omega) | (simp [List.getD_eq_getElem?_getD]; intros; simp [*]); done) | omega | simp | (simp; omega) | (simp +contextual; omega))
    refine d2 18 rfl rfl ?_
    refine d2 18 rfl rfl ?_
    refine d2 18 rfl rfl ?_ (hv := by first | with_reducible exact True.intro | (first | (simp [hs]; done) | (simp +contextual; done) | (simp; intros; omega) | (simp [List.getD_eq_getElem?_getD]; intros; simp [*]); done) | omega | simp | (simp; omega) | (simp +contextual; omega))
    refine d2 18 rfl rfl ?_ (hv := by first | with_reducible exact True.intro | (first | (simp [hs]; done) | (simp +contextual; done) | (simp; intros; omega) | (simp [List.getD_eq_getElem?_getD]; intros; simp [*]); done) | omega | simp | (simp; omega) | (simp +contextual; omega))
    refine d2 18 rfl rfl ?_ (hv := by first | with_reducible exact True.intro | (first | (simp [hs]; done) | (simp +contextual; done) | (simp; intros; omega) | (simp [List.getD_eq_getElem?_getD]; intros; simp [*]); done) | omega | simp | (simp; omega) | (simp +contextual; omega))
    refine d1 ?_ (hv := by first | with_reducible exact True.intro | (first | (simp [hs]; done) | (simp +contextual; done) | (simp; intros; omega) | (simp [List.getD_eq_getElem?_getD]; intros; simp [*]); done) | omega | simp | (simp; omega) | (simp +contextual; omega))
    refine DGo.nil (by kernel_rfl) ⟨by kernel_rfl, ?_⟩
    refine AOpsO.nil ?_
    refine AW.cond (c := .tmp 28) (by conv => lhs; simp) trivial ?_ ?_
    · intro h28
      try simp at h28
      have hjl : j < o.length := h28.1
      have hjp : j < posK s o := by
        refine (posK_lt hj (x := o[j]) (by simp [hjl])).1 ?_
        simp [hjl] at h28
        simpa [leB] using h28
      refine AW.skip ?_
      refine AW.block ?_
      refine AW.regionO [] ?_
      refine s1 tok [0, 3, 4, 29] ?_
      refine s1 tok [0, 3, 4, 30] ?_
      refine s1 tok [0, 3, 4, 5] ?_
      refine AOpsO.nil ?_
      exact ⟨j + 1, by omega, by omega, upds_le (by simp), rfl, by simp, by simp⟩
    · intro h28
      try simp at h28
      have hjp : j = posK s o := by
        by_cases h : j < posK s o
        · have hjl : j < o.length := by omega
          have := (posK_lt hj (x := o[j]) (by simp [hjl])).2 h
          simp [hjl] at h28
          simp [leB, h28] at this
        · omega
      subst hjp
      refine AW.exit ?_
      simp
      refine AW.seqRegionO [] ?_
      refine s1 tok [0, 3, 4, 5, 31] ?_
      refine s1 tok [0, 3, 4, 5, 31, 32] ?_
      refine s1 tok [0, 3, 4, 5, 31, 32, 33] ?_
      refine s1 tok [0, 3, 4, 5, 31, 34] ?_
      refine s1 tok [0, 3, 4, 5, 35] ?_
      refine s1 tok [0, 3, 4, 5, 6] ?_
      refine AOpsO.nil ?_
      refine AW.seqDrawS tok mixed 11 [[], [3], [5], [37, 38], [36, 39], [0], [4], [41, 42], [43], [44], [40, 45]] [.str s, .str s] [] (by kernel_rfl) ?_
      refine d1 ?_ (hv := by first | with_reducible exact True.intro | (first | (simp [hs]; done) | (simp; omega); done) | omega | simp | (simp; omega) | (simp +contextual; omega))
      refine d1 ?_
      refine d1 ?_
      refine d1 ?_ (hv := by first | with_reducible exact True.intro | (first | (simp [hs]; done) | (simp; omega); done) | omega | simp | (simp; omega) | (simp +contextual; omega))
      refine d1 ?_ (hv := by first | with_reducible exact True.intro | (first | (simp [hs]; done) | (simp; omega); done) | omega | simp | (simp; omega) | (simp +contextual; omega))
      refine d1 ?_
      refine d1 ?_
      refine d1 ?_ (hv := by first | with_reducible exact True.intro | (first | (simp [hs]; done) | (simp; omega); done) | omega | simp | (simp; omega) | (simp +contextual; omega))
      refine d1 ?_ (hv := by first | with_reducible exact True.intro | (first | (simp [hs]; done) | (simp; omega); done) | omega | simp | (simp; omega) | (simp +contextual; omega))
      refine d1 ?_ (hv := by first | with_reducible exact True.intro | (first | (simp [hs]; done) | (simp; omega); done) | omega | simp | (simp; omega) | (simp +contextual; omega))
      refine d1 ?_ (hv := by first | with_reducible exact True.intro | (first | (simp [hs]; done) | (simp; omega); done) | omega | simp | (simp; omega) | (simp +contextual; omega))
      refine DGo.nil (by kernel_rfl) ⟨by kernel_rfl, ?_⟩
      refine s1 tok [0, 3, 4, 6] ?_
      refine AOpsO.nil ?_
      refine AW.regionO [] ?_
      refine s1 tok [0, 4, 6, 47] ?_
      refine s1 tok [0, 4, 47, 48] ?_
      refine s1 tok [0, 4, 49] ?_
      refine s1 tok [0, 3, 4] ?_
      refine AOpsO.nil ?_
      refine AW.renE 46 7 (by simp) (by conv => lhs; simp) ?_
      refine AW.regionO [] ?_
      refine s1 tok [0, 3, 12] ?_
      refine s1 tok [0, 3, 13] ?_
      refine s1 tok [0, 3, 4] ?_
      refine AOpsO.nil ?_
      exact ⟨k + 1, by omega, by omega, upds_le (by simp [hnx, insK, show List.take o.length (List.map PD.str o) = List.map PD.str o from List.take_of_length_le (by simp)]), rfl, by simp [hnx, insK, show List.take o.length (List.map PD.str o) = List.map PD.str o from List.take_of_length_le (by simp)], by simp [hnx, insK, show List.take o.length (List.map PD.str o) = List.map PD.str o from List.take_of_length_le (by simp)]⟩
  · intro h11
    try simp at h11
    refine AW.exit ?_
    simp
    refine AW.seqRegionO [] ?_
    refine s1 tok [50] ?_
    refine s1 tok [2] ?_
    refine AOpsO.nil ?_
    exact AW.ret ⟨.inr rfl, _, _, by (conv => lhs; simp), trivial, by simp; rw [List.take_of_length_le h11]⟩
end Go.Proofs.YtgoepemmcibdaaaGreatDoor
