import Derived.Test.YtdojfdaglbphlaaGreatDoorK2
namespace Go.Proofs.YtdojfdaglbphlaaGreatDoor
open Sy Go
set_option maxRecDepth 100000
set_option maxHeartbeats 4000000
set_option linter.unusedSimpArgs false
set_option linter.unusedVariables false
variable {G : qV}
theorem zDC {v : Val} (h : yY v = false ∨ jA v = false ∨ ∃ k ∈ v.kids, qQ k = false) : qQ v = false := by
 rw [yV]
 rcases h with h | h | ⟨k, hk, h⟩
 ·rw [h]; rfl
 ·rw [h]; simp
 ·rw [List.all_eq_false.2 ⟨k, hk, by simp [h]⟩]; simp
theorem qVQ (v : Val) (ih : ∀ k ∈ v.kids, AFn Tryz.prog G 17 [k.enc] (.bool (qQ k))) : AFn Tryz.prog G 17 [v.enc] (.bool (qQ v)) := by
 refine AFn.introU tok Tryz.func17 (by kernel_rfl) rfl rfl ?_
 simp only [Tryz.f17, qI, List.map_cons, List.map_nil]
 have hd := qYV (G := G) v.num
 have hw := qOK (G := G) v.text
 have hk := zCU (G := G) v.keys
 refine rgn [] [[], [1]] ?_
 iterate 2 refine op1 tok ?_
 refine qA ?_
 refine AW.seq ?_
 refine rgn [] [[], [], [], [], [], [1, 12, 14], [], [], [1, 17], [], [], [], [], [1, 22]] ?_
 iterate 14 first | refine op1 tok ?_ | refine op2 tok ?_
 refine qA ?_
 refine cnd ?_ ?_
 ·intro h22
  try simp at h22
  have hno : qQ v = false := zDC (.inl (by simp [yY]; omega))
  refine rgn [] [[]] ?_
  refine op1 tok ?_
  refine qA ?_
  exact AW.ret (qJ (k := by simp [hno]))
 ·intro h22
  try simp at h22
  have hb : yY v = true := by simp [yY]; omega
  refine AW.skip ?_
  refine rgn [] [[], [], [], [], [1, 3]] ?_
  iterate 5 refine op1 tok ?_
  refine qA ?_
  refine AW.join (α := Unit) (fun _ => True) (fun a => ⟨qY 113 [(1, .ptr 1 0), (3, .p (.bool (qEU v)))], [], [(1, .vars 31 v.cells)], 0⟩) ?_ ?_
  ·
   refine rgn [] [[], [], [1, 3, 29]] ?_
   iterate 3 refine op1 tok ?_
   refine qA ?_
   refine cnd ?_ ?_
   ·intro h29
    try simp at h29
    refine rgz [.nilp, .bool (zZ v.num)] [[], [], [], [1, 3]] ?_
    iterate 4 refine op1 tok ?_ (hv := by first | with_reducible exact True.intro | (((repeat' (first | with_reducible apply And.intro | intro _)) <;> first | exact (hd) | assumption | omega | contradiction | simp_all); done) | omega | simp | (simp +contextual; omega))
    refine qA ?_
    exact ⟨(), trivial, qB (by simp [qEU, h29]), rfl, by simp [qEU, h29], by simp [qEU, h29]⟩
   ·intro h29
    try simp at h29
    refine AW.skip ?_
    exact ⟨(), trivial, qB (by simp [qEU, h29]), rfl, by simp [qEU, h29], by simp [qEU, h29]⟩
  ·
   rintro a hI
   refine rgn [] [[], [], [], [1, 3, 4]] ?_
   iterate 4 refine op1 tok ?_
   refine qA ?_
   refine AW.join (α := Unit) (fun _ => True) (fun a => ⟨qY 113 [(1, .ptr 1 0), (3, .p (.bool (qEU v))), (4, .p (.bool (uB v)))], [], [(1, .vars 31 v.cells)], 0⟩) ?_ ?_
   ·
    refine rgn [] [[], [], [1, 3, 4, 38]] ?_
    iterate 3 refine op1 tok ?_
    refine qA ?_
    refine cnd ?_ ?_
    ·intro h38
     try simp at h38
     refine rgz [.nilp, .bool (kB v.text)] [[], [], [], [1, 3, 4]] ?_
     iterate 4 refine op1 tok ?_ (hv := by first | with_reducible exact True.intro | (((repeat' (first | with_reducible apply And.intro | intro _)) <;> first | exact (hw) | assumption | omega | contradiction | simp_all); done) | omega | simp | (simp +contextual; omega))
     refine qA ?_
     exact ⟨(), trivial, qB (by simp [uB, h38]), rfl, by simp [uB, h38], by simp [uB, h38]⟩
    ·intro h38
     try simp at h38
     refine AW.skip ?_
     exact ⟨(), trivial, qB (by simp [uB, h38]), rfl, by simp [uB, h38], by simp [uB, h38]⟩
   ·
    rintro a hI
    refine rgn [] [[], [], [], [], [1, 3, 4, 5]] ?_
    iterate 5 refine op1 tok ?_
    refine qA ?_
    refine AW.join (α := Unit) (fun _ => True) (fun a => ⟨qY 113 [(1, .ptr 1 0), (3, .p (.bool (qEU v))), (4, .p (.bool (uB v))), (5, .p (.bool (jC v)))], [], [(1, .vars 31 v.cells)], 0⟩) ?_ ?_
    ·
     refine rgn [] [[], [], [1, 3, 4, 5, 48]] ?_
     iterate 3 refine op1 tok ?_
     refine qA ?_
     refine cnd ?_ ?_
     ·intro h48
      try simp at h48
      refine rgz [.nilp, .bool (kX v.keys)] [[], [], [], [], [], [1, 3, 4, 51, 54], [], [], [], [1, 3, 4, 56, 58], [], [], [1, 3, 4, 5]] ?_
      iterate 8 refine op1 tok ?_ (hv := by first | with_reducible exact True.intro | (((repeat' (first | with_reducible apply And.intro | intro _)) <;> first | exact (hk) | assumption | omega | contradiction | simp_all); done) | omega | simp | (simp +contextual; omega))
      iterate 3 refine op2 tok ?_ (hv := by first | with_reducible exact True.intro | (((repeat' (first | with_reducible apply And.intro | intro _)) <;> first | exact (hk) | assumption | omega | contradiction | simp_all); done) | omega | simp | (simp +contextual; omega))
      iterate 2 refine op1 tok ?_ (hv := by first | with_reducible exact True.intro | (((repeat' (first | with_reducible apply And.intro | intro _)) <;> first | exact (hk) | assumption | omega | contradiction | simp_all); done) | omega | simp | (simp +contextual; omega))
      refine qA ?_
      exact ⟨(), trivial, qB (by simp [jC, h48]), rfl, by simp [jC, h48], by simp [jC, h48]⟩
     ·intro h48
      try simp at h48
      refine AW.skip ?_
      exact ⟨(), trivial, qB (by simp [jC, h48, zTI]), rfl, by simp [jC, h48, zTI], by simp [jC, h48, zTI]⟩
    ·
     rintro a hI
     refine rgn [] [[], [], [], [], [1, 3, 4, 5, 65], [], [], [], [1, 3, 4, 5, 69], [], [], [], [], [1, 3, 4, 5, 74], [1, 3, 4, 5, 6]] ?_
     iterate 15 first | refine op1 tok ?_ | refine op2 tok ?_
     refine qA ?_
     refine AW.seq ?_
     refine rgn [] [[], [], [], [1, 5, 6, 77, 78], [], [], [1, 5, 6, 81], [], [], [1, 6, 84], [], [], [], [1, 88], [], [], [], [], [], [1, 89, 92, 94], [], [], [1, 97]] ?_
     iterate 23 first | refine op1 tok ?_ (hv := by first | with_reducible exact True.intro | (grind; done) | omega | simp | (simp +contextual; omega)) | refine op2 tok ?_ (hv := by first | with_reducible exact True.intro | (grind; done) | omega | simp | (simp +contextual; omega))
     refine qA ?_
     refine cnd ?_ ?_
     ·intro h97
      try simp at h97
      have hno : qQ v = false := zDC (.inr (.inl (by
       rw [← Bool.not_eq_true]; intro hp
       simp only [jA, Bool.and_eq_true] at hp
       obtain ⟨⟨⟨⟨p1, p2⟩, p3⟩, p4⟩, p5⟩ := hp
       simp [qHJ, qEP, ← List.length_eq_zero_iff] at p1 p5
       simp [p2, p3, p4, p1, ← List.length_eq_zero_iff] at h97
       grind)))
      refine rgn [] [[]] ?_
      refine op1 tok ?_
      refine qA ?_
      exact AW.ret (qJ (k := by simp [hno]))
     ·intro h97
      try simp at h97
      have hp : jA v = true := by
       simp only [jA, Bool.and_eq_true, qHJ, qEP]
       grind
      refine AW.skip ?_
      refine AW.seq ?_
      refine rgn [] [[]] ?_
      refine op1 tok ?_
      refine qA ?_
      refine AW.block ?_
      refine AW.loop (α := Nat) (fun k => k ≤ v.kids.length ∧ (v.kids.take k).all qQ = true) (fun k => ⟨qY 113 [(1, .ptr 1 0), (7, .p (.int .i64 k))], [], [(1, .vars 31 v.cells)], 0⟩) (fun k => v.kids.length - k) (0) ⟨by omega, rfl⟩ ⟨qB (by simp), rfl, by simp, by simp⟩ ?_
      rintro k ⟨hk, hall⟩
      refine AW.seq ?_
      refine rgn [] [[], [], [], [], [1, 7, 102]] ?_
      iterate 5 refine op1 tok ?_
      refine qA ?_
      refine cnd ?_ ?_
      ·intro h102
       try simp at h102
       obtain ⟨x, hx⟩ : ∃ x, v.kids[k]? = some x := ⟨v.kids[k], by simp [h102]⟩
       have hix := ih x (List.mem_of_getElem? hx)
       refine AW.skip ?_
       refine AW.seq ?_
       refine AW.block ?_
       refine rgn [x.enc, .tup [x.enc], .bool (qQ x)] [[], [], [], [], [1, 7, 109], [], [1, 7, 8]] ?_
       iterate 7 refine op1 tok ?_ (hv := by first | with_reducible exact True.intro | (first | (simp [hx]; done) | (simp at hix ⊢; exact hix); done) | omega | simp | (simp +contextual; omega))
       refine qA ?_
       refine rgn [] [[], [1, 7, 112]] ?_
       iterate 2 refine op1 tok ?_
       refine qA ?_
       refine cnd ?_ ?_
       ·intro h112
        try simp at h112
        have hno : qQ v = false := zDC (.inr (.inr ⟨x, List.mem_of_getElem? hx, h112⟩))
        refine rgn [] [[]] ?_
        refine op1 tok ?_
        refine qA ?_
        exact AW.ret (qJ (k := by simp [hno]))
       ·intro h112
        try simp at h112
        refine AW.skip ?_
        refine rgz [] [[], [], [1, 7]] ?_
        iterate 3 refine op1 tok ?_
        refine qA ?_
        exact ⟨k + 1, ⟨by omega, by rw [List.take_add_one, hx, List.all_append, hall]; simp [h112]⟩, by omega, qB (by simp), rfl, by simp, by simp⟩
      ·intro h102
       try simp at h102
       rw [List.take_of_length_le (by omega)] at hall
       have hyes : qQ v = true := by rw [yV, hb, hp, hall]; rfl
       refine AW.exit ?_
       simp
       refine rgn [] [[]] ?_
       refine op1 tok ?_
       refine qA ?_
       exact AW.ret (qJ (k := by simp [hyes]))
theorem zCT (v : Val) : AFn Tryz.prog G 17 [v.enc] (.bool (qQ v)) := Val.induct (fun v ih => qVQ v ih) v
end Go.Proofs.YtdojfdaglbphlaaGreatDoor
