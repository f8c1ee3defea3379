import Derived.Test.YtgoepemmcibdaaaGreatDoorSTree2
namespace Go.Proofs.YtgoepemmcibdaaaGreatDoor
open Sy Go
set_option maxRecDepth 100000
set_option maxHeartbeats 4000000
set_option linter.unusedSimpArgs false
set_option linter.unusedVariables false
variable {G : Glob}
theorem notMay {v : Val} (h : boundsT v = false ∨ partsT v = false ∨ ∃ k ∈ v.kids, mayT k = false) : mayT v = false := by
  rw [mayT_eq]
  rcases h with h | h | ⟨k, hk, h⟩
  · rw [h]; rfl
  · rw [h]; simp
  · rw [List.all_eq_false.2 ⟨k, hk, by simp [h]⟩]; simp

theorem refMayT_step (v : Val) (ih : ∀ k ∈ v.kids, AFn Tryz.prog G 33 [k.enc] (.bool (mayT k))) : AFn Tryz.prog G 33 [v.enc] (.bool (mayT v)) := by
  refine AFn.introU tok Tryz.func33 (by kernel_rfl) rfl rfl ?_
  simp only [Tryz.f33, enumA, List.map_cons, List.map_nil]
  have hd := refDcMay_ev (G := G) v.num
  have hw := refText_ev (G := G) v.text
  have hk := refKeys_ev (G := G) v.keys
  refine AW.seqRegionO [] ?_
  refine s1 tok [1] ?_
  refine s1 tok [1] ?_
  refine AOpsO.nil ?_
  refine AW.seq ?_
  refine AW.seqRegionO [] ?_
  refine s1 tok [1, 9] ?_
  refine s1 tok [1, 10] ?_
  refine s1 tok [1, 11] ?_
  refine s1 tok [1, 12] ?_
  refine s2 tok [1, 12, 13] 12 rfl rfl ?_
  refine s2 tok [1, 12, 14] 12 rfl rfl ?_
  refine s2 tok [1, 12, 15] 12 rfl rfl ?_
  refine s1 tok [1, 16] ?_
  refine s1 tok [1, 17] ?_
  refine s2 tok [1, 17, 18] 17 rfl rfl ?_
  refine s2 tok [1, 17, 19] 17 rfl rfl ?_
  refine s2 tok [1, 17, 20] 17 rfl rfl ?_
  refine s2 tok [1, 17, 21] 17 rfl rfl ?_
  refine s1 tok [1, 22] ?_
  refine AOpsO.nil ?_
  refine AW.cond (c := .tmp 22) (by conv => lhs; simp) trivial ?_ ?_
  · intro h22
    try simp at h22
    have hno : mayT v = false := notMay (.inl (by simp [boundsT]; omega))
    refine AW.seqRegionO [] ?_
    refine s1 tok [2] ?_
    refine AOpsO.nil ?_
    exact AW.ret ⟨.inr rfl, _, _, by (conv => lhs; simp), trivial, by simp [hno]⟩
  · intro h22
    try simp at h22
    have hb : boundsT v = true := by simp [boundsT]; omega
    refine AW.skip ?_
    refine AW.seqRegionO [] ?_
    refine s1 tok [1, 23] ?_
    refine s1 tok [1, 24] ?_
    refine s1 tok [1, 24, 25] ?_
    refine s1 tok [1, 26] ?_
    refine s1 tok [1, 3] ?_
    refine AOpsO.nil ?_
    refine AW.join (α := Unit) (fun _ => True) (fun a => ⟨upds 113 [(1, .ptr 1 0), (3, .p (.bool (numT v)))], [], [(1, .vars 31 v.cells)], 0⟩) ?_ ?_
    ·
      refine AW.seqRegionO [] ?_
      refine s1 tok [1, 3, 27] ?_
      refine s1 tok [1, 3, 28] ?_
      refine s1 tok [1, 3, 29] ?_
      refine AOpsO.nil ?_
      refine AW.cond (c := .tmp 29) (by conv => lhs; simp) trivial ?_ ?_
      · intro h29
        try simp at h29
        refine AW.regionO [.nilp, .bool (dcMay v.num)] ?_
        refine s1 tok [1, 30] ?_
        refine s1 tok [1, 31] ?_ (hv := by first | with_reducible exact True.intro | (((repeat' (first | with_reducible apply And.intro | intro _)) <;> first | exact (hd) | assumption | omega | contradiction | simp_all); done) | omega | simp | (simp; omega) | (simp +contextual; omega))
        refine s1 tok [1, 32] ?_ (hv := by first | with_reducible exact True.intro | (((repeat' (first | with_reducible apply And.intro | intro _)) <;> first | exact (hd) | assumption | omega | contradiction | simp_all); done) | omega | simp | (simp; omega) | (simp +contextual; omega))
        refine s1 tok [1, 3] ?_
        refine AOpsO.nil ?_
        exact ⟨(), trivial, upds_le (by simp [numT, h29]), rfl, by simp [numT, h29], by simp [numT, h29]⟩
      · intro h29
        try simp at h29
        refine AW.skip ?_
        exact ⟨(), trivial, upds_le (by simp [numT, h29]), rfl, by simp [numT, h29], by simp [numT, h29]⟩
    ·
      rintro a hI
      refine AW.seqRegionO [] ?_
      refine s1 tok [1, 3, 33] ?_
      refine s1 tok [1, 3, 34] ?_
      refine s1 tok [1, 3, 35] ?_
      refine s1 tok [1, 3, 4] ?_
      refine AOpsO.nil ?_
      refine AW.join (α := Unit) (fun _ => True) (fun a => ⟨upds 113 [(1, .ptr 1 0), (3, .p (.bool (numT v))), (4, .p (.bool (textT v)))], [], [(1, .vars 31 v.cells)], 0⟩) ?_ ?_
      ·
        refine AW.seqRegionO [] ?_
        refine s1 tok [1, 3, 4, 36] ?_
        refine s1 tok [1, 3, 4, 37] ?_
        refine s1 tok [1, 3, 4, 38] ?_
        refine AOpsO.nil ?_
        refine AW.cond (c := .tmp 38) (by conv => lhs; simp) trivial ?_ ?_
        · intro h38
          try simp at h38
          refine AW.regionO [.nilp, .bool (wordT v.text)] ?_
          refine s1 tok [1, 3, 39] ?_
          refine s1 tok [1, 3, 40] ?_ (hv := by first | with_reducible exact True.intro | (((repeat' (first | with_reducible apply And.intro | intro _)) <;> first | exact (hw) | assumption | omega | contradiction | simp_all); done) | omega | simp | (simp; omega) | (simp +contextual; omega))
          refine s1 tok [1, 3, 41] ?_ (hv := by first | with_reducible exact True.intro | (((repeat' (first | with_reducible apply And.intro | intro _)) <;> first | exact (hw) | assumption | omega | contradiction | simp_all); done) | omega | simp | (simp; omega) | (simp +contextual; omega))
          refine s1 tok [1, 3, 4] ?_
          refine AOpsO.nil ?_
          exact ⟨(), trivial, upds_le (by simp [textT, h38]), rfl, by simp [textT, h38], by simp [textT, h38]⟩
        · intro h38
          try simp at h38
          refine AW.skip ?_
          exact ⟨(), trivial, upds_le (by simp [textT, h38]), rfl, by simp [textT, h38], by simp [textT, h38]⟩
      ·
        rintro a hI
        refine AW.seqRegionO [] ?_
        refine s1 tok [1, 3, 4, 42] ?_
        refine s1 tok [1, 3, 4, 43] ?_
        refine s1 tok [1, 3, 4, 44] ?_
        refine s1 tok [1, 3, 4, 45] ?_
        refine s1 tok [1, 3, 4, 5] ?_
        refine AOpsO.nil ?_
        refine AW.join (α := Unit) (fun _ => True) (fun a => ⟨upds 113 [(1, .ptr 1 0), (3, .p (.bool (numT v))), (4, .p (.bool (textT v))), (5, .p (.bool (namedT v)))], [], [(1, .vars 31 v.cells)], 0⟩) ?_ ?_
        ·
          refine AW.seqRegionO [] ?_
          refine s1 tok [1, 3, 4, 5, 46] ?_
          refine s1 tok [1, 3, 4, 5, 47] ?_
          refine s1 tok [1, 3, 4, 5, 48] ?_
          refine AOpsO.nil ?_
          refine AW.cond (c := .tmp 48) (by conv => lhs; simp) trivial ?_ ?_
          · intro h48
            try simp at h48
            refine AW.regionO [.nilp, .bool (keysT v.keys)] ?_
            refine s1 tok [1, 3, 4, 49] ?_
            refine s1 tok [1, 3, 4, 50] ?_ (hv := by first | with_reducible exact True.intro | (((repeat' (first | with_reducible apply And.intro | intro _)) <;> first | exact (hk) | assumption | omega | contradiction | simp_all); done) | omega | simp | (simp; omega) | (simp +contextual; omega))
            refine s1 tok [1, 3, 4, 51] ?_ (hv := by first | with_reducible exact True.intro | (((repeat' (first | with_reducible apply And.intro | intro _)) <;> first | exact (hk) | assumption | omega | contradiction | simp_all); done) | omega | simp | (simp; omega) | (simp +contextual; omega))
            refine s1 tok [1, 3, 4, 51, 52] ?_
            refine s1 tok [1, 3, 4, 51, 53] ?_ (hv := by first | with_reducible exact True.intro | (((repeat' (first | with_reducible apply And.intro | intro _)) <;> first | exact (hk) | assumption | omega | contradiction | simp_all); done) | omega | simp | (simp; omega) | (simp +contextual; omega))
            refine s1 tok [1, 3, 4, 51, 54] ?_ (hv := by first | with_reducible exact True.intro | (((repeat' (first | with_reducible apply And.intro | intro _)) <;> first | exact (hk) | assumption | omega | contradiction | simp_all); done) | omega | simp | (simp; omega) | (simp +contextual; omega))
            refine s1 tok [1, 3, 4, 55] ?_ (hv := by first | with_reducible exact True.intro | (((repeat' (first | with_reducible apply And.intro | intro _)) <;> first | exact (hk) | assumption | omega | contradiction | simp_all); done) | omega | simp | (simp; omega) | (simp +contextual; omega))
            refine s1 tok [1, 3, 4, 56] ?_
            refine s2 tok [1, 3, 4, 56, 57] 56 rfl rfl ?_
            refine s2 tok [1, 3, 4, 56, 58] 56 rfl rfl ?_ (hv := by first | with_reducible exact True.intro | (((repeat' (first | with_reducible apply And.intro | intro _)) <;> first | exact (hk) | assumption | omega | contradiction | simp_all); done) | omega | simp | (simp; omega) | (simp +contextual; omega))
            refine s2 tok [1, 3, 4, 56, 59] 56 rfl rfl ?_ (hv := by first | with_reducible exact True.intro | (((repeat' (first | with_reducible apply And.intro | intro _)) <;> first | exact (hk) | assumption | omega | contradiction | simp_all); done) | omega | simp | (simp; omega) | (simp +contextual; omega))
            refine s1 tok [1, 3, 4, 60] ?_ (hv := by first | with_reducible exact True.intro | (((repeat' (first | with_reducible apply And.intro | intro _)) <;> first | exact (hk) | assumption | omega | contradiction | simp_all); done) | omega | simp | (simp; omega) | (simp +contextual; omega))
            refine s1 tok [1, 3, 4, 5] ?_
            refine AOpsO.nil ?_
            exact ⟨(), trivial, upds_le (by simp [namedT, h48]), rfl, by simp [namedT, h48], by simp [namedT, h48]⟩
          · intro h48
            try simp at h48
            refine AW.skip ?_
            exact ⟨(), trivial, upds_le (by simp [namedT, h48, len0]), rfl, by simp [namedT, h48, len0], by simp [namedT, h48, len0]⟩
        ·
          rintro a hI
          refine AW.seqRegionO [] ?_
          refine s1 tok [1, 3, 4, 5, 61] ?_
          refine s1 tok [1, 3, 4, 5, 62] ?_
          refine s1 tok [1, 3, 4, 5, 63] ?_
          refine s1 tok [1, 3, 4, 5, 64] ?_
          refine s1 tok [1, 3, 4, 5, 65] ?_
          refine s2 tok [1, 3, 4, 5, 65, 66] 65 rfl rfl ?_
          refine s2 tok [1, 3, 4, 5, 65, 67] 65 rfl rfl ?_
          refine s2 tok [1, 3, 4, 5, 65, 68] 65 rfl rfl ?_
          refine s1 tok [1, 3, 4, 5, 69] ?_
          refine s1 tok [1, 3, 4, 5, 70] ?_
          refine s2 tok [1, 3, 4, 5, 70, 71] 70 rfl rfl ?_
          refine s2 tok [1, 3, 4, 5, 70, 72] 70 rfl rfl ?_
          refine s2 tok [1, 3, 4, 5, 70, 73] 70 rfl rfl ?_
          refine s1 tok [1, 3, 4, 5, 74] ?_
          refine s1 tok [1, 3, 4, 5, 6] ?_
          refine AOpsO.nil ?_
          refine AW.seq ?_
          refine AW.seqRegionO [] ?_
          refine s1 tok [1, 4, 5, 6, 75] ?_
          refine s1 tok [1, 4, 5, 6, 76] ?_ (hv := by first | with_reducible exact True.intro | (grind; done) | omega | simp | (simp; omega) | (simp +contextual; omega))
          refine s1 tok [1, 4, 5, 6, 77] ?_
          refine s2 tok [1, 5, 6, 77, 78] 77 rfl rfl ?_
          refine s2 tok [1, 5, 6, 77, 79] 77 rfl rfl ?_ (hv := by first | with_reducible exact True.intro | (grind; done) | omega | simp | (simp; omega) | (simp +contextual; omega))
          refine s1 tok [1, 5, 6, 80] ?_ (hv := by first | with_reducible exact True.intro | (grind; done) | omega | simp | (simp; omega) | (simp +contextual; omega))
          refine s1 tok [1, 5, 6, 81] ?_
          refine s2 tok [1, 6, 81, 82] 81 rfl rfl ?_
          refine s2 tok [1, 6, 81, 83] 81 rfl rfl ?_ (hv := by first | with_reducible exact True.intro | (grind; done) | omega | simp | (simp; omega) | (simp +contextual; omega))
          refine s1 tok [1, 6, 84] ?_ (hv := by first | with_reducible exact True.intro | (grind; done) | omega | simp | (simp; omega) | (simp +contextual; omega))
          refine s1 tok [1, 6, 85] ?_
          refine s2 tok [1, 85, 86] 85 rfl rfl ?_
          refine s2 tok [1, 85, 87] 85 rfl rfl ?_ (hv := by first | with_reducible exact True.intro | (grind; done) | omega | simp | (simp; omega) | (simp +contextual; omega))
          refine s1 tok [1, 88] ?_ (hv := by first | with_reducible exact True.intro | (grind; done) | omega | simp | (simp; omega) | (simp +contextual; omega))
          refine s1 tok [1, 89] ?_
          refine s2 tok [1, 89, 90] 89 rfl rfl ?_
          refine s2 tok [1, 89, 91] 89 rfl rfl ?_ (hv := by first | with_reducible exact True.intro | (grind; done) | omega | simp | (simp; omega) | (simp +contextual; omega))
          refine s2 tok [1, 89, 92] 89 rfl rfl ?_ (hv := by first | with_reducible exact True.intro | (grind; done) | omega | simp | (simp; omega) | (simp +contextual; omega))
          refine s2 tok [1, 89, 92, 93] 89 rfl rfl ?_
          refine s2 tok [1, 89, 92, 94] 89 rfl rfl ?_ (hv := by first | with_reducible exact True.intro | (grind; done) | omega | simp | (simp; omega) | (simp +contextual; omega))
          refine s2 tok [1, 89, 92, 95] 89 rfl rfl ?_ (hv := by first | with_reducible exact True.intro | (grind; done) | omega | simp | (simp; omega) | (simp +contextual; omega))
          refine s2 tok [1, 89, 96] 89 rfl rfl ?_ (hv := by first | with_reducible exact True.intro | (grind; done) | omega | simp | (simp; omega) | (simp +contextual; omega))
          refine s1 tok [1, 97] ?_ (hv := by first | with_reducible exact True.intro | (grind; done) | omega | simp | (simp; omega) | (simp +contextual; omega))
          refine AOpsO.nil ?_
          refine AW.cond (c := .tmp 97) (by conv => lhs; simp) trivial ?_ ?_
          · intro h97
            try simp at h97
            have hno : mayT v = false := notMay (.inr (.inl (by
              rw [← Bool.not_eq_true]; intro hp
              simp only [partsT, Bool.and_eq_true] at hp
              obtain ⟨⟨⟨⟨p1, p2⟩, p3⟩, p4⟩, p5⟩ := hp
              simp [codeT, kidsT, ← List.length_eq_zero_iff] at p1 p5
              simp [p2, p3, p4, p1, ← List.length_eq_zero_iff] at h97
              grind)))
            refine AW.seqRegionO [] ?_
            refine s1 tok [2] ?_
            refine AOpsO.nil ?_
            exact AW.ret ⟨.inr rfl, _, _, by (conv => lhs; simp), trivial, by simp [hno]⟩
          · intro h97
            try simp at h97
            have hp : partsT v = true := by
              simp only [partsT, Bool.and_eq_true, codeT, kidsT]
              grind
            refine AW.skip ?_
            refine AW.seq ?_
            refine AW.seqRegionO [] ?_
            refine s1 tok [1, 7] ?_
            refine AOpsO.nil ?_
            refine AW.block ?_
            refine AW.loop (α := Nat) (fun k => k ≤ v.kids.length ∧ (v.kids.take k).all mayT = true) (fun k => ⟨upds 113 [(1, .ptr 1 0), (7, .p (.int .i64 k))], [], [(1, .vars 31 v.cells)], 0⟩) (fun k => v.kids.length - k) (0) ⟨by omega, rfl⟩ ⟨upds_le (by simp), rfl, by simp, by simp⟩ ?_
            rintro k ⟨hk, hall⟩
            refine AW.seq ?_
            refine AW.seqRegionO [] ?_
            refine s1 tok [1, 7, 98] ?_
            refine s1 tok [1, 7, 98, 99] ?_
            refine s1 tok [1, 7, 98, 100] ?_
            refine s1 tok [1, 7, 98, 101] ?_
            refine s1 tok [1, 7, 102] ?_
            refine AOpsO.nil ?_
            refine AW.cond (c := .tmp 102) (by conv => lhs; simp) trivial ?_ ?_
            · intro h102
              try simp at h102
              obtain ⟨x, hx⟩ : ∃ x, v.kids[k]? = some x := ⟨v.kids[k], by simp [h102]⟩
              have hix := ih x (List.mem_of_getElem? hx)
              refine AW.skip ?_
              refine AW.seq ?_
              refine AW.block ?_
              refine AW.seqRegionO [x.enc, .tup [x.enc], .bool (mayT x)] ?_
              refine s1 tok [1, 7, 105] ?_
              refine s1 tok [1, 7, 106] ?_ (hv := by first | with_reducible exact True.intro | (first | (simp [hx]; done) | (simp at hix ⊢; exact hix); done) | omega | simp | (simp; omega) | (simp +contextual; omega))
              refine s1 tok [1, 7, 106, 107] ?_
              refine s1 tok [1, 7, 108] ?_ (hv := by first | with_reducible exact True.intro | (first | (simp [hx]; done) | (simp at hix ⊢; exact hix); done) | omega | simp | (simp; omega) | (simp +contextual; omega))
              refine s1 tok [1, 7, 109] ?_ (hv := by first | with_reducible exact True.intro | (first | (simp [hx]; done) | (simp at hix ⊢; exact hix); done) | omega | simp | (simp; omega) | (simp +contextual; omega))
              refine s1 tok [1, 7, 110] ?_ (hv := by first | with_reducible exact True.intro | (first | (simp [hx]; done) | (simp at hix ⊢; exact hix); done) | omega | simp | (simp; omega) | (simp +contextual; omega))
              refine s1 tok [1, 7, 8] ?_
              refine AOpsO.nil ?_
              refine AW.seqRegionO [] ?_
              refine s1 tok [1, 7, 111] ?_
              refine s1 tok [1, 7, 112] ?_
              refine AOpsO.nil ?_
              refine AW.cond (c := .tmp 112) (by conv => lhs; simp) trivial ?_ ?_
              · intro h112
                try simp at h112
                have hno : mayT v = false := notMay (.inr (.inr ⟨x, List.mem_of_getElem? hx, h112⟩))
                refine AW.seqRegionO [] ?_
                refine s1 tok [2] ?_
                refine AOpsO.nil ?_
                exact AW.ret ⟨.inr rfl, _, _, by (conv => lhs; simp), trivial, by simp [hno]⟩
              · intro h112
                try simp at h112
                refine AW.skip ?_
                refine AW.regionO [] ?_
                refine s1 tok [1, 103] ?_
                refine s1 tok [1, 104] ?_
                refine s1 tok [1, 7] ?_
                refine AOpsO.nil ?_
                exact ⟨k + 1, ⟨by omega, by rw [List.take_add_one, hx, List.all_append, hall]; simp [h112]⟩, by omega, upds_le (by simp), rfl, by simp, by simp⟩
            · intro h102
              try simp at h102
              rw [List.take_of_length_le (by omega)] at hall
              have hyes : mayT v = true := by rw [mayT_eq, hb, hp, hall]; rfl
              refine AW.exit ?_
              simp
              refine AW.seqRegionO [] ?_
              refine s1 tok [2] ?_
              refine AOpsO.nil ?_
              exact AW.ret ⟨.inr rfl, _, _, by (conv => lhs; simp), trivial, by simp [hyes]⟩
theorem refMayT_ev (v : Val) : AFn Tryz.prog G 33 [v.enc] (.bool (mayT v)) := Val.induct (fun v ih => refMayT_step v ih) v
end Go.Proofs.YtgoepemmcibdaaaGreatDoor
