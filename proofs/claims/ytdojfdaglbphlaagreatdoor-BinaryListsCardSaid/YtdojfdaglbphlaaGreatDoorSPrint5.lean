import Derived.Test.YtdojfdaglbphlaaGreatDoorSPrintLen
import Derived.Test.YtdojfdaglbphlaaGreatDoorSQuote3
namespace Go.Proofs.YtdojfdaglbphlaaGreatDoor
open Sy Go
set_option maxRecDepth 100000
set_option maxHeartbeats 4000000
set_option linter.unusedSimpArgs false
set_option linter.unusedVariables false
variable {G : qQ}
theorem qSE : ∀ (l : List (List UInt8)) (p : List UInt8), l ≠ [] → Lib.join (l ++ [p]) [44] = Lib.join l [44] ++ ([44] ++ p)
 | [], _, h => absurd rfl h
 | [x], p, _ => by rw [List.singleton_append, qDP, Lib.join_one, Lib.join_one]; simp
 | x :: y :: r, p, _ => by
  have := qSE (y :: r) p (by simp)
  rw [List.cons_append, List.cons_append, qDP, qDP, ← List.cons_append, this]; simp
theorem qSD {ps : List (List UInt8)} {k : Nat} {p : List UInt8} (h : ps[k]? = some p) : Lib.join (ps.take (k + 1)) [44] = Lib.join (ps.take k) [44] ++ ((if 0 < k then [44] else []) ++ p) := by
 have hk := (List.getElem?_eq_some_iff.1 h).1
 rw [List.take_add_one, h, Option.toList_some]
 by_cases h0 : 0 < k
 ·rw [if_pos h0, qSE _ _ (by intro e; have := congrArg List.length e; rw [List.length_take, List.length_nil] at this; omega)]
 ·obtain rfl : k = 0 := by omega
  simp only [List.take_zero, List.nil_append, Nat.lt_irrefl, if_false, Lib.join_one]
  rfl
theorem qUU (ps : List (List UInt8)) : ∀ k, (Lib.join (ps.take k) [44]).length ≤ (Lib.join ps [44]).length := by
 have up : ∀ k, (Lib.join (ps.take k) [44]).length ≤ (Lib.join (ps.take (k + 1)) [44]).length := fun k => by
  cases h : ps[k]? with
  | none => rw [List.take_add_one, h]; simp
  | some p => rw [qSD h]; simp
 intro k
 have : ∀ j, (Lib.join (ps.take k) [44]).length ≤ (Lib.join (ps.take (k + j)) [44]).length := fun j => by
  induction j with
  | zero => exact Nat.le_refl _
  | succ j ih => exact Nat.le_trans ih (up (k + j))
 have h := this ps.length
 rw [List.take_of_length_le (show ps.length ≤ k + ps.length by omega)] at h
 exact h
def vW (v : Val) : List (List UInt8) := if v.kind = 7 then qHH v.keys (v.kids.map zQ) else v.kids.map zQ
def uX (v : Val) : List UInt8 := if v.kind = 7 then [123] else [91]
theorem qXO (v : Val) (hq8 : v.kind = 8 → AFn Tryz.prog G 71 [.int .i64 v.code] (.str (qGM v.code)) ∧ -9223372036854775808 ≤ v.code ∧ v.code ≤ 9223372036854775807) (hq4 : v.kind = 4 → AFn Tryz.prog G 69 [v.num.enc] (.str (qEB v.num))) (hq5 : v.kind = 5 → AFn Tryz.prog G 70 [.str v.text] (.str (kP v.text))) (hq7 : v.kind = 7 → v.keys.length = v.kids.length ∧ ∀ key ∈ v.keys, AFn Tryz.prog G 70 [.str key] (.str (kP key))) (hn : v.kids.length ≤ 1000000) (hb : (zQ v).length ≤ 1000000000) (ih : ∀ k ∈ v.kids, AFn Tryz.prog G 25 [k.enc] (.str (zQ k))) : AFn Tryz.prog G 25 [v.enc] (.str (zQ v)) := by
 refine AFn.introU tok Tryz.func25 (by kernel_rfl) rfl rfl ?_
 simp only [Tryz.f25, qJ, List.map_cons, List.map_nil]
 rw [jM v] at hb ⊢
 simp only [Dc.enc] at hq4
 refine rgn [] [[], [1]] ?_
 iterate 2 refine op1 tok ?_
 refine qA ?_
 refine AW.seq ?_
 refine rgn [] [[], [1, 6]] ?_
 iterate 2 refine op1 tok ?_
 refine qA ?_
 refine AW.block ?_
 refine rgn [] [[], [1, 6, 7]] ?_
 iterate 2 refine op1 tok ?_
 refine qA ?_
 refine cnd ?_ ?_
 ·intro h7
  try simp at h7
  rw [if_pos h7]
  refine rgn [] [[]] ?_
  refine op1 tok ?_
  refine qA ?_
  exact AW.ret (qI (k := by simp [qAN]))
 ·intro h7
  try simp at h7
  rw [if_neg h7] at hb ⊢
  refine rgn [] [[], [1, 6, 9]] ?_
  iterate 2 refine op1 tok ?_
  refine qA ?_
  refine cnd ?_ ?_
  ·intro h9
   try simp at h9
   rw [if_pos h9]
   refine rgn [] [[]] ?_
   refine op1 tok ?_
   refine qA ?_
   exact AW.ret (qI (k := by simp [xF]))
  ·intro h9
   try simp at h9
   rw [if_neg h9] at hb ⊢
   refine rgn [] [[], [1, 6, 11]] ?_
   iterate 2 refine op1 tok ?_
   refine qA ?_
   refine cnd ?_ ?_
   ·intro h11
    try simp at h11
    rw [if_pos h11]
    refine rgn [] [[]] ?_
    refine op1 tok ?_
    refine qA ?_
    exact AW.ret (qI (k := by simp [qAM]))
   ·intro h11
    try simp at h11
    rw [if_neg h11] at hb ⊢
    refine rgn [] [[], [1, 6, 13]] ?_
    iterate 2 refine op1 tok ?_
    refine qA ?_
    refine cnd ?_ ?_
    ·intro h13
     try simp at h13
     rw [if_pos h13]
     have h4 := hq4 h13
     refine rgn [.nilp, .str (qEB v.num)] [[], [], [], [2]] ?_
     iterate 4 refine op1 tok ?_ (hv := by first | with_reducible exact True.intro | (exact h4; done) | omega | simp | (simp +contextual; omega))
     refine qA ?_
     exact AW.ret qI
    ·intro h13
     try simp at h13
     rw [if_neg h13] at hb ⊢
     refine rgn [] [[], [1, 6, 18]] ?_
     iterate 2 refine op1 tok ?_
     refine qA ?_
     refine cnd ?_ ?_
     ·intro h18
      try simp at h18
      rw [if_pos h18]
      have h5q := hq5 h18
      refine rgn [.nilp, .str (kP v.text)] [[], [], [], [2]] ?_
      iterate 4 refine op1 tok ?_ (hv := by first | with_reducible exact True.intro | (exact h5q; done) | omega | simp | (simp +contextual; omega))
      refine qA ?_
      exact AW.ret qI
     ·intro h18
      try simp at h18
      rw [if_neg h18] at hb ⊢
      refine rgn [] [[], [1, 23]] ?_
      iterate 2 refine op1 tok ?_
      refine qA ?_
      refine cnd ?_ ?_
      ·intro h23
       try simp at h23
       rw [if_pos h23] at hb ⊢
       obtain ⟨h8, h8a, h8b⟩ := hq8 h23
       have hil : (qGM v.code).length ≤ 2 := by unfold qGM; split <;> simp
       refine rgn [.nilp, .str (qGM v.code)] [[], [], [], [28], [2]] ?_
       iterate 5 refine op1 tok ?_ (hv := by first | with_reducible exact True.intro | (first | exact h8 | omega | (simp; omega); done) | omega | simp | (simp +contextual; omega))
       refine qA ?_
       exact AW.ret qI
      ·intro h23
       try simp at h23
       rw [if_neg h23] at hb ⊢
       have hP : (if v.kind = 7 then [123] ++ Lib.join (qHH v.keys (v.kids.map zQ)) [44] ++ [125] else [91] ++ Lib.join (v.kids.map zQ) [44] ++ [93]) = uX v ++ Lib.join (vW v) [44] ++ (if v.kind = 7 then [125] else [93]) := by
        unfold uX vW; split <;> rfl
       rw [hP] at hb ⊢
       have hpl : (vW v).length = v.kids.length := by
        unfold vW; split
        ·rename_i h; simp [qHH, (hq7 h).1]
        ·simp
       have hol : (uX v).length = 1 := by unfold uX; split <;> rfl
       have hjl : (Lib.join (vW v) [44]).length ≤ 1000000000 := by simp only [List.length_append] at hb; omega
       have hjt := qUU (vW v)
       have hpk : ∀ k x, v.kids[k]? = some x → (vW v)[k]? = some ((if v.kind = 7 then kP (v.keys.getD k []) ++ [58] else []) ++ zQ x) := fun k x hx => by
        have hkl := (List.getElem?_eq_some_iff.1 hx).1
        unfold vW; split
        ·rename_i h
         have hk : v.keys[k]? = some (v.keys.getD k []) := by rw [List.getD_eq_getElem?_getD, List.getElem?_eq_getElem (by have := (hq7 h).1; omega)]; rfl
         exact zLZ hk (by rw [List.getElem?_map, hx]; rfl)
        ·rw [List.getElem?_map, hx]; rfl
       refine AW.skip ?_
       refine rgn [] [[]] ?_
       refine op1 tok ?_
       refine qA ?_
       refine AW.join (α := Unit) (fun _ => True) (fun a => ⟨qW 70 [(1, .ptr 1 0), (3, .p (.str (uX v)))], [], [(1, .vars 31 v.cells)], 0⟩) ?_ ?_
       ·
        refine rgn [] [[], [], [1, 3, 31]] ?_
        iterate 3 refine op1 tok ?_
        refine qA ?_
        refine cnd ?_ ?_
        ·intro h31
         try simp at h31
         refine rgz [] [[]] ?_
         refine op1 tok ?_
         refine qA ?_
         exact ⟨(), trivial, qB (by simp [uX, h31]), rfl, by simp [uX, h31], by simp [uX, h31]⟩
        ·intro h31
         try simp at h31
         refine AW.skip ?_
         exact ⟨(), trivial, qB (by simp [uX, h31]), rfl, by simp [uX, h31], by simp [uX, h31]⟩
       ·
        rintro a hI
        refine AW.seq ?_
        refine rgn [] [[]] ?_
        refine op1 tok ?_
        refine qA ?_
        refine AW.block ?_
        refine AW.loop (α := Nat) (fun k => k ≤ v.kids.length) (fun k => ⟨qW 70 [(1, .ptr 1 0), (3, .p (.str (uX v ++ Lib.join ((vW v).take k) [44]))), (4, .p (.int .i64 k))], [], [(1, .vars 31 v.cells)], 0⟩) (fun k => v.kids.length - k) (0) (by omega) ⟨qB (by simp [show Lib.join [] [44] = [] from rfl]), rfl, by simp, by simp⟩ ?_
        rintro k hk
        have hjk := hjt k
        refine AW.seq ?_
        refine rgn [] [[], [], [], [], [1, 3, 4, 36]] ?_
        iterate 5 refine op1 tok ?_
        refine qA ?_
        refine cnd ?_ ?_
        ·intro h36
         try simp at h36
         obtain ⟨x, hx⟩ : ∃ x, v.kids[k]? = some x := ⟨v.kids[k], by simp [h36]⟩
         have hp := hpk k x hx
         have hj2 := qSD hp
         have hjk1 := hjt (k + 1)
         have hix := ih x (List.mem_of_getElem? hx)
         simp only [Val.enc_def] at hix
         have hx2 : (zQ x).length ≤ 1000000000 := by rw [hj2] at hjk1; simp only [List.length_append] at hjk1; omega
         refine AW.skip ?_
         refine AW.seq ?_
         refine AW.block ?_
         refine AW.join (α := List UInt8) (fun t => t = uX v ++ Lib.join ((vW v).take k) [44] ++ (if 0 < k then [44] else []) ∧ t.length ≤ 1000000010) (fun t => ⟨qW 70 [(1, .ptr 1 0), (3, .p (.str t)), (4, .p (.int .i64 k))], [], [(1, .vars 31 v.cells)], 0⟩) ?_ ?_
         ·
          refine rgn [] [[], [1, 3, 4, 40]] ?_
          iterate 2 refine op1 tok ?_
          refine qA ?_
          refine cnd ?_ ?_
          ·intro h40
           try simp at h40
           refine rgz [] [[], [], [1, 3, 4]] ?_
           iterate 3 refine op1 tok ?_
           refine qA ?_
           exact ⟨uX v ++ Lib.join ((vW v).take k) [44] ++ [44], ⟨by rw [if_pos (by omega)], by simp; omega⟩, qB (by simp), rfl, by simp, by simp⟩
          ·intro h40
           try simp at h40
           refine AW.skip ?_
           exact ⟨uX v ++ Lib.join ((vW v).take k) [44], ⟨by rw [if_neg (by omega)]; simp, by simp; omega⟩, qB (by simp), rfl, by simp, by simp⟩
         ·
          rintro t ⟨ht, htl⟩
          refine AW.join (α := List UInt8) (fun t => t ++ zQ x = uX v ++ Lib.join ((vW v).take (k + 1)) [44] ∧ t.length ≤ 3000000010) (fun t => ⟨qW 70 [(1, .ptr 1 0), (3, .p (.str t)), (4, .p (.int .i64 k))], [], [(1, .vars 31 v.cells)], 0⟩) ?_ ?_
          ·
           refine rgn [] [[], [], [1, 3, 4, 45]] ?_
           iterate 3 refine op1 tok ?_
           refine qA ?_
           refine cnd ?_ ?_
           ·intro h45
            try simp at h45
            obtain ⟨hkl, hqk⟩ := hq7 h45
            have hk : v.keys[k]? = some (v.keys.getD k []) := by rw [List.getD_eq_getElem?_getD, List.getElem?_eq_getElem (by omega)]; rfl
            have hqq := hqk _ (List.mem_of_getElem? hk)
            have hql : (kP (v.keys.getD k [])).length ≤ 1000000000 := by rw [hj2, if_pos h45] at hjk1; simp only [List.length_append] at hjk1; omega
            rw [if_pos h45] at hp hj2
            generalize v.keys.getD k [] = key at *
            refine rgz [.str key, .nilp, .str (kP key)] [[], [], [], [], [1, 4, 46, 50], [], [], [1, 4, 53], [], [1, 3, 4]] ?_
            iterate 10 refine op1 tok ?_ (hv := by first | with_reducible exact True.intro | (first | exact hqq | (simp [hk]; done) | (simp; omega) | omega; done) | omega | simp | (simp +contextual; omega))
            refine qA ?_
            exact ⟨t ++ kP key ++ [58], ⟨by rw [hj2, ht]; simp, by simp; omega⟩, qB (by simp), rfl, by simp, by simp⟩
           ·intro h45
            try simp at h45
            rw [if_neg h45] at hp hj2
            refine AW.skip ?_
            exact ⟨t, ⟨by rw [hj2, ht]; simp, by omega⟩, qB (by simp), rfl, by simp, by simp⟩
          ·
           rintro t2 ⟨ht2, htl2⟩
           refine rgz [x.enc, .nilp, .str (zQ x)] [[], [], [], [], [1, 4, 55, 59], [], [], [1, 4, 62], [1, 3, 4]] ?_
           iterate 9 refine op1 tok ?_ (hv := by first | with_reducible exact True.intro | (first | exact hix | (simp [hx]; done) | (simp; omega) | omega; done) | omega | simp | (simp +contextual; omega))
           refine qA ?_
           refine rgz [] [[], [], [1, 3, 4]] ?_
           iterate 3 refine op1 tok ?_
           refine qA ?_
           exact ⟨k + 1, by omega, by omega, qB (by simp [ht2]), rfl, by simp [ht2], by simp [ht2]⟩
        ·intro h36
         try simp at h36
         rw [List.take_of_length_le (by omega)]
         refine AW.exit ?_
         simp
         refine AW.seq ?_
         refine rgn [] [[], [], [3, 65]] ?_
         iterate 3 refine op1 tok ?_
         refine qA ?_
         refine cnd ?_ ?_
         ·intro h65
          try simp at h65
          rw [if_pos h65]
          refine rgn [] [[], [], [2]] ?_
          iterate 3 refine op1 tok ?_
          refine qA ?_
          exact AW.ret qI
         ·intro h65
          try simp at h65
          rw [if_neg h65]
          refine AW.skip ?_
          refine rgn [] [[], [], [2]] ?_
          iterate 3 refine op1 tok ?_
          refine qA ?_
          exact AW.ret qI
theorem qNM (v : Val) (hm : qT v = true) : Val.sz v ≤ 10000 → qAF 40 v → (zBO v = true → qPN G 40) → AFn Tryz.prog G 25 [v.enc] (.str (zQ v)) := by
 intro hs hc hI
 have hp := zKD (G := G) v hm hs hc hI
 clear hs hc hI hm
 induction hp with
 | mk h8 h4 h5 h7 hn hb _ ih => exact qXO _ (fun h => ⟨(h8 h).1, by have := h8 h; unfold qPN at this; omega, by have := h8 h; unfold qPN at this; omega⟩) (fun h => zAG _ (h4 h)) (fun h => qTG _ (h5 h).2) (fun h => ⟨(h7 h).1, fun key hk => qTG key ((h7 h).2 key hk).2⟩) hn hb ih
end Go.Proofs.YtdojfdaglbphlaaGreatDoor
