import Derived.Test.YtdlejiiiifhiiaaGreatDoorSOne
import Derived.Test.YtdlejiiiifhiiaaGreatDoorSJoin
namespace Go.Proofs.YtdlejiiiifhiiaaGreatDoor
open Sy Go
set_option maxRecDepth 100000
set_option maxHeartbeats 4000000
set_option linter.unusedSimpArgs false
set_option linter.unusedVariables false
variable {G : Glob}
theorem joined_ax (f : FuncId) (v : Val) (ps : List (List UInt8)) (hl : ps.length = v.kids.length) (hn : ps.length ≤ 1000000) (hj : (Lib.join ps [44]).length ≤ 100000000000) (hf : ∀ (i : Nat) (s : List UInt8), ps[i]? = some s → AX Tryz.prog G f [.p (.int .i64 i), .ptr 2 0] [(2, .vars 31 v.cells)] (.p (.str s)) [2] [(2, .vars 31 v.cells)]) : AX Tryz.prog G 24 [.p v.enc, .func (.func f) [] [.ptr 2 0]] [(2, .vars 31 v.cells)] (.p (.str (Lib.join ps [44]))) [2] [(2, .vars 31 v.cells)] := by
  refine AX.introU tok 900 Tryz.func24 (by kernel_rfl) rfl rfl ?_
  simp only [Tryz.f24, enumA, List.map_cons, List.map_nil]
  refine AW.seqRegionO [] ?_
  refine s1 tok [1, 2] ?_
  refine s1 tok [1, 2] ?_
  refine AOpsO.nil ?_
  refine AW.seqRegionO [] ?_
  refine s1 tok [1, 2, 5] ?_
  refine AOpsO.nil ?_
  refine AW.seq ?_
  refine AW.seqRegionO [] ?_
  refine s1 tok [1, 5, 7] ?_
  refine s1 tok [1, 5, 8] ?_
  refine s1 tok [1, 5, 9] ?_
  refine s1 tok [1, 5, 9, 10] ?_
  refine AOpsO.nil ?_
  refine AW.block ?_
  refine AW.beginE 5 3 9 1 (by simp) (by simp) (by conv => lhs; simp) ?_
  refine AW.loop (α := Nat) (fun k => k ≤ ps.length) (fun k => ⟨upds 22 [(1, .func (.func f) [] [.ptr 2 0]), (5, .ms 3), (9, .p (.int .i64 ps.length)), (10, .p (.int .i64 k))], [2], [(2, .vars 31 v.cells), (3, .row 9 1 ((ps.take k).map PD.str))], 900⟩) (fun k => ps.length - k) (0) (by omega) ⟨upds_le (by simp [hl]), rfl, by simp, by simp⟩ ?_
  rintro k hk
  refine AW.seqRegionO [] ?_
  refine s1 tok [1, 5, 9, 10, 11] ?_
  refine AOpsO.nil ?_
  refine AW.seq ?_
  refine AW.cond (c := .tmp 11) (by conv => lhs; simp) trivial ?_ ?_
  · intro h11
    try simp at h11
    obtain ⟨x, hx⟩ : ∃ x, ps[k]? = some x := ⟨ps[k], by simp [h11]⟩
    have hfx := hf k x hx
    refine AW.skip ?_
    refine AW.seq ?_
    refine AW.block ?_
    refine AW.seqRegionO [] ?_
    refine s1 tok [1, 5, 9, 10, 12] ?_
    refine s1 tok [1, 5, 6, 9, 10] ?_
    refine AOpsO.nil ?_
    refine AW.regionO [.str x] ?_
    refine s1 tok [1, 6, 9, 10, 13] ?_
    refine s1 tok [1, 6, 9, 10, 13, 14] ?_
    refine s1 tok [1, 9, 10, 13, 14, 15] ?_
    refine AOpsO.stepK [1, 9, 10, 13, 16] (y_cx rfl hfx (by simp)) (by conv => lhs; simp) rfl ?_
    refine s1 tok [1, 9, 10, 13, 17] ?_
    refine s1 tok [1, 9, 10, 18] ?_
    refine s1 tok [1, 5, 9, 10] ?_
    refine AOpsO.nil ?_
    refine AW.regionO [] ?_
    refine s1 tok [1, 5, 9, 19] ?_
    refine s1 tok [1, 5, 9, 10] ?_
    refine AOpsO.nil ?_
    exact ⟨k + 1, by omega, by omega, upds_le (by simp [hx, List.take_add_one]), rfl, by simp [hx, List.take_add_one], by simp [hx, List.take_add_one]⟩
  · intro h11
    try simp at h11
    obtain rfl : k = ps.length := by omega
    have hjn := Join_ev (G := G) ps [44] (by omega) (by omega)
    try simp only [List.take_length]
    refine AW.exit ?_
    simp
    refine AW.seqRegionO [.nilp, .str (Lib.join ps [44])] ?_
    refine s1 tok [20] ?_
    refine s1 tok [21] ?_ (hv := by first | with_reducible exact True.intro | ((rw [List.take_of_length_le (by simp)]; exact hjn); done) | omega | simp | (simp; omega) | (simp +contextual; omega))
    refine s1 tok [4] ?_
    refine AOpsO.nil ?_
    exact AW.ret ⟨.inr rfl, _, _, by (conv => lhs; simp), trivial, by simp, by simp, by simp, by simp⟩
/-! ### What is printed -/
/-- Two figures at most. -/
def itoa2 (c : Int) : List UInt8 := if c < 10 then [UInt8.ofNat (48 + c.toNat)] else [UInt8.ofNat (48 + c.toNat / 10), UInt8.ofNat (48 + c.toNat % 10)]
def entT : List (List UInt8) → List (List UInt8) → List (List UInt8) := List.zipWith fun k p => quoteT k ++ [58] ++ p
mutual
def printT : Val → List UInt8
  | .mk k _ n t ks vs c => if k = 1 then wNull else if k = 2 then wFalse else if k = 3 then wTrue else if k = 4 then PrintM n else if k = 5 then quoteT t else if k = 8 then 33 :: itoa2 c else if k = 7 then [123] ++ Lib.join (entT ks (printTs vs)) [44] ++ [125] else [91] ++ Lib.join (printTs vs) [44] ++ [93]
def printTs : List Val → List (List UInt8)
  | [] => []
  | v :: vs => printT v :: printTs vs
end
theorem printTs_map : ∀ l, printTs l = l.map printT
  | [] => by simp only [printTs, List.map_nil]
  | v :: vs => by simp only [printTs, List.map_cons, printTs_map vs]
theorem printT_eq (v : Val) : printT v = if v.kind = 1 then wNull else if v.kind = 2 then wFalse else if v.kind = 3 then wTrue else if v.kind = 4 then PrintM v.num else if v.kind = 5 then quoteT v.text else if v.kind = 8 then 33 :: itoa2 v.code else if v.kind = 7 then [123] ++ Lib.join (entT v.keys (v.kids.map printT)) [44] ++ [125] else [91] ++ Lib.join (v.kids.map printT) [44] ++ [93] := by
  cases v; rw [printT, printTs_map]; rfl
theorem p2_ax (v x : Val) (i : Nat) (hx : v.kids[i]? = some x) (hp : AFn Tryz.prog G 8 [x.enc] (.str (printT x))) : AX Tryz.prog G 26 [.p (.int .i64 i), .ptr 2 0] [(2, .vars 31 v.cells)] (.p (.str (printT x))) [2] [(2, .vars 31 v.cells)] := by
  refine AX.introU tok 900 Tryz.func26 (by kernel_rfl) rfl rfl ?_
  simp only [Tryz.f26, enumA, List.map_cons, List.map_nil]
  simp only [Val.enc_def] at hp
  have hi := (List.getElem?_eq_some_iff.1 hx).1
  refine AW.seqRegionO [] ?_
  refine s1 tok [0, 1] ?_
  refine AOpsO.nil ?_
  refine AW.seqRegionO [x.enc, .nilp, .str (printT x)] ?_
  refine s1 tok [0, 4] ?_
  refine s1 tok [0, 5] ?_ (hv := by first | with_reducible exact True.intro | (first | exact hp | (simp [hx]; done) | (simp; omega); done) | omega | simp | (simp; omega) | (simp +contextual; omega))
  refine s1 tok [5, 6] ?_
  refine s1 tok [7] ?_ (hv := by first | with_reducible exact True.intro | (first | exact hp | (simp [hx]; done) | (simp; omega); done) | omega | simp | (simp; omega) | (simp +contextual; omega))
  refine s1 tok [8] ?_ (hv := by first | with_reducible exact True.intro | (first | exact hp | (simp [hx]; done) | (simp; omega); done) | omega | simp | (simp; omega) | (simp +contextual; omega))
  refine s1 tok [9] ?_ (hv := by first | with_reducible exact True.intro | (first | exact hp | (simp [hx]; done) | (simp; omega); done) | omega | simp | (simp; omega) | (simp +contextual; omega))
  refine s1 tok [3] ?_
  refine AOpsO.nil ?_
  exact AW.ret ⟨.inr rfl, _, _, by (conv => lhs; simp), trivial, by simp, by simp, by simp, by simp⟩
theorem p1_ax (v x : Val) (key : List UInt8) (i : Nat) (hb : (quoteT key).length + (printT x).length ≤ 100000000000) (hk : v.keys[i]? = some key) (hx : v.kids[i]? = some x) (hq : AFn Tryz.prog G 22 [.str key] (.str (quoteT key))) (hp : AFn Tryz.prog G 8 [x.enc] (.str (printT x))) : AX Tryz.prog G 25 [.p (.int .i64 i), .ptr 2 0] [(2, .vars 31 v.cells)] (.p (.str (quoteT key ++ [58] ++ printT x))) [2] [(2, .vars 31 v.cells)] := by
  refine AX.introU tok 900 Tryz.func25 (by kernel_rfl) rfl rfl ?_
  simp only [Tryz.f25, enumA, List.map_cons, List.map_nil]
  simp only [Val.enc_def] at hp
  have hi := (List.getElem?_eq_some_iff.1 hx).1
  have hi2 := (List.getElem?_eq_some_iff.1 hk).1
  refine AW.seqRegionO [] ?_
  refine s1 tok [0, 1] ?_
  refine AOpsO.nil ?_
  refine AW.seqDrawS tok mixed 14 [[1], [4], [0], [5, 6], [7], [8], [9], [1], [11], [0], [12, 13], [14], [15], [10, 16]] [.str key, .nilp, .str (quoteT key), x.enc, .nilp, .str (printT x)] [] (by kernel_rfl) ?_
  refine d1 ?_
  refine d1 ?_ (hv := by first | with_reducible exact True.intro | (first | exact hp | exact hq | (simp [hx]; done) | (simp [hk]; done) | (simp; omega); done) | omega | simp | (simp; omega) | (simp +contextual; omega))
  refine d1 ?_
  refine d1 ?_ (hv := by first | with_reducible exact True.intro | (first | exact hp | exact hq | (simp [hx]; done) | (simp [hk]; done) | (simp; omega); done) | omega | simp | (simp; omega) | (simp +contextual; omega))
  refine d1 ?_ (hv := by first | with_reducible exact True.intro | (first | exact hp | exact hq | (simp [hx]; done) | (simp [hk]; done) | (simp; omega); done) | omega | simp | (simp; omega) | (simp +contextual; omega))
  refine d1 ?_ (hv := by first | with_reducible exact True.intro | (first | exact hp | exact hq | (simp [hx]; done) | (simp [hk]; done) | (simp; omega); done) | omega | simp | (simp; omega) | (simp +contextual; omega))
  refine d1 ?_ (hv := by first | with_reducible exact True.intro | (first | exact hp | exact hq | (simp [hx]; done) | (simp [hk]; done) | (simp; omega); done) | omega | simp | (simp; omega) | (simp +contextual; omega))
  refine d1 ?_
  refine d1 ?_ (hv := by first | with_reducible exact True.intro | (first | exact hp | exact hq | (simp [hx]; done) | (simp [hk]; done) | (simp; omega); done) | omega | simp | (simp; omega) | (simp +contextual; omega))
  refine d1 ?_
  refine d1 ?_ (hv := by first | with_reducible exact True.intro | (first | exact hp | exact hq | (simp [hx]; done) | (simp [hk]; done) | (simp; omega); done) | omega | simp | (simp; omega) | (simp +contextual; omega))
  refine d1 ?_ (hv := by first | with_reducible exact True.intro | (first | exact hp | exact hq | (simp [hx]; done) | (simp [hk]; done) | (simp; omega); done) | omega | simp | (simp; omega) | (simp +contextual; omega))
  refine d1 ?_ (hv := by first | with_reducible exact True.intro | (first | exact hp | exact hq | (simp [hx]; done) | (simp [hk]; done) | (simp; omega); done) | omega | simp | (simp; omega) | (simp +contextual; omega))
  refine d1 ?_ (hv := by first | with_reducible exact True.intro | (first | exact hp | exact hq | (simp [hx]; done) | (simp [hk]; done) | (simp; omega); done) | omega | simp | (simp; omega) | (simp +contextual; omega))
  refine DGo.nil (by kernel_rfl) ⟨by kernel_rfl, ?_⟩
  refine s1 tok [3] ?_
  refine AOpsO.nil ?_
  exact AW.ret ⟨.inr rfl, _, _, by (conv => lhs; simp), trivial, by simp, by simp, by simp, by simp⟩
theorem join_cons2 (x y : List UInt8) (r : List (List UInt8)) (sep : List UInt8) : Lib.join (x :: y :: r) sep = x ++ sep ++ Lib.join (y :: r) sep := by
  simp [Lib.join, List.intercalate, List.intersperse]
theorem join_mem {s : List UInt8} {sep : List UInt8} : ∀ {l : List (List UInt8)}, s ∈ l → s.length ≤ (Lib.join l sep).length
  | [], h => by cases h
  | [x], h => by rw [List.mem_singleton.1 h, Lib.join_one]; exact Nat.le_refl _
  | x :: y :: r, h => by
    rw [join_cons2]
    rcases List.mem_cons.1 h with h | h
    · subst h; simp only [List.length_append]; omega
    · have := join_mem (sep := sep) h; simp only [List.length_append]; omega
theorem entT_get {ks ps : List (List UInt8)} {i : Nat} {k p : List UInt8} (h1 : ks[i]? = some k) (h2 : ps[i]? = some p) : (entT ks ps)[i]? = some (quoteT k ++ [58] ++ p) := by
  simp [entT, List.getElem?_zipWith, h1, h2]
theorem print_step (v : Val) (hq8 : v.kind = 8 → AFn Tryz.prog G 23 [.int .i64 v.code] (.str (itoa2 v.code)) ∧ -9223372036854775808 ≤ v.code ∧ v.code ≤ 9223372036854775807) (hq4 : v.kind = 4 → AFn Tryz.prog G 21 [v.num.enc] (.str (PrintM v.num))) (hq5 : v.kind = 5 → AFn Tryz.prog G 22 [.str v.text] (.str (quoteT v.text))) (hq7 : v.kind = 7 → v.keys.length = v.kids.length ∧ ∀ key ∈ v.keys, AFn Tryz.prog G 22 [.str key] (.str (quoteT key))) (hn : v.kids.length ≤ 1000000) (hb : (printT v).length ≤ 1000000000) (ih : ∀ k ∈ v.kids, AFn Tryz.prog G 8 [k.enc] (.str (printT k))) : AFn Tryz.prog G 8 [v.enc] (.str (printT v)) := by
  refine AFn.introU tok Tryz.func8 (by kernel_rfl) rfl rfl ?_
  simp only [Tryz.f8, enumA, List.map_cons, List.map_nil]
  rw [printT_eq v] at hb ⊢
  simp only [Dc.enc] at hq4
  refine AW.seqRegionO [] ?_
  refine s1 tok [1] ?_
  refine s1 tok [1] ?_
  refine AOpsO.nil ?_
  refine AW.seq ?_
  refine AW.seqRegionO [] ?_
  refine s1 tok [1, 3] ?_
  refine s1 tok [1, 4] ?_
  refine AOpsO.nil ?_
  refine AW.block ?_
  refine AW.seqRegionO [] ?_
  refine s1 tok [1, 4, 6] ?_
  refine s1 tok [1, 4, 5] ?_
  refine AOpsO.nil ?_
  refine AW.cond (c := .tmp 5) (by conv => lhs; simp) trivial ?_ ?_
  · intro h5
    try simp at h5
    rw [if_pos h5]
    refine AW.seqRegionO [] ?_
    refine s1 tok [2] ?_
    refine AOpsO.nil ?_
    exact AW.ret ⟨.inr rfl, _, _, by (conv => lhs; simp), trivial, by simp [wNull]⟩
  · intro h5
    try simp at h5
    rw [if_neg h5] at hb ⊢
    refine AW.seqRegionO [] ?_
    refine s1 tok [1, 4, 8] ?_
    refine s1 tok [1, 4, 7] ?_
    refine AOpsO.nil ?_
    refine AW.cond (c := .tmp 7) (by conv => lhs; simp) trivial ?_ ?_
    · intro h7
      try simp at h7
      rw [if_pos h7]
      refine AW.seqRegionO [] ?_
      refine s1 tok [2] ?_
      refine AOpsO.nil ?_
      exact AW.ret ⟨.inr rfl, _, _, by (conv => lhs; simp), trivial, by simp [wFalse]⟩
    · intro h7
      try simp at h7
      rw [if_neg h7] at hb ⊢
      refine AW.seqRegionO [] ?_
      refine s1 tok [1, 4, 10] ?_
      refine s1 tok [1, 4, 9] ?_
      refine AOpsO.nil ?_
      refine AW.cond (c := .tmp 9) (by conv => lhs; simp) trivial ?_ ?_
      · intro h9
        try simp at h9
        rw [if_pos h9]
        refine AW.seqRegionO [] ?_
        refine s1 tok [2] ?_
        refine AOpsO.nil ?_
        exact AW.ret ⟨.inr rfl, _, _, by (conv => lhs; simp), trivial, by simp [wTrue]⟩
      · intro h9
        try simp at h9
        rw [if_neg h9] at hb ⊢
        refine AW.seqRegionO [] ?_
        refine s1 tok [1, 4, 12] ?_
        refine s1 tok [1, 4, 11] ?_
        refine AOpsO.nil ?_
        refine AW.cond (c := .tmp 11) (by conv => lhs; simp) trivial ?_ ?_
        · intro h11
          try simp at h11
          rw [if_pos h11]
          have h4 := hq4 h11
          refine AW.seqRegionO [.nilp, .str (PrintM v.num)] ?_
          refine s1 tok [13] ?_
          refine s1 tok [14] ?_ (hv := by first | with_reducible exact True.intro | (exact h4; done) | omega | simp | (simp; omega) | (simp +contextual; omega))
          refine s1 tok [15] ?_ (hv := by first | with_reducible exact True.intro | (exact h4; done) | omega | simp | (simp; omega) | (simp +contextual; omega))
          refine s1 tok [2] ?_
          refine AOpsO.nil ?_
          exact AW.ret ⟨.inr rfl, _, _, by (conv => lhs; simp), trivial, by simp⟩
        · intro h11
          try simp at h11
          rw [if_neg h11] at hb ⊢
          refine AW.seqRegionO [] ?_
          refine s1 tok [1, 4, 17] ?_
          refine s1 tok [1, 4, 16] ?_
          refine AOpsO.nil ?_
          refine AW.cond (c := .tmp 16) (by conv => lhs; simp) trivial ?_ ?_
          · intro h16
            try simp at h16
            rw [if_pos h16]
            have h5q := hq5 h16
            refine AW.seqRegionO [.nilp, .str (quoteT v.text)] ?_
            refine s1 tok [18] ?_
            refine s1 tok [19] ?_ (hv := by first | with_reducible exact True.intro | (exact h5q; done) | omega | simp | (simp; omega) | (simp +contextual; omega))
            refine s1 tok [20] ?_ (hv := by first | with_reducible exact True.intro | (exact h5q; done) | omega | simp | (simp; omega) | (simp +contextual; omega))
            refine s1 tok [2] ?_
            refine AOpsO.nil ?_
            exact AW.ret ⟨.inr rfl, _, _, by (conv => lhs; simp), trivial, by simp⟩
          · intro h16
            try simp at h16
            rw [if_neg h16] at hb ⊢
            refine AW.seqRegionO [] ?_
            refine s1 tok [1, 4, 22] ?_
            refine s1 tok [1, 4, 21] ?_
            refine AOpsO.nil ?_
            refine AW.cond (c := .tmp 21) (by conv => lhs; simp) trivial ?_ ?_
            · intro h21
              try simp at h21
              rw [if_pos h21] at hb ⊢
              obtain ⟨h8, h8a, h8b⟩ := hq8 h21
              have hil : (itoa2 v.code).length ≤ 2 := by unfold itoa2; split <;> simp
              refine AW.seqRegionO [.nilp, .str (itoa2 v.code)] ?_
              refine s1 tok [23] ?_
              refine s1 tok [24] ?_ (hv := by first | with_reducible exact True.intro | (first | exact h8 | omega | (simp; omega); done) | omega | simp | (simp; omega) | (simp +contextual; omega))
              refine s1 tok [25] ?_ (hv := by first | with_reducible exact True.intro | (first | exact h8 | omega | (simp; omega); done) | omega | simp | (simp; omega) | (simp +contextual; omega))
              refine s1 tok [26] ?_ (hv := by first | with_reducible exact True.intro | (first | exact h8 | omega | (simp; omega); done) | omega | simp | (simp; omega) | (simp +contextual; omega))
              refine s1 tok [2] ?_
              refine AOpsO.nil ?_
              exact AW.ret ⟨.inr rfl, _, _, by (conv => lhs; simp), trivial, by simp⟩
            · intro h21
              try simp at h21
              rw [if_neg h21] at hb ⊢
              refine AW.seqRegionO [] ?_
              refine s1 tok [1, 28] ?_
              refine s1 tok [1, 27] ?_
              refine AOpsO.nil ?_
              refine AW.cond (c := .tmp 27) (by conv => lhs; simp) trivial ?_ ?_
              · intro h27
                try simp at h27
                rw [if_pos h27] at hb ⊢
                obtain ⟨hkl, hqk⟩ := hq7 h27
                have hel : (entT v.keys (v.kids.map printT)).length = v.kids.length := by simp [entT, hkl]
                have hJ := joined_ax (G := G) 25 v (entT v.keys (v.kids.map printT)) hel (by omega) (by simp only [List.length_append] at hb; omega) (fun i s hs => by
                  have hi := (List.getElem?_eq_some_iff.1 hs).1
                  have hk : v.keys[i]? = some (v.keys[i]'(by omega)) := by simp
                  have hx : v.kids[i]? = some (v.kids[i]'(by omega)) := by simp
                  have hg := entT_get (ks := v.keys) (ps := v.kids.map printT) hk (by rw [List.getElem?_map, hx]; rfl)
                  rw [hs] at hg
                  cases hg
                  have hm := join_mem (sep := [44]) (List.mem_of_getElem? hs)
                  exact p1_ax v _ _ i (by simp only [List.length_append] at hb hm; omega) hk hx (hqk _ (List.getElem_mem _)) (ih _ (List.getElem_mem _)))
                have hjl : (Lib.join (entT v.keys (v.kids.map printT)) [44]).length ≤ 1000000000 := by simp only [List.length_append] at hb; omega
                refine AW.renE 1 2 (by simp) (by conv => lhs; simp) ?_
                refine AW.seqRegionO [] ?_
                refine s1 tok [1, 29] ?_ (hv := by first | with_reducible exact True.intro | (first | omega | (simp; omega); done) | omega | simp | (simp; omega) | (simp +contextual; omega))
                refine s1 tok [29, 30] ?_ (hv := by first | with_reducible exact True.intro | (first | omega | (simp; omega); done) | omega | simp | (simp; omega) | (simp +contextual; omega))
                refine AOpsO.stepK [31] (y_cx rfl hJ (by simp)) (by conv => lhs; simp) rfl ?_
                refine s1 tok [32] ?_ (hv := by first | with_reducible exact True.intro | (first | omega | (simp; omega); done) | omega | simp | (simp; omega) | (simp +contextual; omega))
                refine s1 tok [33] ?_ (hv := by first | with_reducible exact True.intro | (first | omega | (simp; omega); done) | omega | simp | (simp; omega) | (simp +contextual; omega))
                refine s1 tok [2] ?_
                refine AOpsO.nil ?_
                exact AW.ret ⟨.inr rfl, _, _, by (conv => lhs; simp), trivial, by simp⟩
              · intro h27
                try simp at h27
                rw [if_neg h27] at hb ⊢
                have hJ := joined_ax (G := G) 26 v (v.kids.map printT) (by simp) (by simpa using hn) (by simp only [List.length_append] at hb; omega) (fun i s hs => by
                  rw [List.getElem?_map, Option.map_eq_some_iff] at hs
                  obtain ⟨x, hx, rfl⟩ := hs
                  exact p2_ax v x i hx (ih x (List.mem_of_getElem? hx)))
                have hjl : (Lib.join (v.kids.map printT) [44]).length ≤ 1000000000 := by simp only [List.length_append] at hb; omega
                refine AW.skip ?_
                refine AW.renE 1 2 (by simp) (by conv => lhs; simp) ?_
                refine AW.seqRegionO [] ?_
                refine s1 tok [1, 34] ?_ (hv := by first | with_reducible exact True.intro | (first | omega | (simp; omega); done) | omega | simp | (simp; omega) | (simp +contextual; omega))
                refine s1 tok [34, 35] ?_ (hv := by first | with_reducible exact True.intro | (first | omega | (simp; omega); done) | omega | simp | (simp; omega) | (simp +contextual; omega))
                refine AOpsO.stepK [36] (y_cx rfl hJ (by simp)) (by conv => lhs; simp) rfl ?_
                refine s1 tok [37] ?_ (hv := by first | with_reducible exact True.intro | (first | omega | (simp; omega); done) | omega | simp | (simp; omega) | (simp +contextual; omega))
                refine s1 tok [38] ?_ (hv := by first | with_reducible exact True.intro | (first | omega | (simp; omega); done) | omega | simp | (simp; omega) | (simp +contextual; omega))
                refine s1 tok [2] ?_
                refine AOpsO.nil ?_
                exact AW.ret ⟨.inr rfl, _, _, by (conv => lhs; simp), trivial, by simp⟩
end Go.Proofs.YtdlejiiiifhiiaaGreatDoor
