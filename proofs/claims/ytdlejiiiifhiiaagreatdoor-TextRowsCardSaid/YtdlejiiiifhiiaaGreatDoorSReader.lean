import Derived.Test.YtdlejiiiifhiiaaGreatDoorK2
import Derived.Test.YtdlejiiiifhiiaaGreatDoorSQuote
import Derived.Test.YtdlejiiiifhiiaaGreatDoorSTextL
namespace Go.Proofs.YtdlejiiiifhiiaaGreatDoor
open Sy Go
set_option maxRecDepth 100000
set_option maxHeartbeats 4000000
set_option linter.unusedSimpArgs false
set_option linter.unusedVariables false
variable {G : Glob}
/-- A reader's fields. -/
@[simp] def rdC (st : RS) : List V := [.p (.str st.left), .p (.int .i64 st.nodes), .p (.bool st.bad), .p (.bool st.deep), .p (.bool st.big)]
theorem trim_eq (s : List UInt8) : trimL (asF [32, 9, 10, 13]) s = trimB s := by
  unfold trimL trimB
  congr 1
  funext b
  have key : ∀ k : Fin 256, asF [32, 9, 10, 13] k.val = isBl (UInt8.ofNat k.val) := by decide +kernel
  have := key ⟨b.toNat, b.toNat_lt⟩
  simpa using this
def numS : List UInt8 := [48, 49, 50, 51, 52, 53, 54, 55, 56, 57, 45, 43, 46, 101, 69]
theorem numl_eq (s : List UInt8) : trimL (asF numS) s = s.dropWhile numl := by
  unfold trimL
  congr 1
  funext b
  have key : ∀ k : Fin 256, asF numS k.val = numl (UInt8.ofNat k.val) := by decide +kernel
  have := key ⟨b.toNat, b.toNat_lt⟩
  simpa using this
theorem hasPre_pre (s w : List UInt8) : hasPre s w = w.isPrefixOf s := by
  rw [Bool.eq_iff_iff]
  simp only [hasPre, Bool.and_eq_true, decide_eq_true_eq, List.isPrefixOf_iff_prefix]
  constructor
  · rintro ⟨h1, h2⟩; exact ⟨s.drop w.length, by have := List.take_append_drop w.length s; rw [h2] at this; exact this⟩
  · rintro ⟨t, rfl⟩; simp
theorem trim_ax (st : RS) : AX Tryz.prog G 67 [.ptr 2 0] [(2, .vars 59 (rdC st))] (.tuple []) [2] [(2, .vars 59 (rdC { st with left := trimB st.left }))] := by
  refine AX.introU tok 900 Tryz.func67 (by kernel_rfl) rfl rfl ?_
  simp only [Tryz.f67, enumA, List.map_cons, List.map_nil]
  have ht := TrimLeft_ev (G := G) st.left [32, 9, 10, 13] (by simp) (by decide)
  rw [trim_eq] at ht
  refine AW.regionO [.nilp, .str (trimB st.left)] ?_
  refine s1 tok [0, 2] ?_
  refine s1 tok [2, 3] ?_
  refine s1 tok [2, 4] ?_ (hv := by first | with_reducible exact True.intro | (exact ht; done) | omega | simp | (simp; omega) | (simp +contextual; omega))
  refine s1 tok [2, 5] ?_
  refine s1 tok [2, 6] ?_ (hv := by first | with_reducible exact True.intro | (exact ht; done) | omega | simp | (simp; omega) | (simp +contextual; omega))
  refine s1 tok [2, 7] ?_ (hv := by first | with_reducible exact True.intro | (exact ht; done) | omega | simp | (simp; omega) | (simp +contextual; omega))
  refine s1 tok [7, 8] ?_ (hv := by first | with_reducible exact True.intro | (exact ht; done) | omega | simp | (simp; omega) | (simp +contextual; omega))
  refine s1 tok [7, 9] ?_
  refine s1 tok [] ?_ (hv := by first | with_reducible exact True.intro | (exact ht; done) | omega | simp | (simp; omega) | (simp +contextual; omega))
  refine AOpsO.nil ?_
  exact ⟨.inl rfl, _, _, by (conv => lhs; simp), trivial, by simp, by simp, by simp, by simp⟩
theorem takes_ax (st : RS) (w : List UInt8) : AX Tryz.prog G 44 [.ptr 2 0, .p (.str w)] [(2, .vars 59 (rdC st))] (.p (.bool (tk w st).1)) [2] [(2, .vars 59 (rdC (tk w st).2))] := by
  refine AX.introU tok 900 Tryz.func44 (by kernel_rfl) rfl rfl ?_
  simp only [Tryz.f44, enumA, List.map_cons, List.map_nil]
  have hc := CutPrefix_ev (G := G) (trimB st.left) w
  rw [hasPre_pre] at hc
  have ht : tk w st = if w.isPrefixOf (trimB st.left) then (true, { st with left := (trimB st.left).drop w.length }) else (false, { st with left := trimB st.left }) := rfl
  rw [ht]
  have hcp : cutPre (trimB st.left) w = if w.isPrefixOf (trimB st.left) then (trimB st.left).drop w.length else trimB st.left := by unfold cutPre; rw [hasPre_pre]
  generalize hb : w.isPrefixOf (trimB st.left) = b at *
  refine AW.seqRegionO [] ?_
  refine s1 tok [0, 1] ?_
  refine AOpsO.nil ?_
  refine AW.seqRegionO [] ?_
  refine s1 tok [0, 1, 7] ?_
  refine AOpsO.stepK [0, 1] (y_cx rfl (trim_ax st) (by simp)) (by conv => lhs; simp) rfl ?_
  refine AOpsO.nil ?_
  refine AW.seqRegionO [.nilp, .tup [.str (cutPre (trimB st.left) w), .bool b]] ?_
  refine s1 tok [0, 1, 10] ?_
  refine s1 tok [0, 1, 11] ?_ (hv := by first | with_reducible exact True.intro | (exact hc; done) | omega | simp | (simp; omega) | (simp +contextual; omega))
  refine s1 tok [0, 1, 12] ?_
  refine s1 tok [0, 1, 13] ?_ (hv := by first | with_reducible exact True.intro | (exact hc; done) | omega | simp | (simp; omega) | (simp +contextual; omega))
  refine s1 tok [0, 13, 14] ?_
  refine s1 tok [0, 15] ?_ (hv := by first | with_reducible exact True.intro | (exact hc; done) | omega | simp | (simp; omega) | (simp +contextual; omega))
  refine s1 tok [0, 9] ?_
  refine s1 tok [0, 9, 16] ?_
  refine s1 tok [0, 16, 17] ?_
  refine s1 tok [0, 5, 17] ?_
  refine s1 tok [0, 5, 6] ?_
  refine AOpsO.nil ?_
  refine AW.seq ?_
  refine AW.seqRegionO [] ?_
  refine s1 tok [0, 5, 6, 18] ?_
  refine AOpsO.nil ?_
  refine AW.cond (c := .tmp 18) (by conv => lhs; simp) trivial ?_ ?_
  · intro h18
    try simp at h18
    subst h18
    simp only [if_true] at hcp ⊢
    rw [← hcp]
    refine AW.regionO [] ?_
    refine s1 tok [5, 6, 19] ?_
    refine s1 tok [6, 19, 20] ?_
    refine s1 tok [6, 20, 21] ?_ (hv := by first | with_reducible exact True.intro | ((simp [hcp]); done) | omega | simp | (simp; omega) | (simp +contextual; omega))
    refine s1 tok [6, 20, 22] ?_
    refine s1 tok [6] ?_ (hv := by first | with_reducible exact True.intro | ((simp [hcp]); done) | omega | simp | (simp; omega) | (simp +contextual; omega))
    refine AOpsO.nil ?_
    refine AW.seqRegionO [] ?_
    refine s1 tok [23] ?_
    refine s1 tok [4] ?_
    refine AOpsO.nil ?_
    exact AW.ret ⟨.inr rfl, _, _, by (conv => lhs; simp), trivial, by simp, by simp, by simp, by simp⟩
  · intro h18
    try simp at h18
    subst h18
    refine AW.skip ?_
    refine AW.seqRegionO [] ?_
    refine s1 tok [23] ?_
    refine s1 tok [4] ?_
    refine AOpsO.nil ?_
    exact AW.ret ⟨.inr rfl, _, _, by (conv => lhs; simp), trivial, by simp, by simp, by simp, by simp⟩
theorem skipG_le : ∀ l : List UInt8, skipG l ≤ l.length
  | [] => Nat.le_refl _
  | [b] => by simp only [skipG]; split <;> (try split) <;> simp
  | b :: c :: u => by
    have h1 := skipG_le u
    have h2 := skipG_le (c :: u)
    simp only [skipG, List.length_cons] at h2 ⊢
    split
    · omega
    · split
      · omega
      · omega
theorem skipL_le (l : List UInt8) : skipL l ≤ l.length := by
  unfold skipL
  split
  · omega
  · rename_i h
    have h1 := skipG_le (l.drop 1)
    have h2 := List.length_pos_iff.2 h
    rw [List.length_drop] at h1; omega
theorem skipG_q (t : List UInt8) : skipG (34 :: t) = 1 := by unfold skipG; simp
theorem skipG_e : skipG [92] = 1 := by unfold skipG; simp
theorem skipG_b (d : UInt8) (u : List UInt8) : skipG (92 :: d :: u) = 2 + skipG u := by rw [skipG]; simp
theorem skipG_o {c : UInt8} (h1 : c ≠ 34) (h2 : c ≠ 92) (t : List UInt8) : skipG (c :: t) = 1 + skipG t := by
  cases t <;> (rw [skipG]; simp [h1, h2, skipG])
/-- What is still to be told at place 'i'. -/
def skipAt (s : List UInt8) (i : Nat) : Nat := if i ≤ s.length then i + skipG (s.drop i) else s.length
theorem skipAt_step {s : List UInt8} {i : Nat} {c : UInt8} (h : s[i]? = some c) : skipAt s i = if c = 34 then i + 1 else if c = 92 then skipAt s (i + 2) else skipAt s (i + 1) := by
  have hi := (List.getElem?_eq_some_iff.1 h).1
  have hd : s.drop i = c :: s.drop (i + 1) := by
    rw [List.drop_eq_getElem_cons hi]; congr 1
    have := List.getElem?_eq_getElem hi
    rw [h] at this; exact (Option.some.inj this).symm
  unfold skipAt
  rw [if_pos (by omega), hd]
  by_cases h1 : c = 34
  · rw [if_pos h1, h1, skipG_q]
  · rw [if_neg h1]
    by_cases h2 : c = 92
    · rw [if_pos h2]
      by_cases h3 : i + 2 ≤ s.length
      · obtain ⟨d, u, hu⟩ : ∃ d u, s.drop (i + 1) = d :: u := by
          cases h4 : s.drop (i + 1) with
          | nil => have := congrArg List.length h4; simp at this; omega
          | cons d u => exact ⟨d, u, rfl⟩
        have hu2 : s.drop (i + 2) = u := by rw [show i + 2 = (i + 1) + 1 by omega, ← List.drop_drop, hu]; rfl
        rw [if_pos h3, hu2, hu, h2, skipG_b]; omega
      · have hu : s.drop (i + 1) = [] := List.drop_of_length_le (by omega)
        rw [if_neg h3, hu, h2, skipG_e]
        have : s.length = i + 1 := by have := congrArg List.length hu; simp at this; omega
        omega
    · rw [if_neg h2, if_pos (by omega), skipG_o h1 h2]; omega
theorem skip_first (s : List UInt8) : skipL s = skipAt s 1 := by
  unfold skipL skipAt
  split
  · rename_i h; subst h; rfl
  · rename_i h; have := List.length_pos_iff.2 h; rw [if_pos (by omega)]
theorem skipped_ev (s : List UInt8) (hs : s.length ≤ 1000000000000) : AFn Tryz.prog G 75 [.str s] (.int .i64 (skipL s)) := by
  refine AFn.introU tok Tryz.func75 (by kernel_rfl) rfl rfl ?_
  simp only [Tryz.f75, enumA, List.map_cons, List.map_nil]
  refine AW.seqRegionO [] ?_
  refine s1 tok [0] ?_
  refine AOpsO.nil ?_
  refine AW.seq ?_
  refine AW.seqRegionO [] ?_
  refine s1 tok [0, 3] ?_
  refine AOpsO.nil ?_
  refine AW.block ?_
  refine AW.loop (α := Nat) (fun i => skipL s = skipAt s i ∧ i ≤ s.length + 2) (fun i => ⟨upds 23 [(0, .p (.str s)), (3, .p (.int .i64 i))], [], [], 0⟩) (fun i => s.length + 2 - i) (1) ⟨skip_first s, by omega⟩ ⟨upds_le (by simp), rfl, by simp, by simp⟩ ?_
  rintro i ⟨hi, hil⟩
  rw [hi]
  refine AW.seq ?_
  refine AW.seqRegionO [] ?_
  refine s1 tok [0, 3, 4] ?_
  refine s1 tok [0, 3, 4, 5] ?_
  refine s1 tok [0, 3, 4, 6] ?_
  refine s1 tok [0, 3, 7] ?_
  refine AOpsO.nil ?_
  refine AW.cond (c := .tmp 7) (by conv => lhs; simp) trivial ?_ ?_
  · intro h7
    try simp at h7
    obtain ⟨c, hc⟩ : ∃ c, s[i]? = some c := ⟨s[i], by simp [show i < s.length by omega]⟩
    have hst := skipAt_step hc
    rw [hst]
    have hcl := c.toNat_lt
    refine AW.skip ?_
    refine AW.seq ?_
    refine AW.block ?_
    refine AW.seqRegionO [.int .u8 c.toNat] ?_
    refine s1 tok [0, 3, 10] ?_
    refine s1 tok [0, 3, 10, 11] ?_
    refine s1 tok [0, 3, 12] ?_ (hv := by first | with_reducible exact True.intro | (first | exact ⟨by omega, _, hc, rfl⟩ | simp [hc]; done) | omega | simp | (simp; omega) | (simp +contextual; omega))
    refine AOpsO.nil ?_
    refine AW.block ?_
    refine AW.seqRegionO [] ?_
    refine s1 tok [0, 3, 12, 14] ?_
    refine s1 tok [0, 3, 12, 13] ?_
    refine AOpsO.nil ?_
    refine AW.cond (c := .tmp 13) (by conv => lhs; simp) trivial ?_ ?_
    · intro h13
      try simp at h13
      rw [if_pos (show c = 34 from UInt8.toNat_inj.1 (by show c.toNat = 34; omega))]
      refine AW.seqRegionO [] ?_
      refine s1 tok [15] ?_
      refine s1 tok [16] ?_
      refine s1 tok [2] ?_
      refine AOpsO.nil ?_
      exact AW.ret ⟨.inr rfl, _, _, by (conv => lhs; simp), trivial, by simp⟩
    · intro h13
      try simp at h13
      rw [if_neg (show ¬ c = 34 by rintro rfl; exact h13 rfl)]
      rw [if_neg (show ¬ c = 34 by rintro rfl; exact h13 rfl)] at hst
      refine AW.seqRegionO [] ?_
      refine s1 tok [0, 3, 18] ?_
      refine s1 tok [0, 3, 17] ?_
      refine AOpsO.nil ?_
      refine AW.cond (c := .tmp 17) (by conv => lhs; simp) trivial ?_ ?_
      · intro h17
        try simp at h17
        rw [if_pos (show c = 92 from UInt8.toNat_inj.1 (by show c.toNat = 92; omega))]
        rw [if_pos (show c = 92 from UInt8.toNat_inj.1 (by show c.toNat = 92; omega))] at hst
        refine AW.regionO [] ?_
        refine s1 tok [0, 19] ?_
        refine s1 tok [0, 20] ?_
        refine s1 tok [0, 3] ?_
        refine AOpsO.nil ?_
        refine AW.regionO [] ?_
        refine s1 tok [0, 8] ?_
        refine s1 tok [0, 9] ?_
        refine s1 tok [0, 3] ?_
        refine AOpsO.nil ?_
        exact ⟨i + 2, ⟨rfl, by omega⟩, by omega, upds_le (by simp [(show (i : Int) + 1 + 1 = i + 2 by omega)]), rfl, by simp [(show (i : Int) + 1 + 1 = i + 2 by omega)], by simp [(show (i : Int) + 1 + 1 = i + 2 by omega)]⟩
      · intro h17
        try simp at h17
        rw [if_neg (show ¬ c = 92 by rintro rfl; exact h17 rfl)]
        rw [if_neg (show ¬ c = 92 by rintro rfl; exact h17 rfl)] at hst
        refine AW.skip ?_
        refine AW.regionO [] ?_
        refine s1 tok [0, 8] ?_
        refine s1 tok [0, 9] ?_
        refine s1 tok [0, 3] ?_
        refine AOpsO.nil ?_
        exact ⟨i + 1, ⟨rfl, by omega⟩, by omega, upds_le (by simp), rfl, by simp, by simp⟩
  · intro h7
    try simp at h7
    have hend : skipAt s i = s.length := by
      unfold skipAt; split
      · rw [show i = s.length by omega]; simp [skipG]
      · rfl
    refine AW.exit ?_
    simp
    refine AW.seqRegionO [] ?_
    refine s1 tok [21] ?_
    refine s1 tok [22] ?_
    refine s1 tok [2] ?_
    refine AOpsO.nil ?_
    exact AW.ret ⟨.inr rfl, _, _, by (conv => lhs; simp), trivial, by simp [hend]⟩
theorem unitL_len {s : List UInt8} (h : (unitL s).isSome = true) : 6 ≤ s.length := by
  unfold unitL at h
  split at h
  · cases h
  · omega
theorem escG_len {s : List UInt8} (h : (escG s).2.2 = true) : (escG s).2.1 ≤ s.length := by
  match s with
  | [] => simp [escG] at h
  | [a] => simp [escG] at h
  | a :: c :: t =>
    have h1 := unitL_len (s := a :: c :: t)
    have h2 := unitL_len (s := (a :: c :: t).drop 6)
    unfold escG at h ⊢
    cases hv : escT c with
    | some v => simp only [hv]; simp
    | none =>
      simp only [hv] at h ⊢
      unfold escU at h ⊢
      generalize unitL (a :: c :: t) = A at *
      generalize unitL ((a :: c :: t).drop 6) = B at *
      split at h
      · rename_i hc
        rw [if_pos hc]
        simp only [Bool.and_eq_true] at h
        exact h1 h.1
      · rename_i hc
        rw [if_neg hc]
        simp only [Bool.and_eq_true] at h
        have := h2 h.1
        rw [List.length_drop] at this
        simp only; omega
theorem unq_props : ∀ (f : Nat) (s : List UInt8) (k : Nat) (out : List UInt8), ((unqG f s k out).2.2 = 0 ∧ (unqG f s k out).2.1 ≤ k + s.length) ∨ (((unqG f s k out).2.2 = 3 ∨ (unqG f s k out).2.2 = 6) ∧ (unqG f s k out).2.1 = 0)
  | 0, s, k, out => .inr (by simp [unqG])
  | f + 1, s, k, out => by
    simp only [unqG]
    split
    · exact .inr (by simp)
    · rename_i hne
      split
      · split
        · exact .inr (by simp)
        · exact .inl ⟨rfl, by have := List.length_pos_iff.2 hne; simp only; omega⟩
      · split
        · exact .inr (by simp)
        · split
          · cases he : escL s with
            | none => exact .inr (by simp)
            | some cn =>
              obtain ⟨c, n⟩ := cn
              simp only
              have hn : n ≤ s.length := by
                unfold escL at he
                split at he
                · rename_i h; cases he; exact escG_len h
                · cases he
              have := unq_props f (s.drop n) (k + n) (out ++ Lib.encodeRune c)
              rw [List.length_drop] at this
              omega
          · have hn := Lib.decodeL_le s hne
            have := unq_props f (s.drop (Lib.decodeL s).2) (k + (Lib.decodeL s).2) (out ++ Lib.encodeRune (Lib.decodeL s).1)
            rw [List.length_drop] at this
            omega
theorem unquote_props (s : List UInt8) : ((unquoteT s).2.2 = 0 ∧ (unquoteT s).2.1 ≤ s.length) ∨ (((unquoteT s).2.2 = 3 ∨ (unquoteT s).2.2 = 6) ∧ (unquoteT s).2.1 = 0) := by
  unfold unquoteT
  split
  · rename_i h
    have := unq_props s.length (s.drop 1) 1 []
    rw [List.length_drop] at this
    have : 1 ≤ s.length := by cases s with
      | nil => simp at h
      | cons => simp
    omega
  · exact .inr (by simp)
theorem quoted_ax (hG : U8 G) (st : RS) (hl : st.left.length ≤ 1000000000) : AX Tryz.prog G 48 [.ptr 2 0] [(2, .vars 59 (rdC st))] (.p (.str (quotedR st).2)) [2] [(2, .vars 59 (rdC (quotedR st).1))] := by
  refine AX.introU tok 900 Tryz.func48 (by kernel_rfl) rfl rfl ?_
  simp only [Tryz.f48, enumA, List.map_cons, List.map_nil]
  have hle := trimB_le st.left
  have hu := Unquote_ev (G := G) hG (trimB st.left) (by omega)
  have hp := unquote_props (trimB st.left)
  have hsk := skipped_ev (G := G) (trimB st.left) (by omega)
  have hsl := skipL_le (trimB st.left)
  have hq : quotedR st = quotedL (trimB st.left) st (unquoteT (trimB st.left)) := rfl
  rw [hq]
  unfold quotedL
  refine AW.seqRegionO [] ?_
  refine s1 tok [0] ?_
  refine AOpsO.nil ?_
  refine AW.seqRegionO [] ?_
  refine s1 tok [0, 6] ?_
  refine AOpsO.stepK [0] (y_cx rfl (trim_ax st) (by simp)) (by conv => lhs; simp) rfl ?_
  refine AOpsO.nil ?_
  generalize trimB st.left = l at *
  generalize unquoteT l = u at *
  obtain ⟨us, un, ue⟩ := u
  simp only at hu hp ⊢
  refine AW.seqRegionO [.nilp, .tup [.str us, .int .i64 un, .int .i64 ue]] ?_
  refine s1 tok [0, 9] ?_
  refine s1 tok [0, 10] ?_ (hv := by first | with_reducible exact True.intro | (exact hu; done) | omega | simp | (simp; omega) | (simp +contextual; omega))
  refine s1 tok [0, 11] ?_
  refine s1 tok [0, 12] ?_ (hv := by first | with_reducible exact True.intro | (exact hu; done) | omega | simp | (simp; omega) | (simp +contextual; omega))
  refine s1 tok [0, 13] ?_ (hv := by first | with_reducible exact True.intro | (exact hu; done) | omega | simp | (simp; omega) | (simp +contextual; omega))
  refine s1 tok [0, 8] ?_
  refine s1 tok [0, 8, 14] ?_
  refine s1 tok [0, 8, 14, 15] ?_
  refine s1 tok [0, 14, 15, 16] ?_
  refine s1 tok [0, 3, 15, 16] ?_
  refine s1 tok [0, 3, 4, 16] ?_
  refine s1 tok [0, 3, 4, 5] ?_
  refine AOpsO.nil ?_
  refine AW.seq ?_
  refine AW.seqRegionO [] ?_
  refine s1 tok [0, 3, 4, 17] ?_
  refine AOpsO.nil ?_
  refine AW.block ?_
  refine AW.seqRegionO [] ?_
  refine s1 tok [0, 3, 4, 17, 22] ?_
  refine s1 tok [0, 3, 4, 17, 21] ?_
  refine AOpsO.nil ?_
  refine AW.cond (c := .tmp 21) (by conv => lhs; simp) trivial ?_ ?_
  · intro h21
    try simp at h21
    subst h21
    have h0 : un ≤ l.length := by omega
    refine AW.skip ?_
    refine AW.seqRegionO [] ?_
    refine s1 tok [0, 3, 4, 33] ?_
    refine s1 tok [3, 4, 33, 34] ?_
    refine s1 tok [3, 4, 33, 35] ?_ (hv := by first | with_reducible exact True.intro | (omega; done) | omega | simp | (simp; omega) | (simp +contextual; omega))
    refine s1 tok [3, 4, 33, 36] ?_
    refine s1 tok [3, 4, 33, 37] ?_ (hv := by first | with_reducible exact True.intro | (omega; done) | omega | simp | (simp; omega) | (simp +contextual; omega))
    refine s1 tok [3, 33, 37, 38] ?_
    refine s1 tok [3, 33, 39] ?_ (hv := by first | with_reducible exact True.intro | (omega; done) | omega | simp | (simp; omega) | (simp +contextual; omega))
    refine s1 tok [3, 39, 40] ?_ (hv := by first | with_reducible exact True.intro | (omega; done) | omega | simp | (simp; omega) | (simp +contextual; omega))
    refine s1 tok [3, 39, 41] ?_
    refine s1 tok [3] ?_ (hv := by first | with_reducible exact True.intro | (omega; done) | omega | simp | (simp; omega) | (simp +contextual; omega))
    refine AOpsO.nil ?_
    refine AW.seqRegionO [] ?_
    refine s1 tok [42] ?_
    refine s1 tok [2] ?_
    refine AOpsO.nil ?_
    exact AW.ret ⟨.inr rfl, _, _, by (conv => lhs; simp), trivial, by simp, by simp, by simp, by simp⟩
  · intro h21
    try simp at h21
    rw [if_neg h21]
    refine AW.seqRegionO [] ?_
    refine s1 tok [0, 3, 4, 24] ?_
    refine s1 tok [0, 3, 4, 23] ?_
    refine AOpsO.nil ?_
    refine AW.cond (c := .tmp 23) (by conv => lhs; simp) trivial ?_ ?_
    · intro h23
      try simp at h23
      rw [if_pos h23]
      refine AW.regionO [.nilp, .int .i64 (skipL l)] ?_
      refine s1 tok [0, 3, 25] ?_
      refine s1 tok [0, 3, 25, 26] ?_
      refine s1 tok [0, 3, 25, 27] ?_ (hv := by first | with_reducible exact True.intro | (exact hsk; done) | omega | simp | (simp; omega) | (simp +contextual; omega))
      refine s1 tok [0, 3, 25, 28] ?_
      refine s1 tok [0, 3, 25, 29] ?_ (hv := by first | with_reducible exact True.intro | (exact hsk; done) | omega | simp | (simp; omega) | (simp +contextual; omega))
      refine s1 tok [0, 3, 25, 30] ?_ (hv := by first | with_reducible exact True.intro | (exact hsk; done) | omega | simp | (simp; omega) | (simp +contextual; omega))
      refine s1 tok [0, 3, 30, 31] ?_ (hv := by first | with_reducible exact True.intro | (exact hsk; done) | omega | simp | (simp; omega) | (simp +contextual; omega))
      refine s1 tok [0, 3, 30, 32] ?_
      refine s1 tok [0, 3, 30] ?_ (hv := by first | with_reducible exact True.intro | (exact hsk; done) | omega | simp | (simp; omega) | (simp +contextual; omega))
      refine s1 tok [0, 3, 4] ?_
      refine AOpsO.nil ?_
      refine AW.seqRegionO [] ?_
      refine s1 tok [0, 3, 4, 33] ?_
      refine s1 tok [3, 4, 33, 34] ?_
      refine s1 tok [3, 4, 33, 35] ?_ (hv := by first | with_reducible exact True.intro | (omega; done) | omega | simp | (simp; omega) | (simp +contextual; omega))
      refine s1 tok [3, 4, 33, 36] ?_
      refine s1 tok [3, 4, 33, 37] ?_ (hv := by first | with_reducible exact True.intro | (omega; done) | omega | simp | (simp; omega) | (simp +contextual; omega))
      refine s1 tok [3, 33, 37, 38] ?_
      refine s1 tok [3, 33, 39] ?_ (hv := by first | with_reducible exact True.intro | (omega; done) | omega | simp | (simp; omega) | (simp +contextual; omega))
      refine s1 tok [3, 39, 40] ?_ (hv := by first | with_reducible exact True.intro | (omega; done) | omega | simp | (simp; omega) | (simp +contextual; omega))
      refine s1 tok [3, 39, 41] ?_
      refine s1 tok [3] ?_ (hv := by first | with_reducible exact True.intro | (omega; done) | omega | simp | (simp; omega) | (simp +contextual; omega))
      refine AOpsO.nil ?_
      refine AW.seqRegionO [] ?_
      refine s1 tok [42] ?_
      refine s1 tok [2] ?_
      refine AOpsO.nil ?_
      exact AW.ret ⟨.inr rfl, _, _, by (conv => lhs; simp), trivial, by simp, by simp, by simp, by simp⟩
    · intro h23
      try simp at h23
      rw [if_neg h23]
      refine AW.regionO [] ?_
      refine s1 tok [0, 3, 4, 18] ?_
      refine s1 tok [0, 3, 4, 19] ?_
      refine s1 tok [0, 3, 4, 20] ?_
      refine s1 tok [0, 3, 4] ?_
      refine AOpsO.nil ?_
      refine AW.seqRegionO [] ?_
      refine s1 tok [0, 3, 4, 33] ?_
      refine s1 tok [3, 4, 33, 34] ?_
      refine s1 tok [3, 4, 33, 35] ?_ (hv := by first | with_reducible exact True.intro | (omega; done) | omega | simp | (simp; omega) | (simp +contextual; omega))
      refine s1 tok [3, 4, 33, 36] ?_
      refine s1 tok [3, 4, 33, 37] ?_ (hv := by first | with_reducible exact True.intro | (omega; done) | omega | simp | (simp; omega) | (simp +contextual; omega))
      refine s1 tok [3, 33, 37, 38] ?_
      refine s1 tok [3, 33, 39] ?_ (hv := by first | with_reducible exact True.intro | (omega; done) | omega | simp | (simp; omega) | (simp +contextual; omega))
      refine s1 tok [3, 39, 40] ?_ (hv := by first | with_reducible exact True.intro | (omega; done) | omega | simp | (simp; omega) | (simp +contextual; omega))
      refine s1 tok [3, 39, 41] ?_
      refine s1 tok [3] ?_ (hv := by first | with_reducible exact True.intro | (omega; done) | omega | simp | (simp; omega) | (simp +contextual; omega))
      refine AOpsO.nil ?_
      refine AW.seqRegionO [] ?_
      refine s1 tok [42] ?_
      refine s1 tok [2] ?_
      refine AOpsO.nil ?_
      exact AW.ret ⟨.inr rfl, _, _, by (conv => lhs; simp), trivial, by simp, by simp, by simp, by simp⟩
theorem numl_split (l : List UInt8) : l.take (l.length - (l.dropWhile numl).length) = l.takeWhile numl ∧ (l.dropWhile numl).length ≤ l.length := by
  have h := List.takeWhile_append_dropWhile (p := numl) (l := l)
  generalize l.takeWhile numl = A at *
  generalize l.dropWhile numl = B at *
  subst h
  simp
theorem number_ax (st : RS) (hl : st.left.length ≤ 1000000000) : AX Tryz.prog G 49 [.ptr 2 0] [(2, .vars 59 (rdC st))] (.agg (numberR st).2.cells) [2] [(2, .vars 59 (rdC (numberR st).1))] := by
  refine AX.introU tok 900 Tryz.func49 (by kernel_rfl) rfl rfl ?_
  simp only [Tryz.f49, enumA, List.map_cons, List.map_nil]
  have ht := TrimLeft_ev (G := G) st.left numS (by decide) (by decide)
  rw [numl_eq] at ht
  obtain ⟨hs1, hs2⟩ := numl_split st.left
  have hpl : (st.left.takeWhile numl).length ≤ 1000000000 := Nat.le_trans (List.takeWhile_sublist _).length_le hl
  have hp := DecParse_ev (G := G) (st.left.takeWhile numl) hpl
  have hn : numberR st = ({ st with left := st.left.dropWhile numl, big := st.big || decide ((ParseL (st.left.takeWhile numl)).2 = 3), bad := st.bad || decide ((ParseL (st.left.takeWhile numl)).2 = 4) }, .mk 4 0 (ParseL (st.left.takeWhile numl)).1 [] [] [] 0) := rfl
  rw [hn]
  generalize st.left.dropWhile numl = rest at *
  generalize st.left.takeWhile numl = A at *
  generalize ParseL A = p at *
  obtain ⟨dc, e⟩ := p
  simp only at *
  refine AW.seqRegionO [] ?_
  refine s1 tok [0, 2] ?_
  refine AOpsO.nil ?_
  refine AW.seqRegionO [.nilp, .str rest] ?_
  refine s1 tok [0, 2, 6] ?_
  refine s1 tok [0, 2, 7] ?_ (hv := by first | with_reducible exact True.intro | (exact ht; done) | omega | simp | (simp; omega) | (simp +contextual; omega))
  refine s1 tok [0, 2, 8] ?_
  refine s1 tok [0, 2, 9] ?_ (hv := by first | with_reducible exact True.intro | (exact ht; done) | omega | simp | (simp; omega) | (simp +contextual; omega))
  refine s1 tok [0, 2, 10] ?_ (hv := by first | with_reducible exact True.intro | (exact ht; done) | omega | simp | (simp; omega) | (simp +contextual; omega))
  refine s1 tok [0, 2, 3] ?_
  refine AOpsO.nil ?_
  refine AW.seqDrawS tok mixed 19 [[0], [12], [13], [14], [0], [16], [17], [18], [19], [3], [21], [20, 22], [15, 23], [24], [25], [11], [11], [], [4, 26]] [.nilp, .tup [dc.enc, .int .i64 e]] [] (by kernel_rfl) ?_
  refine d1 ?_
  refine d1 ?_ (hv := by first | with_reducible exact True.intro | (first | omega | exact ⟨by omega, by omega⟩ | (rw [hs1]; exact hp); done) | omega | simp | (simp; omega) | (simp +contextual; omega))
  refine d1 ?_
  refine d1 ?_ (hv := by first | with_reducible exact True.intro | (first | omega | exact ⟨by omega, by omega⟩ | (rw [hs1]; exact hp); done) | omega | simp | (simp; omega) | (simp +contextual; omega))
  refine d1 ?_
  refine d1 ?_ (hv := by first | with_reducible exact True.intro | (first | omega | exact ⟨by omega, by omega⟩ | (rw [hs1]; exact hp); done) | omega | simp | (simp; omega) | (simp +contextual; omega))
  refine d1 ?_
  refine d1 ?_ (hv := by first | with_reducible exact True.intro | (first | omega | exact ⟨by omega, by omega⟩ | (rw [hs1]; exact hp); done) | omega | simp | (simp; omega) | (simp +contextual; omega))
  refine d1 ?_ (hv := by first | with_reducible exact True.intro | (first | omega | exact ⟨by omega, by omega⟩ | (rw [hs1]; exact hp); done) | omega | simp | (simp; omega) | (simp +contextual; omega))
  refine d1 ?_
  refine d1 ?_ (hv := by first | with_reducible exact True.intro | (first | omega | exact ⟨by omega, by omega⟩ | (rw [hs1]; exact hp); done) | omega | simp | (simp; omega) | (simp +contextual; omega))
  refine d1 ?_ (hv := by first | with_reducible exact True.intro | (first | omega | exact ⟨by omega, by omega⟩ | (rw [hs1]; exact hp); done) | omega | simp | (simp; omega) | (simp +contextual; omega))
  refine d1 ?_ (hv := by first | with_reducible exact True.intro | (first | omega | exact ⟨by omega, by omega⟩ | (rw [hs1]; exact hp); done) | omega | simp | (simp; omega) | (simp +contextual; omega))
  refine d1 ?_ (hv := by first | with_reducible exact True.intro | (first | omega | exact ⟨by omega, by omega⟩ | (rw [hs1]; exact hp); done) | omega | simp | (simp; omega) | (simp +contextual; omega))
  refine d1 ?_
  refine d1 ?_
  refine d1 ?_
  refine d1 ?_
  refine d1 ?_ (hv := by first | with_reducible exact True.intro | (first | omega | exact ⟨by omega, by omega⟩ | (rw [hs1]; exact hp); done) | omega | simp | (simp; omega) | (simp +contextual; omega))
  refine DGo.nil (by kernel_rfl) ⟨by kernel_rfl, ?_⟩
  refine s1 tok [0, 2, 3, 4, 5] ?_
  refine AOpsO.nil ?_
  refine AW.seqRegionO [] ?_
  refine s1 tok [0, 2, 3, 4, 5, 28] ?_
  refine s1 tok [0, 2, 3, 4, 5, 28, 29] ?_
  refine s1 tok [0, 2, 3, 4, 5, 28, 30] ?_
  refine s1 tok [0, 2, 3, 4, 5, 28, 31] ?_
  refine s1 tok [0, 2, 3, 4, 5, 28, 32] ?_
  refine s1 tok [0, 2, 3, 4, 5, 28, 33] ?_
  refine s2 tok [0, 2, 3, 4, 5, 28, 33, 34] 33 rfl rfl ?_
  refine s2 tok [0, 2, 3, 4, 5, 28, 33, 35] 33 rfl rfl ?_
  refine s1 tok [0, 2, 3, 4, 5, 28, 36] ?_
  refine s1 tok [0, 2, 3, 4, 5, 36, 37] ?_
  refine s1 tok [0, 2, 3, 4, 5, 36, 38] ?_
  refine s1 tok [0, 2, 3, 4, 5] ?_
  refine AOpsO.nil ?_
  refine AW.seqRegionO [] ?_
  refine s1 tok [0, 2, 3, 4, 5, 39] ?_
  refine s1 tok [0, 2, 3, 4, 5, 39, 40] ?_
  refine s1 tok [0, 2, 3, 4, 5, 39, 41] ?_
  refine s1 tok [0, 2, 3, 4, 5, 39, 42] ?_
  refine s1 tok [0, 2, 3, 4, 5, 39, 43] ?_
  refine s1 tok [0, 2, 3, 4, 5, 39, 44] ?_
  refine s2 tok [0, 2, 3, 4, 39, 44, 45] 44 rfl rfl ?_
  refine s2 tok [0, 2, 3, 4, 39, 44, 46] 44 rfl rfl ?_
  refine s1 tok [0, 2, 3, 4, 39, 47] ?_
  refine s1 tok [0, 2, 3, 4, 47, 48] ?_
  refine s1 tok [0, 2, 3, 4, 47, 49] ?_
  refine s1 tok [0, 2, 3, 4] ?_
  refine AOpsO.nil ?_
  refine AW.seqRegionO [] ?_
  refine s1 tok [2, 3, 4, 50] ?_
  refine s1 tok [2, 4, 50, 51] ?_
  refine s1 tok [2, 4, 51, 52] ?_
  refine s1 tok [2, 4, 51, 53] ?_
  refine s1 tok [2, 4] ?_
  refine AOpsO.nil ?_
  refine AW.seqRegionO [] ?_
  refine s1 tok [2, 54] ?_
  refine s1 tok [2, 55] ?_
  refine s1 tok [2] ?_
  refine AOpsO.nil ?_
  refine AW.fillE 902 [none, none, none, none, none, none, some 1, some 9, none] (by conv => lhs; simp) ?_
  exact AW.ret ⟨.inr rfl, _, _, by (conv => lhs; simp), trivial, by simp, by simp, by simp, by simp⟩
end Go.Proofs.YtdlejiiiifhiiaaGreatDoor
