import Derived.Test.YtdlejiiiifhiiaaGreatDoorSCutL
/-
  A PLAIN LAW: a document that is cut is none (values).
-/
namespace Go.Proofs.YtdlejiiiifhiiaaGreatDoor
open Sy Go
set_option linter.unusedSimpArgs false
set_option linter.unusedVariables false
set_option maxRecDepth 100000
/-- What is read of its beginning alone: nothing, or all of it, or a number. -/
def CB (v : Val) : Prop := ∀ (n : Nat) (st : RS) (d : Nat) (t : List UInt8), st.left ++ t = printT v → 2 * (printT v).length ≤ n → (valR n st d).1.bad = true ∨ ((valR n st d).1.left = [] ∧ (t = [] ∨ v.kind = 4))
theorem val_nil {n : Nat} {st : RS} {d : Nat} (h : st.left = []) : (valR n st d).1.bad = true := by
  cases n with
  | zero => simp only [valR]
  | succ n =>
    have he : (enterR st d).left = [] := by unfold enterR; rw [h]; rfl
    simp only [valR, he]
    rw [if_neg (by simp), if_neg (by simp)]
    unfold atomR
    rw [he, if_neg (by simp [wNull, List.isPrefixOf]), if_neg (by simp [wTrue, List.isPrefixOf]), if_neg (by simp [wFalse, List.isPrefixOf]), if_neg (by simp [List.isPrefixOf]), if_neg (by simp)]
/-- Behind a part of a text that is cut there is nothing that goes on. -/
theorem sep_none {c : UInt8} {many : Nat} {st : RS} (h : st.left = []) : (sepR c many st).2.bad = true := by
  unfold sepR
  simp only
  split
  · assumption
  · rw [tk_none (st := { left := st.left, nodes := st.nodes, bad := st.bad, deep := st.deep, big := st.big || decide (200 < many) }) h]
    simp only [Bool.false_eq_true, if_false]
    rw [tk_none (st := { left := st.left, nodes := st.nodes, bad := st.bad, deep := st.deep, big := st.big || decide (200 < many) }) h]
    rfl
theorem lst_none {n : Nat} {st : RS} {d many : Nat} {vs : List Val} (h : (valR n st d).1.left = []) : (lstR (n + 1) st d many vs).1.bad = true := by
  by_cases hb : st.bad = true
  · exact lst_bad hb
  · have hs := sep_none (c := 93) (many := many) h
    simp only [lstR]
    rw [if_neg hb]
    split
    · exact hs
    · exact lst_bad hs
theorem le_or_lt' (a b : Nat) : a ≤ b ∨ b < a := by omega
theorem pre_of {s t p R : List UInt8} (h : s ++ t = p ++ R) (hc : s.length ≤ p.length) : ∃ u, s ++ u = p := by
  have h1 : s = p.take s.length := by
    have := congrArg (List.take s.length) h
    rw [List.take_left, List.take_append_of_le_length hc] at this; exact this
  refine ⟨p.drop s.length, ?_⟩
  conv => lhs; arg 1; rw [h1]
  exact List.take_append_drop _ _
theorem post_of {s t p R : List UInt8} (h : s ++ t = p ++ R) (hc : p.length ≤ s.length) : ∃ u, s = p ++ u ∧ u ++ t = R := by
  obtain ⟨u, hu⟩ := pre_of (s := p) (t := R) (p := s) (R := t) h.symm hc
  refine ⟨u, hu.symm, ?_⟩
  rw [← hu, List.append_assoc] at h
  exact List.append_cancel_left h
theorem cut_list (l : List Val) : l ≠ [] → (∀ k ∈ l, RB k ∧ CB k) → ∀ (n : Nat) (st : RS) (d many : Nat) (vs : List Val) (t : List UInt8), st.left ++ t = Lib.join (l.map printT) [44] ++ [93] → t ≠ [] → many + l.length ≤ 201 → 2 * (Lib.join (l.map printT) [44]).length + 2 ≤ n →
    (lstR n st d many vs).1.bad = true := by
  induction l with
  | nil => intro h; exact absurd rfl h
  | cons v l IH =>
    intro _ ih n st d many vs t hl ht hm hn
    obtain ⟨n, rfl⟩ : ∃ k, n = k + 1 := ⟨n - 1, by omega⟩
    by_cases hb : st.bad = true
    · exact lst_bad hb
    · have hb' : st.bad = false := by simpa using hb
      obtain ⟨hR, hC⟩ := ih v (by simp)
      -- the first part's text, and what follows
      obtain ⟨R, hRl, hlen⟩ : ∃ R, st.left ++ t = printT v ++ R ∧ 2 * (printT v).length ≤ n := by
        cases l with
        | nil =>
          simp only [List.map_cons, List.map_nil, Lib.join_one] at hl hn
          exact ⟨_, hl, by omega⟩
        | cons w l =>
          simp only [List.map_cons, join_cons2] at hl hn
          rw [List.append_assoc, List.append_assoc] at hl
          exact ⟨_, hl, by simp at hn; omega⟩
      rcases (le_or_lt' st.left.length (printT v).length) with hc | hc
      · obtain ⟨u, hu⟩ := pre_of hRl hc
        rcases hC n st d u hu hlen with h | ⟨h, _⟩
        · exact lst_first h
        · exact lst_none h
      · obtain ⟨u, hu, _⟩ := post_of hRl (Nat.le_of_lt hc)
        have hun : u ≠ [] := by rintro rfl; rw [hu] at hc; simp at hc
        cases l with
        | nil =>
          simp only [List.map_cons, List.map_nil, Lib.join_one] at hl
          rw [hu, List.append_assoc] at hl
          have := List.append_cancel_left hl
          have := congrArg List.length this
          have := List.length_pos_iff.2 hun
          have := List.length_pos_iff.2 ht
          simp at *; omega
        | cons w l =>
          simp only [List.map_cons, join_cons2] at hl hn
          rw [List.append_assoc, List.append_assoc, hu, List.append_assoc] at hl
          have hl2 := List.append_cancel_left hl
          cases u with
          | nil => exact absurd rfl hun
          | cons c u =>
            simp only [List.cons_append, List.singleton_append, List.cons.injEq] at hl2
            obtain ⟨rfl, hl3⟩ := hl2
            have h1 := hR n [] st d (44 :: u) hu rfl hb' (by intro b hb; simp at hb; subst hb; rfl) hlen
            simp only [lstR, hb', Bool.false_eq_true, if_false]
            rw [h1, sep_more (ws := []) rfl rfl rfl (by decide) (by simp at hm; omega)]
            simp only [Bool.false_eq_true, if_false]
            exact IH (by simp) (fun k hk => ih k (List.mem_cons_of_mem _ hk)) n _ d (many + 1) _ t hl3 ht (by simp at hm ⊢; omega) (by simp only [List.map_cons]; simp at hn; omega)
/-- A key that is cut. -/
theorem quoted_cut {st : RS} {key t : List UInt8} (hk : wordT key = true) (h : st.left ++ t = quoteT key) (ht : t ≠ []) : (quotedR st).1.bad = true := by
  have htr : trimB st.left = st.left := by
    cases hs : st.left with
    | nil => rfl
    | cons b u => rw [hs] at h; simp [quoteT] at h; rw [h.1]; rfl
  have := unquote_cut hk h ht
  unfold quotedR quotedL
  rw [htr, this]
  rfl
theorem obj_stepC {n : Nat} {st : RS} {d many : Nat} {ks : List (List UInt8)} {vs : List Val} (h : (colonR (quotedR st).1).bad = true ∨ (valR n (colonR (quotedR st).1) d).1.bad = true ∨ (valR n (colonR (quotedR st).1) d).1.left = []) : (objR (n + 1) st d many ks vs).1.bad = true := by
  by_cases hb : st.bad = true
  · exact obj_bad hb
  · simp only [objR]
    rw [if_neg hb]
    by_cases hc : (colonR (quotedR st).1).bad = true
    · simp only [if_pos hc]
      rw [if_pos (sep_badP hc).1]
      exact (sep_badP hc).2
    · simp only [if_neg hc]
      rcases h with h | h | h
      · exact absurd h hc
      · rw [if_pos (sep_badP h).1]
        exact (sep_badP h).2
      · have hs := sep_none (c := 125) (many := many) h
        split
        · exact hs
        · exact obj_bad hs
theorem colon_badC {st : RS} (h : st.bad = true) : (colonR st).bad = true := by unfold colonR; rw [if_pos h]; exact h
theorem colon_none {st : RS} (h : st.left = []) : (colonR st).bad = true := by
  unfold colonR
  split
  · assumption
  · rw [tk_none h]; rfl
theorem cut_obj (l : List Val) : ∀ (keys : List (List UInt8)), keys.length = l.length → l ≠ [] → (∀ s ∈ keys, wordT s = true) → (∀ k ∈ l, RB k ∧ CB k) → ∀ (n : Nat) (st : RS) (d many : Nat) (ks : List (List UInt8)) (vs : List Val) (t : List UInt8), st.left ++ t = Lib.join (entT keys (l.map printT)) [44] ++ [125] → t ≠ [] → many + l.length ≤ 201 → 2 * (Lib.join (entT keys (l.map printT)) [44]).length + 2 ≤ n →
    (objR n st d many ks vs).1.bad = true := by
  induction l with
  | nil => intro _ _ h; exact absurd rfl h
  | cons v l IH =>
    intro keys hlen _ hkw ih n st d many ks vs t hl ht hm hn
    obtain ⟨n, rfl⟩ : ∃ k, n = k + 1 := ⟨n - 1, by omega⟩
    cases keys with
    | nil => simp at hlen
    | cons key keys =>
      by_cases hb : st.bad = true
      · exact obj_bad hb
      · have hb' : st.bad = false := by simpa using hb
        obtain ⟨hR, hC⟩ := ih v (by simp)
        have hkk := hkw key (by simp)
        obtain ⟨R, hRl, hlen2, hRR⟩ : ∃ R, st.left ++ t = quoteT key ++ (58 :: (printT v ++ R)) ∧ 2 * (printT v).length ≤ n ∧ ((l = [] ∧ R = [125]) ∨ (l ≠ [] ∧ R = 44 :: (Lib.join (entT keys (l.map printT)) [44] ++ [125]) ∧ 2 * (Lib.join (entT keys (l.map printT)) [44]).length + 2 ≤ n)) := by
          cases l with
          | nil =>
            obtain rfl : keys = [] := by simpa using hlen
            simp only [List.map_cons, List.map_nil] at hl hn
            rw [ent_cons] at hl hn
            rw [show entT [] [] = [] from rfl, Lib.join_one] at hl hn
            exact ⟨[125], by rw [hl]; simp, by simp at hn; omega, .inl ⟨rfl, rfl⟩⟩
          | cons w l =>
            cases keys with
            | nil => simp at hlen
            | cons key2 keys =>
              have hE : entT (key :: key2 :: keys) ((v :: w :: l).map printT) = (quoteT key ++ [58] ++ printT v) :: (quoteT key2 ++ [58] ++ printT w) :: entT keys (l.map printT) := rfl
              have hE2 : entT (key2 :: keys) ((w :: l).map printT) = (quoteT key2 ++ [58] ++ printT w) :: entT keys (l.map printT) := rfl
              rw [hE, join_cons2, ← hE2] at hl hn
              generalize Lib.join (entT (key2 :: keys) ((w :: l).map printT)) [44] = J at *
              exact ⟨44 :: (J ++ [125]), by rw [hl]; simp, by simp at hn; omega, .inr ⟨by simp, rfl, by simp at hn; omega⟩⟩
        rcases Nat.lt_or_ge st.left.length (quoteT key).length with hc | hc
        · -- within the key
          obtain ⟨u, hu⟩ := pre_of hRl (Nat.le_of_lt hc)
          have hun : u ≠ [] := by rintro rfl; rw [List.append_nil] at hu; rw [hu] at hc; omega
          exact obj_stepC (.inl (colon_badC (quoted_cut hkk hu hun)))
        · obtain ⟨u, hu, hut⟩ := post_of hRl hc
          have hq := quoted_back (st := st) (ws := []) hu rfl hkk
          cases u with
          | nil => exact obj_stepC (.inl (by rw [hq]; exact colon_none rfl))
          | cons c u =>
            simp only [List.cons_append, List.cons.injEq] at hut
            obtain ⟨rfl, hut⟩ := hut
            have hcb : colonR (quotedR st).1 = { st with left := u } := by rw [hq]; exact colon_back (st := { st with left := 58 :: u }) (ws := []) rfl rfl hb'
            rcases (le_or_lt' u.length (printT v).length) with hc2 | hc2
            · obtain ⟨w, hw⟩ := pre_of hut hc2
              refine obj_stepC (.inr ?_)
              rw [hcb]
              rcases hC n { st with left := u } d w hw hlen2 with h | ⟨h, _⟩
              · exact .inl h
              · exact .inr h
            · obtain ⟨w, hw, hwt⟩ := post_of hut (Nat.le_of_lt hc2)
              have hwn : w ≠ [] := by rintro rfl; rw [hw] at hc2; simp at hc2
              rcases hRR with ⟨_, rfl⟩ | ⟨hln, rfl, hn2⟩
              · have h1 := congrArg List.length hwt
                have := List.length_pos_iff.2 hwn
                have := List.length_pos_iff.2 ht
                simp only [List.length_append, List.length_cons, List.length_nil] at h1
                omega
              · cases w with
                | nil => exact absurd rfl hwn
                | cons c w =>
                  simp only [List.cons_append, List.cons.injEq] at hwt
                  obtain ⟨rfl, hwt⟩ := hwt
                  rw [obj_one (ws1 := []) (ws2 := []) (ws3 := []) (R := 44 :: w) hR hkk (by rw [hu, hw]; simp) rfl rfl rfl hb' (by intro b hb; simp at hb; subst hb; rfl) hlen2]
                  simp only
                  rw [sep_more (ws := []) (rest := w) rfl rfl rfl (by decide) (by simp at hm; omega)]
                  simp only [Bool.false_eq_true, if_false]
                  exact IH keys (by simpa using hlen) hln (fun s hs => hkw s (List.mem_cons_of_mem _ hs)) (fun k hk => ih k (List.mem_cons_of_mem _ hk)) n _ d (many + 1) _ _ t hwt ht (by simp at hm ⊢; omega) hn2
theorem word_cut {w : List UInt8} {n : Nat} {st : RS} {d : Nat} {t : List UInt8} (hw : w = wNull ∨ w = wTrue ∨ w = wFalse) (h : st.left ++ t = w) (ht : t ≠ []) : (valR n st d).1.bad = true := by
  have hk : st.left = w.take st.left.length ∧ st.left.length < w.length := by
    constructor
    · rw [← h]; simp
    · rw [← h, List.length_append]; have := List.length_pos_iff.2 ht; omega
  obtain ⟨hk1, hk2⟩ := hk
  generalize st.left.length = k at hk1 hk2
  by_cases h0 : st.left = []
  · exact val_nil h0
  · cases n with
    | zero => simp only [valR]
    | succ n =>
      obtain ⟨left, nodes, bad, deep, big⟩ := st
      simp only at hk1 h0
      subst hk1
      have all : ∀ (w : List UInt8), (w = wNull ∨ w = wTrue ∨ w = wFalse) → ∀ k, k < w.length → w.take k ≠ [] → (valR (n + 1) ⟨w.take k, nodes, bad, deep, big⟩ d).1.bad = true := by
        intro w hw k hk hne
        have five : k = 0 ∨ k = 1 ∨ k = 2 ∨ k = 3 ∨ k = 4 := by
          have : w.length ≤ 5 := by rcases hw with rfl | rfl | rfl <;> decide
          omega
        rcases hw with rfl | rfl | rfl <;> rcases five with rfl | rfl | rfl | rfl | rfl <;> first
          | exact absurd rfl hne
          | (exfalso; revert hk; decide)
          | (simp only [valR, enterR]; simp [wNull, wTrue, wFalse, trimB, isBl, List.isPrefixOf, atomR, byteAt, digitM])
      exact all w hw k hk2 h0
theorem cut_all (v : Val) : mayT v = true → poiV v = false → CB v := by
  induction v using Val.induct with
  | h v ih =>
    intro hm hp n st d t hl hn
    by_cases ht : t = []
    · subst ht
      rw [List.append_nil] at hl
      by_cases hb : st.bad = true
      · exact .inl (val_bad hb)
      · have h1 := read_back v hm hp n [] st d [] (by rw [hl]; simp) rfl (by simpa using hb) (by simp) hn
        rw [h1]; exact .inr ⟨rfl, .inl rfl⟩
    · by_cases h0 : st.left = []
      · exact .inl (val_nil h0)
      · obtain ⟨hcode, hkl, hc⟩ := may_cases hm (poi_kind hp)
        have ihk : ∀ k ∈ v.kids, RB k ∧ CB k := fun k hk => ⟨read_back k (may_kid hm hk) (poi_kid hp hk), ih k hk (may_kid hm hk) (poi_kid hp hk)⟩
        obtain ⟨b0, t0, e0, hb0, hb1, hb2⟩ := print_head hm
        obtain ⟨n, rfl⟩ : ∃ k, n = k + 1 := ⟨n - 1, by rw [e0] at hn; simp at hn; omega⟩
        obtain ⟨u, hu⟩ : ∃ u, st.left = b0 :: u := by
          cases hs : st.left with
          | nil => exact absurd hs h0
          | cons b u => rw [hs, e0] at hl; simp at hl; exact ⟨u, by rw [hl.1]⟩
        have he := enter_at (ws := []) d hu rfl hb0
        rcases hc with ⟨k, h1, h2, h3, h4⟩ | ⟨k, h1, h2, h3, h4⟩ | ⟨k, h1, h2, h3, h4⟩ | ⟨k, h1, h2, h3, h4⟩ | ⟨k, h1, h2, h3, h4⟩ | ⟨k, h1, h2, h3⟩ | ⟨k, h1, h2, h3, h4⟩
        · exact .inl (word_cut (.inl (print1 k)) hl ht)
        · exact .inl (word_cut (.inr (.inr (print2 k))) hl ht)
        · exact .inl (word_cut (.inr (.inl (print3 k))) hl ht)
        · refine .inr ⟨?_, .inr k⟩
          rw [print4 k] at hl
          have hpp := parseL_print h1
          obtain ⟨hnl, b, t1, e1, hb⟩ := parse_num (s := PrintM v.num) (by rw [hpp]; simp)
          obtain ⟨g0, g1, g2, g3, g4, g5, g6, g7, g8, g9⟩ := dig_bl hb
          have hbb : b0 = b := by rw [hu, e1] at hl; simp at hl; exact hl.1
          subst hbb
          have hall : (b0 :: u).all numl = true := by
            rw [← hl, hu, List.all_append, Bool.and_eq_true] at hnl
            exact hnl.1
          have htw := tw_num (rest := []) hall (by simp)
          rw [List.append_nil] at htw
          simp only [valR, he, pre1]
          rw [if_neg (by simpa using Ne.symm g1), if_neg (by simpa using Ne.symm g2)]
          have hA : atomR ⟨b0 :: u, st.nodes + 1, st.bad, st.deep || decide (12 < d), st.big || decide (400 < st.nodes + 1)⟩ = numberR ⟨b0 :: u, st.nodes + 1, st.bad, st.deep || decide (12 < d), st.big || decide (400 < st.nodes + 1)⟩ := by
            unfold atomR
            have p : ∀ (c : UInt8) (w l : List UInt8), b0 ≠ c → (c :: w).isPrefixOf (b0 :: l) = false := by
              intro c w l hc; simp only [List.isPrefixOf]; rw [show (c == b0) = false by simp; exact fun e => hc e.symm]; rfl
            rw [if_neg (by simp only [wNull]; rw [p _ _ _ g3]; simp), if_neg (by simp only [wTrue]; rw [p _ _ _ g4]; simp), if_neg (by simp only [wFalse]; rw [p _ _ _ g5]; simp), if_neg (by rw [p _ _ _ g6]; simp)]
            rw [if_pos]
            refine ⟨by simp, ?_⟩
            simp only [byteAt, List.getD_cons_zero]
            rcases g9 with rfl | g9
            · exact .inl rfl
            · exact .inr g9
          rw [hA]
          unfold numberR
          exact htw.2
        · refine .inl ?_
          rw [print5 k] at hl
          have hb34 : b0 = 34 := by rw [hu] at hl; simp [quoteT] at hl; exact hl.1
          subst hb34
          simp only [valR, he, pre1]
          rw [if_neg (by decide), if_neg (by decide)]
          unfold atomR
          rw [if_neg (by simp [wNull, List.isPrefixOf]), if_neg (by simp [wTrue, List.isPrefixOf]), if_neg (by simp [wFalse, List.isPrefixOf]), if_pos (by simp [List.isPrefixOf])]
          exact quoted_cut h2 (by rw [← hu]; exact hl) ht
        · refine .inl ?_
          rw [print6 k] at hl hn
          have hb91 : b0 = 91 := by rw [hu] at hl; simp at hl; exact hl.1
          subst hb91
          have hl2 : u ++ t = Lib.join (v.kids.map printT) [44] ++ [93] := by rw [hu] at hl; simpa using hl
          simp only [valR, he, pre1]
          rw [if_pos (by decide)]
          simp only [dropR, List.drop_succ_cons, List.drop_zero]
          obtain ⟨n, rfl⟩ : ∃ k, n = k + 1 := ⟨n - 1, by simp at hn; omega⟩
          by_cases hun : u = []
          · subst hun
            rw [tk_none rfl]
            simp only [Bool.false_eq_true, if_false]
            exact lst_first (val_nil rfl)
          · by_cases hk0 : v.kids = []
            · rw [hk0] at hl2
              have := congrArg List.length hl2
              have := List.length_pos_iff.2 hun
              have := List.length_pos_iff.2 ht
              simp [Lib.join, List.intercalate] at *; omega
            · obtain ⟨b, s, e, p1, p2, p3⟩ := head_join (l := v.kids.map printT) (by simpa using hk0) [93] (fun b => isBl b = false ∧ b ≠ 93 ∧ b ≠ 125) (by
                intro s hs
                obtain ⟨k, hk, rfl⟩ := List.mem_map.1 hs
                exact print_head (may_kid hm hk))
              obtain ⟨u', hu'⟩ : ∃ u', u = b :: u' := by
                cases u with
                | nil => exact absurd rfl hun
                | cons c u => rw [e] at hl2; simp at hl2; exact ⟨u, by rw [hl2.1]⟩
              rw [tk_miss (ws := []) (w := 93) (b := b) (rest := u') hu' rfl p1 p2]
              simp only [Bool.false_eq_true, if_false]
              exact cut_list v.kids hk0 ihk (n + 1) ⟨b :: u', st.nodes + 1, st.bad, st.deep || decide (12 < d), st.big || decide (400 < st.nodes + 1)⟩ (d + 1) 1 [] t (by rw [← hl2, hu']) ht (by omega) (by simp at hn; omega)
        · refine .inl ?_
          rw [print7 k] at hl hn
          have hb91 : b0 = 123 := by rw [hu] at hl; simp at hl; exact hl.1
          subst hb91
          have hl2 : u ++ t = Lib.join (entT v.keys (v.kids.map printT)) [44] ++ [125] := by rw [hu] at hl; simpa using hl
          have hkw : ∀ s ∈ v.keys, wordT s = true := by
            unfold keysT at h4
            simp only [Bool.and_eq_true, List.all_eq_true, decide_eq_true_eq] at h4
            exact h4.1
          simp only [valR, he, pre1]
          rw [if_neg (by decide), if_pos (by decide)]
          simp only [dropR, List.drop_succ_cons, List.drop_zero]
          obtain ⟨n, rfl⟩ : ∃ k, n = k + 1 := ⟨n - 1, by simp at hn; omega⟩
          by_cases hun : u = []
          · subst hun
            rw [tk_none rfl]
            simp only [Bool.false_eq_true, if_false]
            refine obj_stepC (.inl (colon_badC ?_))
            unfold quotedR quotedL
            rfl
          · by_cases hk0 : v.kids = []
            · have hkk : v.keys = [] := by rw [hk0] at h3; exact List.length_eq_zero_iff.1 h3
              rw [hk0, hkk] at hl2
              have := congrArg List.length hl2
              have := List.length_pos_iff.2 hun
              have := List.length_pos_iff.2 ht
              simp [Lib.join, List.intercalate, entT] at *; omega
            · obtain ⟨b, s, e, p1, p2, p3⟩ := head_join (l := entT v.keys (v.kids.map printT)) (by
                  intro e0
                  have := congrArg List.length e0
                  simp [entT, h3] at this
                  exact hk0 this) [125] (fun b => isBl b = false ∧ b ≠ 93 ∧ b ≠ 125) (by
                intro s hs
                obtain ⟨i, hi, rfl⟩ := List.mem_iff_getElem.1 hs
                simp only [entT, List.getElem_zipWith]
                exact ⟨34, _, rfl, by decide⟩)
              obtain ⟨u', hu'⟩ : ∃ u', u = b :: u' := by
                cases u with
                | nil => exact absurd rfl hun
                | cons c u => rw [e] at hl2; simp at hl2; exact ⟨u, by rw [hl2.1]⟩
              rw [tk_miss (ws := []) (w := 125) (b := b) (rest := u') hu' rfl p1 p3]
              simp only [Bool.false_eq_true, if_false]
              exact cut_obj v.kids v.keys h3 hk0 hkw ihk (n + 1) ⟨b :: u', st.nodes + 1, st.bad, st.deep || decide (12 < d), st.big || decide (400 < st.nodes + 1)⟩ (d + 1) 1 [] [] t (by rw [← hl2, hu']) ht (by omega) (by simp at hn; omega)
theorem sep_keep {c : UInt8} {many : Nat} {st : RS} (h : st.bad = true) : (sepR c many st).1 = true ∧ (sepR c many st).2.bad = true := sep_badP h
/-- More fuel changes nothing. -/
theorem fuel_more : ∀ n : Nat, (∀ st d n', n ≤ n' → (valR n st d).1.bad = false → valR n' st d = valR n st d) ∧
    (∀ st d many vs n', n ≤ n' → (lstR n st d many vs).1.bad = false → lstR n' st d many vs = lstR n st d many vs) ∧
    (∀ st d many ks vs n', n ≤ n' → (objR n st d many ks vs).1.bad = false → objR n' st d many ks vs = objR n st d many ks vs)
  | 0 => ⟨fun st d n' _ h => by simp [valR] at h, fun st d many vs n' _ h => by simp [lstR] at h, fun st d many ks vs n' _ h => by simp [objR] at h⟩
  | n + 1 => by
    obtain ⟨i1, i2, i3⟩ := fuel_more n
    refine ⟨fun st d n' hn h => ?_, fun st d many vs n' hn h => ?_, fun st d many ks vs n' hn h => ?_⟩
    · obtain ⟨m, rfl⟩ : ∃ m, n' = m + 1 := ⟨n' - 1, by omega⟩
      simp only [valR] at h ⊢
      by_cases h1 : ([91] : List UInt8).isPrefixOf (enterR st d).left = true
      · simp only [if_pos h1] at h ⊢
        by_cases h2 : (tk [93] (dropR (enterR st d) 1)).1 = true
        · simp only [if_pos h2]
        · simp only [if_neg h2] at h ⊢
          rw [i2 _ _ _ _ m (by omega) h]
      · simp only [if_neg h1] at h ⊢
        by_cases h3 : ([123] : List UInt8).isPrefixOf (enterR st d).left = true
        · simp only [if_pos h3] at h ⊢
          by_cases h2 : (tk [125] (dropR (enterR st d) 1)).1 = true
          · simp only [if_pos h2]
          · simp only [if_neg h2] at h ⊢
            rw [i3 _ _ _ _ _ m (by omega) h]
        · simp only [if_neg h3]
    · obtain ⟨m, rfl⟩ : ∃ m, n' = m + 1 := ⟨n' - 1, by omega⟩
      simp only [lstR] at h ⊢
      by_cases hb : st.bad = true
      · simp only [if_pos hb]
      · simp only [if_neg hb] at h ⊢
        have ha : (valR n st d).1.bad = false := by
          rw [← Bool.not_eq_true]; intro hv
          rw [if_pos (sep_badP hv).1] at h
          simp only at h
          rw [(sep_badP hv).2] at h; cases h
        rw [i1 st d m (by omega) ha]
        by_cases hs : (sepR 93 many (valR n st d).1).1 = true
        · simp only [if_pos hs]
        · simp only [if_neg hs] at h ⊢
          exact i2 _ _ _ _ m (by omega) h
    · obtain ⟨m, rfl⟩ : ∃ m, n' = m + 1 := ⟨n' - 1, by omega⟩
      simp only [objR] at h ⊢
      by_cases hb : st.bad = true
      · simp only [if_pos hb]
      · simp only [if_neg hb] at h ⊢
        by_cases hc : (colonR (quotedR st).1).bad = true
        · simp only [if_pos hc] at h
          rw [if_pos (sep_badP hc).1] at h
          simp only at h
          rw [(sep_badP hc).2] at h; cases h
        · simp only [if_neg hc] at h ⊢
          have ha : (valR n (colonR (quotedR st).1) d).1.bad = false := by
            rw [← Bool.not_eq_true]; intro hv
            rw [if_pos (sep_badP hv).1] at h
            simp only at h
            rw [(sep_badP hv).2] at h; cases h
          rw [i1 _ d m (by omega) ha]
          by_cases hs : (sepR 125 many (valR n (colonR (quotedR st).1) d).1).1 = true
          · simp only [if_pos hs]
          · simp only [if_neg hs] at h ⊢
            exact i3 _ _ _ _ _ m (by omega) h
theorem one_cut {v : Val} (hm : mayT v = true) (hp : poiV v = false) (hk : v.kind = 5 ∨ v.kind = 6 ∨ v.kind = 7) {k : Nat} (h : k < (printT v).length) : oneM ((printT v).take k) = (zeroV, 0, 10) := by
  have hb : (valR (2 * ((printT v).take k).length + 2) ⟨(printT v).take k, 0, false, false, false⟩ 1).1.bad = true := by
    rw [← Bool.not_eq_false]
    intro hb
    have hf := (fuel_more (2 * ((printT v).take k).length + 2)).1 _ 1 (2 * ((printT v).take k).length + 2 + 2 * (printT v).length) (by omega) hb
    rcases cut_all v hm hp (2 * ((printT v).take k).length + 2 + 2 * (printT v).length) ⟨(printT v).take k, 0, false, false, false⟩ 1 ((printT v).drop k) (List.take_append_drop _ _) (by omega) with h1 | ⟨_, h2 | h2⟩
    · rw [hf, hb] at h1; cases h1
    · have := congrArg List.length h2
      rw [List.length_drop, List.length_nil] at this; omega
    · omega
  unfold oneM
  simp only
  rw [if_pos hb]
end Go.Proofs.YtdlejiiiifhiiaaGreatDoor
