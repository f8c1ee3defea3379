import Derived.Test.YtdlejiiiifhiiaaGreatDoorSBackL
/-
  A PLAIN LAW: what has poison in it is no document.
-/
namespace Go.Proofs.YtdlejiiiifhiiaaGreatDoor
open Sy Go
set_option linter.unusedSimpArgs false
set_option linter.unusedVariables false
set_option maxRecDepth 100000
theorem quoted_badP {st : RS} (h : st.bad = true) : (quotedR st).1.bad = true := by
  unfold quotedR quotedL
  split
  · exact h
  · split
    · exact h
    · rfl
theorem number_bad {st : RS} (h : st.bad = true) : (numberR st).1.bad = true := by unfold numberR; simp [h]
theorem atom_badP {st : RS} (h : st.bad = true) : (atomR st).1.bad = true := by
  unfold atomR
  split
  · exact h
  · split
    · exact h
    · split
      · exact h
      · split
        · exact quoted_badP h
        · split
          · exact number_bad h
          · rfl
theorem lst_bad {n : Nat} {st : RS} {d many : Nat} {vs : List Val} (h : st.bad = true) : (lstR n st d many vs).1.bad = true := by
  cases n with
  | zero => simp only [lstR]
  | succ n => simp only [lstR]; rw [if_pos h]; exact h
theorem obj_bad {n : Nat} {st : RS} {d many : Nat} {ks : List (List UInt8)} {vs : List Val} (h : st.bad = true) : (objR n st d many ks vs).1.bad = true := by
  cases n with
  | zero => simp only [objR]
  | succ n => simp only [objR]; rw [if_pos h]; exact h
theorem val_bad {n : Nat} {st : RS} {d : Nat} (h : st.bad = true) : (valR n st d).1.bad = true := by
  cases n with
  | zero => simp only [valR]
  | succ n =>
    have he : (enterR st d).bad = true := h
    have hd : (dropR (enterR st d) 1).bad = true := h
    simp only [valR]
    split
    · split
      · rw [tk_bad]; exact hd
      · exact lst_bad (by rw [tk_bad]; exact hd)
    · split
      · split
        · rw [tk_bad]; exact hd
        · exact obj_bad (by rw [tk_bad]; exact hd)
      · exact atom_badP he
theorem sep_badP {c : UInt8} {many : Nat} {st : RS} (h : st.bad = true) : (sepR c many st).1 = true ∧ (sepR c many st).2.bad = true := by
  unfold sepR
  simp only [h, if_true]
  exact ⟨trivial, trivial⟩
theorem lst_first {n : Nat} {st : RS} {d many : Nat} {vs : List Val} (h : (valR n st d).1.bad = true) : (lstR (n + 1) st d many vs).1.bad = true := by
  by_cases hb : st.bad = true
  · exact lst_bad hb
  · simp only [lstR]
    rw [if_neg hb, if_pos (sep_badP h).1]
    exact (sep_badP h).2
/-- A value with poison in it. -/
def PB (v : Val) : Prop := ∀ (n : Nat) (ws : List UInt8) (st : RS) (d : Nat) (rest : List UInt8), st.left = ws ++ (printT v ++ rest) → ws.all isBl = true → 2 * (printT v).length ≤ n → (valR n st d).1.bad = true
theorem poi_list (l : List Val) : (∀ k ∈ l, poiV k = false → RB k) → (∀ k ∈ l, poiV k = true → PB k) → l.any poiV = true → ∀ (n : Nat) (st : RS) (d many : Nat) (vs : List Val) (rest : List UInt8), st.left = Lib.join (l.map printT) [44] ++ 93 :: rest → many + l.length ≤ 201 → 2 * (Lib.join (l.map printT) [44]).length + 2 ≤ n →
    (lstR n st d many vs).1.bad = true := by
  induction l with
  | nil => intro _ _ h; simp at h
  | cons v l IH =>
    intro hr hp ha n st d many vs rest hl hm hn
    obtain ⟨n, rfl⟩ : ∃ k, n = k + 1 := ⟨n - 1, by omega⟩
    by_cases hb : st.bad = true
    · exact lst_bad hb
    · have hb' : st.bad = false := by simpa using hb
      obtain ⟨R, hR, hlen⟩ : ∃ R, st.left = [] ++ (printT v ++ R) ∧ 2 * (printT v).length ≤ n := by
        cases l with
        | nil =>
          simp only [List.map_cons, List.map_nil, Lib.join_one] at hl hn
          exact ⟨_, hl, by omega⟩
        | cons w l =>
          simp only [List.map_cons, join_cons2] at hl hn
          rw [List.append_assoc, List.append_assoc] at hl
          exact ⟨_, hl, by simp at hn; omega⟩
      cases hv : poiV v with
      | true => exact lst_first (hp v (by simp) hv n [] st d R hR rfl hlen)
      | false =>
        cases l with
        | nil => simp [hv] at ha
        | cons w l =>
          simp only [List.map_cons, join_cons2] at hl hn
          rw [List.append_assoc, List.append_assoc] at hl
          rw [List.length_append, List.length_append] at hn
          have h1 := hr v (by simp) hv n [] st d _ hl rfl hb' (by intro b hb; simp at hb; subst hb; rfl) hlen
          simp only [lstR, hb', Bool.false_eq_true, if_false]
          rw [h1, sep_more (ws := []) rfl rfl rfl (by decide) (by simp at hm; omega)]
          simp only [Bool.false_eq_true, if_false]
          exact IH (fun k hk => hr k (List.mem_cons_of_mem _ hk)) (fun k hk => hp k (List.mem_cons_of_mem _ hk)) (by rw [List.any_cons, hv, Bool.false_or] at ha; exact ha) n _ d (many + 1) _ rest (by simp) (by simp at hm ⊢; omega) (by simp only [List.map_cons]; simp at hn; omega)
theorem obj_first {n : Nat} {st : RS} {d many : Nat} {ks : List (List UInt8)} {vs : List Val} {key R : List UInt8} {v : Val} (hv : PB v) (hk : wordT key = true) (hl : st.left = quoteT key ++ [58] ++ printT v ++ R) (hn : 2 * (printT v).length ≤ n) :
    (objR (n + 1) st d many ks vs).1.bad = true := by
  by_cases hb : st.bad = true
  · exact obj_bad hb
  · have hb' : st.bad = false := by simpa using hb
    obtain ⟨left, nodes, bad, deep, big⟩ := st
    simp only at hl hb'
    subst hb'
    have hq := quoted_back (st := ⟨left, nodes, false, deep, big⟩) (ws := []) (key := key) (rest := 58 :: (printT v ++ R)) (by rw [hl]; simp) rfl hk
    have hc : colonR ⟨58 :: (printT v ++ R), nodes, false, deep, big⟩ = ⟨printT v ++ R, nodes, false, deep, big⟩ := colon_back (ws := []) rfl rfl rfl
    have h1 := hv n [] ⟨printT v ++ R, nodes, false, deep, big⟩ d R rfl rfl hn
    simp only at hq
    simp only [objR, hq, hc, Bool.false_eq_true, if_false]
    rw [if_pos (sep_badP h1).1]
    exact (sep_badP h1).2
theorem poi_obj (l : List Val) : ∀ (keys : List (List UInt8)), keys.length = l.length → (∀ s ∈ keys, wordT s = true) → (∀ k ∈ l, poiV k = false → RB k) → (∀ k ∈ l, poiV k = true → PB k) → l.any poiV = true → ∀ (n : Nat) (st : RS) (d many : Nat) (ks : List (List UInt8)) (vs : List Val) (rest : List UInt8),
    st.left = Lib.join (entT keys (l.map printT)) [44] ++ 125 :: rest → many + l.length ≤ 201 → 2 * (Lib.join (entT keys (l.map printT)) [44]).length + 2 ≤ n → (objR n st d many ks vs).1.bad = true := by
  induction l with
  | nil => intro _ _ _ _ _ h; simp at h
  | cons v l IH =>
    intro keys hlen hk hr hp ha n st d many ks vs rest hl hm hn
    obtain ⟨n, rfl⟩ : ∃ k, n = k + 1 := ⟨n - 1, by omega⟩
    cases keys with
    | nil => simp at hlen
    | cons key keys =>
      obtain ⟨R, hR, hlen2⟩ : ∃ R, st.left = quoteT key ++ [58] ++ printT v ++ R ∧ 2 * (printT v).length ≤ n := by
        cases l with
        | nil =>
          obtain rfl : keys = [] := by simpa using hlen
          simp only [List.map_cons, List.map_nil] at hl hn
          rw [ent_cons] at hl hn
          rw [show entT [] [] = [] from rfl, Lib.join_one] at hl hn
          exact ⟨_, hl, by simp at hn; omega⟩
        | cons w l =>
          cases keys with
          | nil => simp at hlen
          | cons key2 keys =>
            have hE : entT (key :: key2 :: keys) ((v :: w :: l).map printT) = (quoteT key ++ [58] ++ printT v) :: (quoteT key2 ++ [58] ++ printT w) :: entT keys (l.map printT) := rfl
            rw [hE, join_cons2] at hl hn
            refine ⟨_, by rw [hl, List.append_assoc, List.append_assoc], by simp at hn; omega⟩
      by_cases hb : st.bad = true
      · exact obj_bad hb
      · have hb' : st.bad = false := by simpa using hb
        cases hv : poiV v with
        | true => exact obj_first (hp v (by simp) hv) (hk key (by simp)) hR hlen2
        | false =>
          cases l with
          | nil => simp [hv] at ha
          | cons w l =>
            cases keys with
            | nil => simp at hlen
            | cons key2 keys =>
              have hE : entT (key :: key2 :: keys) ((v :: w :: l).map printT) = (quoteT key ++ [58] ++ printT v) :: (quoteT key2 ++ [58] ++ printT w) :: entT keys (l.map printT) := rfl
              have hE2 : entT (key2 :: keys) ((w :: l).map printT) = (quoteT key2 ++ [58] ++ printT w) :: entT keys (l.map printT) := rfl
              rw [hE, join_cons2, ← hE2] at hl hn
              generalize hJ : Lib.join (entT (key2 :: keys) ((w :: l).map printT)) [44] = J at *
              rw [obj_one (ws1 := []) (ws2 := []) (ws3 := []) (R := 44 :: (J ++ 125 :: rest)) (hr v (by simp) hv) (hk key (by simp)) (by rw [hl]; simp) rfl rfl rfl hb' (by intro b hb; simp at hb; subst hb; rfl) hlen2]
              simp only
              rw [sep_more (ws := []) (rest := J ++ 125 :: rest) rfl rfl rfl (by decide) (by simp at hm; omega)]
              simp only [Bool.false_eq_true, if_false]
              exact IH (key2 :: keys) (by simpa using hlen) (fun s hs => hk s (List.mem_cons_of_mem _ hs)) (fun k hk => hr k (List.mem_cons_of_mem _ hk)) (fun k hk => hp k (List.mem_cons_of_mem _ hk)) (by rw [List.any_cons, hv, Bool.false_or] at ha; exact ha) n _ d (many + 1) _ _ rest (by rw [hJ]) (by simp at hm ⊢; omega) (by rw [hJ]; simp at hn; omega)
theorem poi_bad (v : Val) : mayT v = true → poiV v = true → PB v := by
  induction v using Val.induct with
  | h v ih =>
    intro hm hp n ws st d rest hl hw hn
    obtain ⟨b0, t0, e0, hb0⟩ := print_head hm
    obtain ⟨n, rfl⟩ : ∃ k, n = k + 1 := ⟨n - 1, by rw [e0] at hn; simp at hn; omega⟩
    have hrk : ∀ k ∈ v.kids, poiV k = false → RB k := fun k hk h => read_back k (may_kid hm hk) h
    have hpk : ∀ k ∈ v.kids, poiV k = true → PB k := fun k hk h => ih k hk (may_kid hm hk) h
    by_cases h8 : v.kind = 8
    · rw [print8 h8] at hl
      have he := enter_at d (show st.left = ws ++ 33 :: (itoa2 v.code ++ rest) from hl) hw (by decide)
      simp only [valR, he, pre1]
      rw [if_neg (by decide), if_neg (by decide)]
      unfold atomR
      rw [if_neg (by simp [wNull, List.isPrefixOf]), if_neg (by simp [wTrue, List.isPrefixOf]), if_neg (by simp [wFalse, List.isPrefixOf]), if_neg (by simp [List.isPrefixOf])]
      rw [if_neg (by rintro ⟨_, h⟩; revert h; simp [byteAt, digitM])]
    · obtain ⟨hcode, hkl, hc⟩ := may_cases hm h8
      have ha : v.kids.any poiV = true := by
        rw [poiV_eq] at hp; simpa [h8] using hp
      have hne : v.kids ≠ [] := by intro e; rw [e] at ha; simp at ha
      rcases hc with ⟨k, h1, h2, h3, h4⟩ | ⟨k, h1, h2, h3, h4⟩ | ⟨k, h1, h2, h3, h4⟩ | ⟨k, h1, h2, h3, h4⟩ | ⟨k, h1, h2, h3, h4⟩ | ⟨k, h1, h2, h3⟩ | ⟨k, h1, h2, h3, h4⟩
      · exact absurd h4 hne
      · exact absurd h4 hne
      · exact absurd h4 hne
      · exact absurd h4 hne
      · exact absurd h4 hne
      · rw [print6 k] at hl hn
        rw [show ws ++ ([91] ++ Lib.join (v.kids.map printT) [44] ++ [93] ++ rest) = ws ++ 91 :: (Lib.join (v.kids.map printT) [44] ++ 93 :: rest) by simp] at hl
        have he := enter_at d hl hw (by decide)
        simp only [valR, he, pre1]
        rw [if_pos (by decide)]
        simp only [dropR, List.drop_succ_cons, List.drop_zero]
        obtain ⟨b, t, e, p1, p2, p3⟩ := head_join (l := v.kids.map printT) (by simpa using hne) (93 :: rest) (fun b => isBl b = false ∧ b ≠ 93 ∧ b ≠ 125) (by
          intro s hs
          obtain ⟨k, hk, rfl⟩ := List.mem_map.1 hs
          exact print_head (may_kid hm hk))
        rw [tk_miss (ws := []) (w := 93) e rfl p1 p2]
        simp only [Bool.false_eq_true, if_false]
        exact poi_list v.kids hrk hpk ha n ⟨b :: t, st.nodes + 1, st.bad, st.deep || decide (12 < d), st.big || decide (400 < st.nodes + 1)⟩ (d + 1) 1 [] rest e.symm (by omega) (by simp only [List.length_append, List.length_cons, List.length_nil] at hn; omega)
      · rw [print7 k] at hl hn
        rw [show ws ++ ([123] ++ Lib.join (entT v.keys (v.kids.map printT)) [44] ++ [125] ++ rest) = ws ++ 123 :: (Lib.join (entT v.keys (v.kids.map printT)) [44] ++ 125 :: rest) by simp] at hl
        have he := enter_at d hl hw (by decide)
        simp only [valR, he, pre1]
        rw [if_neg (by decide), if_pos (by decide)]
        simp only [dropR, List.drop_succ_cons, List.drop_zero]
        have hkw : ∀ s ∈ v.keys, wordT s = true := by
          unfold keysT at h4
          simp only [Bool.and_eq_true, List.all_eq_true, decide_eq_true_eq] at h4
          exact h4.1
        obtain ⟨b, t, e, p1, p2, p3⟩ := head_join (l := entT v.keys (v.kids.map printT)) (by
            intro e0
            have := congrArg List.length e0
            simp [entT, h3] at this
            exact hne this) (125 :: rest) (fun b => isBl b = false ∧ b ≠ 93 ∧ b ≠ 125) (by
          intro s hs
          obtain ⟨i, hi, rfl⟩ := List.mem_iff_getElem.1 hs
          simp only [entT, List.getElem_zipWith]
          exact ⟨34, _, rfl, by decide⟩)
        rw [tk_miss (ws := []) (w := 125) e rfl p1 p3]
        simp only [Bool.false_eq_true, if_false]
        exact poi_obj v.kids v.keys h3 hkw hrk hpk ha n ⟨b :: t, st.nodes + 1, st.bad, st.deep || decide (12 < d), st.big || decide (400 < st.nodes + 1)⟩ (d + 1) 1 [] [] rest e.symm (by omega) (by simp only [List.length_append, List.length_cons, List.length_nil] at hn; omega)
theorem one_poi {v : Val} (hm : mayT v = true) (hp : poiV v = true) {ws rest : List UInt8} (hw : ws.all isBl = true) : oneM (ws ++ (printT v ++ rest)) = (zeroV, 0, 10) := by
  unfold oneM
  have := poi_bad v hm hp (2 * (ws ++ (printT v ++ rest)).length + 2) ws ⟨ws ++ (printT v ++ rest), 0, false, false, false⟩ 1 rest rfl hw (by simp only [List.length_append]; omega)
  simp only
  rw [if_pos this]
end Go.Proofs.YtdlejiiiifhiiaaGreatDoor
