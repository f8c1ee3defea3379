import Derived.Test.YtdlejiiiifhiiaaGreatDoorSReader3
import Derived.Test.YtdlejiiiifhiiaaGreatDoorSTreeMap
/-
  PLAIN: what is read has few entries.
-/
namespace Go.Proofs.YtdlejiiiifhiiaaGreatDoor
open Sy Go
set_option maxRecDepth 100000
set_option linter.unusedSimpArgs false
set_option linter.unusedVariables false
theorem few0 {v : Val} (h1 : v.keys = []) (h2 : v.kids = []) : Few v := .mk (by rw [h1]; simp) (by rw [h2]; simp) (by rw [h2]; simp)
theorem sep_big (c : UInt8) (many : Nat) (st : RS) (h : (sepR c many st).2.big = false) : st.big = false := by
  unfold sepR at h; simp only at h; split at h
  · simp only [Bool.or_eq_false_iff] at h; exact h.1
  · split at h
    · rw [tk_big] at h; simp only [Bool.or_eq_false_iff] at h; exact h.1
    · simp only [tk_big, Bool.or_eq_false_iff] at h; exact h.1
theorem quoted_big (st : RS) (h : (quotedR st).1.big = false) : st.big = false := by
  unfold quotedR quotedL at h; split at h
  · exact h
  · split at h
    · cases h
    · exact h
theorem colon_big (st : RS) (h : (colonR st).big = false) : st.big = false := by
  unfold colonR at h; split at h
  · exact h
  · simpa using h
theorem enter_big (st : RS) (d : Nat) (h : (enterR st d).big = false) : st.big = false ∧ st.nodes + 1 ≤ 400 := by
  simp only [enterR, Bool.or_eq_false_iff, decide_eq_false_iff_not] at h; exact ⟨h.1, by omega⟩
theorem atom_big (st : RS) (h : (atomR st).1.big = false) : st.big = false ∧ Few (atomR st).2 := by
  unfold atomR at h ⊢
  split
  · rename_i c; rw [if_pos c] at h; exact ⟨h, few0 rfl rfl⟩
  · rename_i c; rw [if_neg c] at h
    split
    · rename_i c; rw [if_pos c] at h; exact ⟨h, few0 rfl rfl⟩
    · rename_i c; rw [if_neg c] at h
      split
      · rename_i c; rw [if_pos c] at h; exact ⟨h, few0 rfl rfl⟩
      · rename_i c; rw [if_neg c] at h
        split
        · rename_i c; rw [if_pos c] at h; exact ⟨quoted_big st h, few0 rfl rfl⟩
        · rename_i c; rw [if_neg c] at h
          split
          · rename_i c; rw [if_pos c] at h
            simp only [numberR, Bool.or_eq_false_iff] at h; exact ⟨h.1, few0 rfl rfl⟩
          · rename_i c; rw [if_neg c] at h; exact ⟨h, few0 rfl rfl⟩
theorem few_put {ks : List (List UInt8)} {vs : List Val} {key : List UInt8} {v : Val} (h : ∀ u ∈ vs, Few u) (hv : Few v) : ∀ u ∈ (putM ks vs key v).2, Few u := by
  unfold putM; split
  · intro u hu
    rcases List.mem_or_eq_of_mem_set hu with h1 | h1
    · exact h u h1
    · exact h1 ▸ hv
  · intro u hu
    rcases List.mem_append.1 hu with h1 | h1
    · exact h u h1
    · exact List.mem_singleton.1 h1 ▸ hv
theorem bigs : ∀ n : Nat, (∀ st d, (valR n st d).1.big = false → st.big = false ∧ (n ≠ 0 → (enterR st d).big = false)) ∧ (∀ st d many vs, (lstR n st d many vs).1.big = false → st.big = false) ∧ (∀ st d many ks vs, (objR n st d many ks vs).1.big = false → st.big = false)
  | 0 => ⟨fun st d h => ⟨by simpa [valR] using h, fun h => (h rfl).elim⟩, fun st d many vs h => by simpa [lstR] using h, fun st d many ks vs h => by simpa [objR] using h⟩
  | n + 1 => by
    obtain ⟨ih1, ih2, ih3⟩ := bigs n
    refine ⟨fun st d hb => ?_, fun st d many vs hb => ?_, fun st d many ks vs hb => ?_⟩
    · have key : (enterR st d).big = false → st.big = false ∧ (n + 1 ≠ 0 → (enterR st d).big = false) := fun h => ⟨(enter_big st d h).1, fun _ => h⟩
      rw [val_step] at hb
      split at hb
      · refine key ?_
        unfold lstM at hb
        split at hb
        · simpa [dropR] using hb
        · have := ih2 _ _ _ _ hb; simpa [dropR] using this
      · split at hb
        · refine key ?_
          unfold objM at hb
          split at hb
          · simpa [dropR] using hb
          · have := ih3 _ _ _ _ _ hb; simpa [dropR] using this
        · exact key (atom_big _ hb).1
    · rw [lst_step] at hb
      split at hb
      · exact hb
      · split at hb
        · exact (ih1 st d (sep_big _ _ _ hb)).1
        · exact (ih1 st d (sep_big _ _ _ (ih2 _ _ _ _ hb))).1
    · rw [obj_step] at hb
      have he : (entM (quotedR st) ks vs (valR n (colonR (quotedR st).1) d)).1.big = false → st.big = false := by
        unfold entM
        split
        · exact fun h => quoted_big _ (colon_big _ h)
        · exact fun h => quoted_big _ (colon_big _ (ih1 _ _ h).1)
      split at hb
      · exact hb
      · split at hb
        · exact he (sep_big _ _ _ hb)
        · exact he (sep_big _ _ _ (ih3 _ _ _ _ _ hb))
theorem few_read : ∀ n : Nat, (∀ st d, st.nodes ≤ 400 → (valR n st d).1.big = false → st.nodes ≤ (valR n st d).1.nodes ∧ (valR n st d).1.nodes ≤ 400 ∧ Few (valR n st d).2 ∧ ((valR n st d).1.bad = false → st.nodes + 1 ≤ (valR n st d).1.nodes)) ∧
    (∀ st d many vs, st.nodes ≤ 400 → (∀ v ∈ vs, Few v) → (lstR n st d many vs).1.big = false → st.nodes ≤ (lstR n st d many vs).1.nodes ∧ (lstR n st d many vs).1.nodes ≤ 400 ∧ (lstR n st d many vs).2.length + st.nodes ≤ vs.length + (lstR n st d many vs).1.nodes + 1 ∧ ∀ v ∈ (lstR n st d many vs).2, Few v) ∧
    (∀ st d many ks vs, st.nodes ≤ 400 → ks.length = vs.length → (∀ v ∈ vs, Few v) → (objR n st d many ks vs).1.big = false → st.nodes ≤ (objR n st d many ks vs).1.nodes ∧ (objR n st d many ks vs).1.nodes ≤ 400 ∧ (objR n st d many ks vs).2.1.length = (objR n st d many ks vs).2.2.length ∧ (objR n st d many ks vs).2.2.length + st.nodes ≤ vs.length + (objR n st d many ks vs).1.nodes + 1 ∧ ∀ v ∈ (objR n st d many ks vs).2.2, Few v)
  | 0 => ⟨fun st d hn h => ⟨by simp [valR], by simpa [valR] using hn, few0 (by simp [valR, zeroV, Val.keys]) (by simp [valR, zeroV, Val.kids]), fun h => by simp [valR] at h⟩, fun st d many vs hn hf h => ⟨by simp [lstR], by simpa [lstR] using hn, by simp only [lstR]; omega, by simpa [lstR] using hf⟩, fun st d many ks vs hn hl hf h => ⟨by simp [objR], by simpa [objR] using hn, by simpa [objR] using hl, by simp only [objR]; omega, by simpa [objR] using hf⟩⟩
  | n + 1 => by
    obtain ⟨ih1, ih2, ih3⟩ := few_read n
    refine ⟨fun st d hn hb => ?_, fun st d many vs hn hf hb => ?_, fun st d many ks vs hn hl hf hb => ?_⟩
    · have hen : (enterR st d).nodes = st.nodes + 1 := rfl
      have heb := ((bigs (n + 1)).1 st d hb).2 (by omega)
      have h4 := (enter_big st d heb).2
      rw [val_step] at hb ⊢
      have hdn : (dropR (enterR st d) 1).nodes = st.nodes + 1 := rfl
      generalize dropR (enterR st d) 1 = D at *
      split
      · rename_i hp
        rw [if_pos hp] at hb
        unfold lstM at hb ⊢
        by_cases ht : (tk [93] D).1 = true
        · rw [if_pos ht]
          simp only [tk_nodes]
          exact ⟨by omega, by omega, few0 rfl rfl, fun _ => by omega⟩
        · rw [if_neg ht] at hb ⊢
          obtain ⟨h2, h3, h5, h6⟩ := ih2 (tk [93] D).2 (d + 1) 1 [] (by rw [tk_nodes]; omega) (fun v hv => by cases hv) hb
          rw [tk_nodes] at h2 h5
          exact ⟨by simp only; omega, h3, .mk (by simp [Val.keys]) (by simp [Val.kids] at h5 ⊢; omega) (by simpa [Val.kids] using h6), fun _ => by simp only; omega⟩
      · rename_i hp
        rw [if_neg hp] at hb
        split
        · rename_i hp
          rw [if_pos hp] at hb
          unfold objM at hb ⊢
          by_cases ht : (tk [125] D).1 = true
          · rw [if_pos ht]
            simp only [tk_nodes]
            exact ⟨by omega, by omega, few0 rfl rfl, fun _ => by omega⟩
          · rw [if_neg ht] at hb ⊢
            obtain ⟨h2, h3, h7, h5, h6⟩ := ih3 (tk [125] D).2 (d + 1) 1 [] [] (by rw [tk_nodes]; omega) rfl (fun v hv => by cases hv) hb
            rw [tk_nodes] at h2 h5
            exact ⟨by simp only; omega, h3, .mk (by simp [Val.keys] at h5 h7 ⊢; omega) (by simp [Val.kids] at h5 ⊢; omega) (by simpa [Val.kids] using h6), fun _ => by simp only; omega⟩
        · rename_i hp
          rw [if_neg hp] at hb
          have := atom_nodes (enterR st d)
          exact ⟨by omega, by omega, (atom_big _ hb).2, fun _ => by omega⟩
    · rw [lst_step] at hb ⊢
      split
      · exact ⟨Nat.le_refl _, hn, by simp only; omega, hf⟩
      · rename_i hc
        rw [if_neg hc] at hb
        have hsn := sep_nodes 93 many (valR n st d).1
        split
        · rename_i hs
          rw [if_pos hs] at hb
          obtain ⟨h1, h2, h3, h4⟩ := ih1 st d hn (sep_big _ _ _ hb)
          refine ⟨by simp only; omega, by simp only; omega, by simp only [List.length_append, List.length_cons, List.length_nil]; omega, fun v hv => ?_⟩
          rcases List.mem_append.1 hv with h | h
          · exact hf v h
          · exact List.mem_singleton.1 h ▸ h3
        · rename_i hs
          rw [if_neg hs] at hb
          have hbb := sep_bad' 93 many (valR n st d).1 (by simpa using hs)
          obtain ⟨h1, h2, h3, h4⟩ := ih1 st d hn (sep_big _ _ _ ((bigs n).2.1 _ _ _ _ hb))
          have h4 := h4 hbb
          obtain ⟨h5, h6, h7, h8⟩ := ih2 (sepR 93 many (valR n st d).1).2 d (many + 1) (vs ++ [(valR n st d).2]) (by omega) (fun v hv => by
            rcases List.mem_append.1 hv with h | h
            · exact hf v h
            · exact List.mem_singleton.1 h ▸ h3) hb
          rw [List.length_append, List.length_cons, List.length_nil] at h7
          exact ⟨by omega, h6, by omega, h8⟩
    · rw [obj_step] at hb ⊢
      split
      · exact ⟨Nat.le_refl _, hn, hl, by simp only; omega, hf⟩
      · rename_i hc
        rw [if_neg hc] at hb
        have hE : (entM (quotedR st) ks vs (valR n (colonR (quotedR st).1) d)).1.big = false → st.nodes ≤ (entM (quotedR st) ks vs (valR n (colonR (quotedR st).1) d)).1.nodes ∧ (entM (quotedR st) ks vs (valR n (colonR (quotedR st).1) d)).1.nodes ≤ 400 ∧
            (entM (quotedR st) ks vs (valR n (colonR (quotedR st).1) d)).2.1.length = (entM (quotedR st) ks vs (valR n (colonR (quotedR st).1) d)).2.2.length ∧ (entM (quotedR st) ks vs (valR n (colonR (quotedR st).1) d)).2.2.length ≤ vs.length + 1 ∧
            (∀ v ∈ (entM (quotedR st) ks vs (valR n (colonR (quotedR st).1) d)).2.2, Few v) ∧ ((entM (quotedR st) ks vs (valR n (colonR (quotedR st).1) d)).1.bad = false → st.nodes + 1 ≤ (entM (quotedR st) ks vs (valR n (colonR (quotedR st).1) d)).1.nodes) := by
          have hcn : (colonR (quotedR st).1).nodes = st.nodes := (colon_nodes _).trans (quoted_nodes st)
          unfold entM
          split
          · rename_i hcb
            exact fun _ => ⟨by simp only; omega, by simp only; omega, hl, by simp only; omega, hf, fun h => by simp only at h; rw [hcb] at h; cases h⟩
          · intro h
            obtain ⟨h1, h2, h3, h4⟩ := ih1 (colonR (quotedR st).1) d (by omega) h
            obtain ⟨p1, p2, p3⟩ := put_len hl (quotedR st).2 (valR n (colonR (quotedR st).1) d).2
            exact ⟨by simp only; omega, h2, p1, p3, few_put hf h3, fun h => by have := h4 h; simp only; omega⟩
        generalize entM (quotedR st) ks vs (valR n (colonR (quotedR st).1) d) = A at *
        have hsn := sep_nodes 125 many A.1
        split
        · rename_i hs
          rw [if_pos hs] at hb
          obtain ⟨h1, h2, h3, h4, h5, h6⟩ := hE (sep_big _ _ _ hb)
          exact ⟨by simp only; omega, by simp only; omega, h3, by simp only; omega, h5⟩
        · rename_i hs
          rw [if_neg hs] at hb
          have hbb := sep_bad' 125 many A.1 (by simpa using hs)
          obtain ⟨h1, h2, h3, h4, h5, h6⟩ := hE (sep_big _ _ _ ((bigs n).2.2 _ _ _ _ _ hb))
          have h6 := h6 hbb
          obtain ⟨g1, g2, g3, g4, g5⟩ := ih3 (sepR 125 many A.1).2 d (many + 1) A.2.1 A.2.2 (by omega) h3 h5 hb
          exact ⟨by omega, g2, g3, by omega, g5⟩
end Go.Proofs.YtdlejiiiifhiiaaGreatDoor
