import Derived.Test.YtcbipkbdagkehaaGreatDoorSReader
namespace Go.Proofs.YtcbipkbdagkehaaGreatDoor
open Sy Go
set_option maxRecDepth 100000
set_option maxHeartbeats 4000000
set_option linter.unusedSimpArgs false
set_option linter.unusedVariables false
variable {G : Glob}
theorem sep_nodes (c : UInt8) (many : Nat) (st : RS) : (sepR c many st).2.nodes = st.nodes := by
 unfold sepR; simp only; split
 ·rfl
 ·split <;> simp
theorem sep_bad (c : UInt8) (many : Nat) (st : RS) (h : (sepR c many st).2.bad = false) : st.bad = false := by
 unfold sepR at h; simp only at h; split at h
 ·rename_i hb; rw [hb] at h; cases h
 ·rename_i hb; simpa using hb
theorem quoted_nodes (st : RS) : (quotedR st).1.nodes = st.nodes := by
 unfold quotedR quotedL; split
 ·rfl
 ·split <;> rfl
theorem quoted_bad (st : RS) (h : (quotedR st).1.bad = false) : st.bad = false := by
 unfold quotedR quotedL at h; split at h
 ·exact h
 ·split at h
  ·exact h
  ·cases h
theorem colon_nodes (st : RS) : (colonR st).nodes = st.nodes := by
 unfold colonR; split
 ·rfl
 ·simp
theorem atom_nodes (st : RS) : (atomR st).1.nodes = st.nodes := by
 unfold atomR
 split
 ·rfl
 ·split
  ·rfl
  ·split
   ·rfl
   ·split
    ·exact quoted_nodes st
    ·split <;> rfl
theorem atom_bad (st : RS) (h : (atomR st).1.bad = false) : st.bad = false := by
 unfold atomR at h
 split at h
 ·exact h
 ·split at h
  ·exact h
  ·split at h
   ·exact h
   ·split at h
    ·exact quoted_bad st h
    ·split at h
     ·simp only [numberR, Bool.or_eq_false_iff] at h; exact h.1
     ·cases h
theorem lens2 : ∀ n : Nat, (∀ st d, (valR n st d).1.bad = false → st.bad = false ∧ (valR n st d).1.nodes + (valR n st d).1.left.length ≤ st.nodes + st.left.length) ∧
  (∀ st d many vs, (lstR n st d many vs).1.bad = false → st.bad = false ∧ (lstR n st d many vs).1.nodes + (lstR n st d many vs).1.left.length ≤ st.nodes + st.left.length) ∧
  (∀ st d many ks vs, (objR n st d many ks vs).1.bad = false → st.bad = false ∧ (objR n st d many ks vs).1.nodes + (objR n st d many ks vs).1.left.length ≤ st.nodes + st.left.length)
 | 0 => ⟨fun st d h => by simp [valR] at h, fun st d many vs h => by simp [lstR] at h, fun st d many ks vs h => by simp [objR] at h⟩
 | n + 1 => by
  obtain ⟨ih1, ih2, ih3⟩ := lens2 n
  refine ⟨fun st d => ?_, fun st d many vs => ?_, fun st d many ks vs => ?_⟩
  ·have he := enter_le st d
   have hen : (enterR st d).nodes = st.nodes + 1 := rfl
   have heb : (enterR st d).bad = st.bad := rfl
   have ht : trimB (enterR st d).left = (enterR st d).left := trimB_trim _
   simp only [valR]
   split
   ·rename_i h
    have h1 := prefix_len h
    have h2 := tk_le [93] (dropR (enterR st d) 1)
    have h5 := tk_nodes [93] (dropR (enterR st d) 1)
    have h6 := tk_bad [93] (dropR (enterR st d) 1)
    simp only [dropR, List.length_drop, List.length_cons, List.length_nil] at h1 h2 h5 h6
    split
    ·simp only [dropR]; intro hb; exact ⟨by rw [← heb, ← h6]; exact hb, by omega⟩
    ·have h3 := ih2 (tk [93] (dropR (enterR st d) 1)).2 (d + 1) 1 []
     simp only [dropR] at h3 ⊢
     intro hb
     obtain ⟨h7, h8⟩ := h3 hb
     exact ⟨by rw [← heb, ← h6]; exact h7, by omega⟩
   ·split
    ·rename_i h
     have h1 := prefix_len h
     have h2 := tk_le [125] (dropR (enterR st d) 1)
     have h5 := tk_nodes [125] (dropR (enterR st d) 1)
     have h6 := tk_bad [125] (dropR (enterR st d) 1)
     simp only [dropR, List.length_drop, List.length_cons, List.length_nil] at h1 h2 h5 h6
     split
     ·simp only [dropR]; intro hb; exact ⟨by rw [← heb, ← h6]; exact hb, by omega⟩
     ·have h3 := ih3 (tk [125] (dropR (enterR st d) 1)).2 (d + 1) 1 [] []
      simp only [dropR] at h3 ⊢
      intro hb
      obtain ⟨h7, h8⟩ := h3 hb
      exact ⟨by rw [← heb, ← h6]; exact h7, by omega⟩
    ·have h1 := atom_lt (enterR st d) ht
     have h2 := atom_nodes (enterR st d)
     intro hb
     have := h1.2 hb
     exact ⟨heb ▸ atom_bad _ hb, by omega⟩
  ·simp only [lstR]
   split
   ·rename_i hb; intro h; simp only at h; rw [h] at hb; cases hb
   ·rename_i hb
    have hb' : st.bad = false := by simpa using hb
    have h1 := ih1 st d
    have h2 := sep_le 93 many (valR n st d).1
    have h3 := sep_nodes 93 many (valR n st d).1
    have h4 := sep_bad 93 many (valR n st d).1
    split
    ·simp only; intro h; have := h1 (h4 h); exact ⟨hb', by omega⟩
    ·intro h
     obtain ⟨h5, h6⟩ := ih2 (sepR 93 many (valR n st d).1).2 d (many + 1) (vs ++ [(valR n st d).2]) h
     have := h1 (h4 h5); exact ⟨hb', by omega⟩
  ·simp only [objR]
   split
   ·rename_i hb; intro h; simp only at h; rw [h] at hb; cases hb
   ·rename_i hb
    have hb' : st.bad = false := by simpa using hb
    have h1 := quoted_le st
    have h1' := quoted_nodes st
    have h2 := colon_le (quotedR st).1
    have h2' := colon_nodes (quotedR st).1
    have h3 := ih1 (colonR (quotedR st).1) d
    generalize hA : (if (colonR (quotedR st).1).bad = true then (colonR (quotedR st).1, ks, vs) else ((valR n (colonR (quotedR st).1) d).1, putM ks vs (quotedR st).2 (valR n (colonR (quotedR st).1) d).2)) = A
    have h4 : A.1.bad = false → A.1.nodes + A.1.left.length ≤ st.nodes + st.left.length := by
     rw [← hA]; split
     ·rename_i h; intro h'; simp only at h'; rw [h] at h'; cases h'
     ·intro h'; have := (h3 h').2; simp only; omega
    have h5 := sep_le 125 many A.1
    have h6 := sep_nodes 125 many A.1
    have h7 := sep_bad 125 many A.1
    split
    ·simp only; intro h; have := h4 (h7 h); exact ⟨hb', by omega⟩
    ·intro h
     obtain ⟨h8, h9⟩ := ih3 (sepR 125 many A.1).2 d (many + 1) A.2.1 A.2.2 h
     have := h4 (h7 h8); exact ⟨hb', by omega⟩
def lstM (n : Nat) (st : RS) (d : Nat) : RS × List Val := if (tk [93] st).1 = true then ((tk [93] st).2, []) else lstR n (tk [93] st).2 d 1 []
theorem lst_step (n : Nat) (st : RS) (d many : Nat) (vs : List Val) : lstR (n + 1) st d many vs = if st.bad = true then (st, vs) else if (sepR 93 many (valR n st d).1).1 = true then ((sepR 93 many (valR n st d).1).2, vs ++ [(valR n st d).2]) else lstR n (sepR 93 many (valR n st d).1).2 d (many + 1) (vs ++ [(valR n st d).2]) := by
 simp only [lstR]
def idxT (ks : List (List UInt8)) (s : List UInt8) : Int := if s ∈ ks then (ks.idxOf s : Int) else -1
theorem idxT_ax (l : List (List UInt8)) (s : List UInt8) : AX Tryz.prog G 214 [.ms 3, .p (.str s)] [(3, .row 9 1 (l.map PD.str))] (.p (.int .i64 (idxT l s))) [3] [(3, .row 9 1 (l.map PD.str))] := by
 refine AX.introU tok 900 Tryz.func214 (by kernel_rfl) rfl rfl ?_
 simp only [Tryz.f214, enumA, List.map_cons, List.map_nil]
 refine rgn [] [[0, 1]] ?_
 refine op1 tok ?_
 refine runEnd ?_
 refine AW.seq ?_
 refine rgn [] [[], [], [0, 1, 7, 8]] ?_
 iterate 3 refine op1 tok ?_
 refine runEnd ?_
 refine AW.block ?_
 refine AW.intFactU (i := 7) rfl (by decide) ?_; intro hlen; simp at hlen
 refine AW.loop (α := Nat) (fun k => k ≤ l.length ∧ s ∉ l.take k) (fun k => ⟨upds 19 [(0, .ms 3), (1, .p (.str s)), (7, .p (.int .i64 l.length)), (8, .p (.int .i64 k))], [3], [(3, .row 9 1 (l.map PD.str))], 900⟩) (fun k => l.length - k) (0) ⟨by omega, by simp⟩ ⟨upds_le (by simp), rfl, by simp, by simp⟩ ?_
 rintro k ⟨hk, hno⟩
 refine rgn [] [[]] ?_
 refine op1 tok ?_
 refine runEnd ?_
 refine AW.seq ?_
 refine cnd ?_ ?_
 ·intro h9
  try simp at h9
  obtain ⟨x, hx⟩ : ∃ x, l[k]? = some x := ⟨l[k], by simp [h9]⟩
  refine AW.skip ?_
  refine AW.seq ?_
  refine AW.block ?_
  refine rgn [] [[], [0, 1, 5, 7, 8]] ?_
  iterate 2 refine op1 tok ?_
  refine runEnd ?_
  refine rgn [.str x] [[], [], [], [], [], [0, 1, 5, 7, 8, 16]] ?_
  iterate 6 refine op1 tok ?_ (hv := by first | with_reducible exact True.intro | (simp [hx]; done) | omega | simp | (simp; omega) | (simp +contextual; omega))
  refine runEnd ?_
  refine cnd ?_ ?_
  ·intro h16
   try simp at h16
   have hR : idxT l s = k := by
    have hm : s ∈ l := by rw [h16]; exact List.mem_of_getElem? hx
    unfold idxT; rw [if_pos hm]
    have : l.idxOf s = k := by
     obtain ⟨h1, h2⟩ := List.getElem?_eq_some_iff.1 hx
     have h3 := List.take_append_drop k l
     rw [← h3, List.idxOf_append, if_neg hno, List.drop_eq_getElem_cons h1, h2, h16, List.idxOf_cons_self]
     simp; omega
    rw [this]
   refine rgn [] [[], [4]] ?_
   iterate 2 refine op1 tok ?_
   refine runEnd ?_
   exact AW.ret ⟨.inr rfl, _, _, by (conv => lhs; simp), trivial, by simp [hR], by simp, by simp, by simp⟩
  ·intro h16
   try simp at h16
   refine AW.skip ?_
   refine rgz [] [[], [0, 1, 7, 8]] ?_
   iterate 2 refine op1 tok ?_
   refine runEnd ?_
   exact ⟨k + 1, ⟨by omega, by rw [List.take_add_one, hx]; simp; exact ⟨hno, h16⟩⟩, by omega, upds_le (by simp), rfl, by simp, by simp⟩
 ·intro h9
  try simp at h9
  have hR : idxT l s = -1 := by rw [List.take_of_length_le h9] at hno; unfold idxT; rw [if_neg hno]
  refine AW.exit ?_
  simp
  refine rgn [] [[]] ?_
  refine op1 tok ?_
  refine runEnd ?_
  exact AW.ret ⟨.inr rfl, _, _, by (conv => lhs; simp), trivial, by simp [hR], by simp, by simp, by simp⟩
def objM (n : Nat) (st : RS) (d : Nat) : RS × List (List UInt8) × List Val := if (tk [125] st).1 = true then ((tk [125] st).2, [], []) else objR n (tk [125] st).2 d 1 [] []
theorem put_len {ks : List (List UInt8)} {vs : List Val} (h : ks.length = vs.length) (key : List UInt8) (v : Val) : (putM ks vs key v).1.length = (putM ks vs key v).2.length ∧ vs.length ≤ (putM ks vs key v).2.length ∧ (putM ks vs key v).2.length ≤ vs.length + 1 := by
 unfold putM; split
 ·simp [h]
 ·simp [h]
end Go.Proofs.YtcbipkbdagkehaaGreatDoor
