import Derived.Test.YtdjjmppnnkkloaaGreatDoorSRefW
import Derived.Test.YtdjjmppnnkkloaaGreatDoorSUnq3
import Derived.Test.YtdjjmppnnkkloaaGreatDoorM3
namespace Go.Proofs.YtdjjmppnnkkloaaGreatDoor
open Sy Go
set_option maxRecDepth 100000
set_option maxHeartbeats 4000000
set_option linter.unusedSimpArgs false
set_option linter.unusedVariables false
variable {G : Glob}
theorem write7_ev (hP : PW G) (t : Step) (hk : t.key.length ≤ 1000000) (hn : -9223372036854775808 ≤ t.n ∧ t.n ≤ 9223372036854775807) : AFn Tryz.prog G 91 [t.enc] (.str (writtenT t)) := by
  refine AFn.introU tok Tryz.func91 (by kernel_rfl) rfl rfl ?_
  simp only [Tryz.f91, enumA, List.map_cons, List.map_nil]
  have hnl := Lib.itoa_length_le t.n hn.1 hn.2
  have hm := refMayName_ev (G := G) t.key (by omega)
  have hq := Quote3_ev (G := G) t.key (by omega)
  have hi := itoa_ev (G := G) hP t.n
  have hql := qBody_le63 t.key
  have hqq : (quoteT t.key).length ≤ 6000010 := by simp only [quoteT, List.length_cons, List.length_append, List.length_nil]; omega
  unfold writtenT
  generalize quoteT t.key = Q at *
  refine rgn [] [[], [1]] ?_
  iterate 2 refine op1 tok ?_
  refine runEnd ?_
  refine AW.seq ?_
  refine rgn [] [[], [1, 4]] ?_
  iterate 2 refine op1 tok ?_
  refine runEnd ?_
  refine AW.block ?_
  refine rgn [] [[], [1, 4, 5]] ?_
  iterate 2 refine op1 tok ?_
  refine runEnd ?_
  refine cnd ?_ ?_
  · intro h5
    try simp at h5
    refine AW.seq ?_
    refine rgn [.nilp, .bool (mayNameM t.key)] [[], [], [1, 9]] ?_
    iterate 3 refine op1 tok ?_ (hv := by first | with_reducible exact True.intro | (exact hm; done) | omega | simp | (simp; omega) | (simp +contextual; omega))
    refine runEnd ?_
    refine cnd ?_ ?_
    · intro h9
      try simp at h9
      rw [if_pos ⟨h5, h9⟩]
      refine rgn [] [[], [], [], [2]] ?_
      iterate 4 refine op1 tok ?_
      refine runEnd ?_
      exact AW.ret ⟨.inr rfl, _, _, by (conv => lhs; simp), trivial, by simp⟩
    · intro h9
      try simp at h9
      rw [if_neg (fun h => by rw [h9] at h; exact absurd h.2 (by simp)), if_pos h5]
      refine AW.skip ?_
      refine rgn [.nilp, .str Q] [[], [], [], [16], [], [2]] ?_
      iterate 6 refine op1 tok ?_ (hv := by first | with_reducible exact True.intro | (first | exact hq | (simp; omega); done) | omega | simp | (simp; omega) | (simp +contextual; omega))
      refine runEnd ?_
      exact AW.ret ⟨.inr rfl, _, _, by (conv => lhs; simp), trivial, by simp⟩
  · intro h5
    try simp at h5
    rw [if_neg (fun h => h5 h.1), if_neg h5]
    refine rgn [] [[], [1, 4, 18]] ?_
    iterate 2 refine op1 tok ?_
    refine runEnd ?_
    refine cnd ?_ ?_
    · intro h18
      try simp at h18
      rw [if_pos h18]
      refine rgn [.nilp, .str (Lib.itoa t.n)] [[], [], [], [23], [], [2]] ?_
      iterate 6 refine op1 tok ?_ (hv := by first | with_reducible exact True.intro | (first | exact hi | (simp; omega); done) | omega | simp | (simp; omega) | (simp +contextual; omega))
      refine runEnd ?_
      exact AW.ret ⟨.inr rfl, _, _, by (conv => lhs; simp), trivial, by simp⟩
    · intro h18
      try simp at h18
      rw [if_neg h18]
      refine rgn [] [[], [4, 25]] ?_
      iterate 2 refine op1 tok ?_
      refine runEnd ?_
      refine cnd ?_ ?_
      · intro h25
        try simp at h25
        rw [if_pos h25]
        refine rgn [] [[]] ?_
        refine op1 tok ?_
        refine runEnd ?_
        exact AW.ret ⟨.inr rfl, _, _, by (conv => lhs; simp), trivial, by simp⟩
      · intro h25
        try simp at h25
        rw [if_neg h25]
        refine rgn [] [[], [27]] ?_
        iterate 2 refine op1 tok ?_
        refine runEnd ?_
        refine cnd ?_ ?_
        · intro h27
          try simp at h27
          rw [if_pos h27]
          refine rgn [] [[]] ?_
          refine op1 tok ?_
          refine runEnd ?_
          exact AW.ret ⟨.inr rfl, _, _, by (conv => lhs; simp), trivial, by simp⟩
        · intro h27
          try simp at h27
          rw [if_neg h27]
          refine AW.skip ?_
          refine rgn [] [[]] ?_
          refine op1 tok ?_
          refine runEnd ?_
          exact AW.ret ⟨.inr rfl, _, _, by (conv => lhs; simp), trivial, by simp⟩
theorem nm_step (b : UInt8) : mayNameM [97, b] = isNm b := by
  rw [name_spec]
  have h97 : nmB 97 = true := by decide
  have h1 : hdB [97, b] = true := by show ltB 97 = true; decide
  simp only [List.all_cons, List.all_nil, h97, h1, Bool.true_and, Bool.and_true, List.length_cons, List.length_nil]
  unfold isNm nmB
  rw [(nm_at b).1]
  simp
theorem tw_take {p : UInt8 → Bool} : ∀ {s : List UInt8} {k : Nat}, k ≤ s.length → (s.take k).all p = true → (∀ b, s[k]? = some b → p b = false) → (s.takeWhile p).length = k
  | [], k, hk, _, _ => by simp at hk; subst hk; rfl
  | b :: s, 0, _, _, h => by
    have := h b rfl
    rw [List.takeWhile_cons, if_neg (by simp [this])]; rfl
  | b :: s, k + 1, hk, ha, h => by
    simp only [List.take_succ_cons, List.all_cons, Bool.and_eq_true] at ha
    rw [List.takeWhile_cons, if_pos ha.1, List.length_cons, tw_take (by simpa using hk) ha.2 (fun c hc => h c (by simpa using hc))]
theorem name7_ev (s : List UInt8) (hs : s.length ≤ 1000000000) : AFn Tryz.prog G 111 [.str s] (.int .i64 (s.takeWhile isNm).length) := by
  refine AFn.introU tok Tryz.func111 (by kernel_rfl) rfl rfl ?_
  simp only [Tryz.f111, enumA, List.map_cons, List.map_nil]
  refine rgn [] [[0]] ?_
  refine op1 tok ?_
  refine runEnd ?_
  refine rgn [] [[]] ?_
  refine op1 tok ?_
  refine runEnd ?_
  refine AW.seq ?_
  refine AW.block ?_
  refine AW.loop (α := Nat) (fun k => k ≤ s.length ∧ (s.take k).all isNm = true) (fun k => ⟨upds 20 [(0, .p (.str s)), (3, .p (.int .i64 k))], [], [], 0⟩) (fun k => s.length - k) (0) ⟨by omega, by simp⟩ ⟨upds_le (by simp), rfl, by simp, by simp⟩ ?_
  rintro k ⟨hk, ha⟩
  have hc : k < s.length → s[k]? = some (s.getD k 0) := fun h => by rw [List.getD_eq_getElem?_getD, List.getElem?_eq_getElem h]; rfl
  generalize s.getD k 0 = c at *
  have hsl : k < s.length → (s.take (k + 1)).drop k = [c] := fun h => by
    have h2 := List.getElem?_eq_some_iff.1 (hc h)
    rw [List.drop_take, List.drop_eq_getElem_cons h2.1, h2.2, show k + 1 - k = 1 by omega]; rfl
  have hn := refMayName_ev (G := G) [97, c] (by simp)
  rw [nm_step] at hn
  refine AW.seq ?_
  refine rgn [.nilp, .bool (isNm c)] [[], [], [], [], [0, 3, 8], [], [], [], [], [0, 3, 8, 13], [], [], [0, 3, 16]] ?_
  iterate 5 refine op1 tok ?_ (hv := by first | with_reducible exact True.intro | ((intro h; refine ⟨h, ?_⟩; first | omega | (rw [hsl (by omega)]; first | exact hn | (simp; done))); done) | omega | simp | (simp; omega) | (simp +contextual; omega))
  iterate 7 refine op2 tok ?_ (hv := by first | with_reducible exact True.intro | ((intro h; refine ⟨h, ?_⟩; first | omega | (rw [hsl (by omega)]; first | exact hn | (simp; done))); done) | omega | simp | (simp; omega) | (simp +contextual; omega))
  refine op1 tok ?_ (hv := by first | with_reducible exact True.intro | ((intro h; refine ⟨h, ?_⟩; first | omega | (rw [hsl (by omega)]; first | exact hn | (simp; done))); done) | omega | simp | (simp; omega) | (simp +contextual; omega))
  refine runEnd ?_
  refine cnd ?_ ?_
  · intro h16
    try simp at h16
    have ha2 : (s.take (k + 1)).all isNm = true := by
      rw [List.take_add_one, hc (by omega), List.all_append, ha]
      simp [h16.2]
    refine AW.skip ?_
    refine AW.block ?_
    refine rgz [] [[], [], [0, 3]] ?_
    iterate 3 refine op1 tok ?_
    refine runEnd ?_
    exact ⟨k + 1, ⟨by omega, ha2⟩, by omega, upds_le (by simp), rfl, by simp, by simp⟩
  · intro h16
    try simp at h16
    have hfin := tw_take hk ha (fun b hb => by
      have hl := (List.getElem?_eq_some_iff.1 hb).1
      rw [hc hl] at hb
      cases hb
      exact h16 (by omega))
    rw [hfin]
    refine AW.exit ?_
    simp
    refine rgn [] [[], [2]] ?_
    iterate 2 refine op1 tok ?_
    refine runEnd ?_
    exact AW.ret ⟨.inr rfl, _, _, by (conv => lhs; simp), trivial, by simp⟩
theorem printS_snoc {l : List Step} {k : Nat} {t : Step} (h : l[k]? = some t) : printS (l.take (k + 1)) = printS (l.take k) ++ writtenT t := by
  unfold printS
  rw [List.take_add_one, h]
  simp
theorem refPrint7_ev (hP : PW G) (l : List Step) (hm : mayL l = 0) : AFn Tryz.prog G 54 [.sl 3 (l.map Step.enc)] (.str (printS l)) := by
  refine AFn.introU tok Tryz.func54 (by kernel_rfl) rfl rfl ?_
  simp only [Tryz.f54, enumA, List.map_cons, List.map_nil]
  have hz := may_zeroL hm
  have hpl : ∀ k, (printS (l.take k)).length ≤ 1601 := fun k => by
    have h1 : (l.take k).all mayM = true := List.all_eq_true.2 fun t ht => List.all_eq_true.1 hz.1 t (List.mem_of_mem_take ht)
    have := flat_le h1
    have h2 : (l.take k).length ≤ 8 := by simp; omega
    simp only [printS, List.length_cons]; omega
  refine rgn [] [[0]] ?_
  refine op1 tok ?_
  refine runEnd ?_
  refine rgn [] [[]] ?_
  refine op1 tok ?_
  refine runEnd ?_
  refine AW.seq ?_
  refine rgn [] [[]] ?_
  refine op1 tok ?_
  refine runEnd ?_
  refine AW.block ?_
  refine AW.loop (α := Nat) (fun k => k ≤ l.length) (fun k => ⟨upds 19 [(0, .p (.sl 3 (l.map Step.enc))), (3, .p (.str (printS (l.take k)))), (4, .p (.int .i64 k))], [], [], 0⟩) (fun k => l.length - k) (0) (by omega) ⟨upds_le (by simp [printS]), rfl, by simp, by simp⟩ ?_
  rintro k hk
  refine AW.seq ?_
  refine rgn [] [[], [], [], [0, 3, 4, 8]] ?_
  iterate 4 refine op1 tok ?_
  refine runEnd ?_
  refine cnd ?_ ?_
  · intro h8
    try simp at h8
    obtain ⟨t, ht⟩ : ∃ t, l[k]? = some t := ⟨l[k]'(by omega), List.getElem?_eq_getElem _⟩
    have hmt := List.all_eq_true.1 hz.1 t (List.mem_of_getElem? ht)
    have hw := write7_ev (G := G) hP t (by
      have := ok_may hmt
      rcases this with h | h | h
      · omega
      · rw [h.2.2.2]; simp
      · rw [h.2.1]; simp) (by
      have := ok_may hmt
      rcases this with h | h | h
      · omega
      · omega
      · omega)
    have hsn := printS_snoc ht
    have h1 := hpl k
    have h2 := hpl (k + 1)
    rw [hsn, List.length_append] at h2
    generalize printS (l.take k) = q at *
    generalize writtenT t = w at *
    refine AW.skip ?_
    refine AW.seq ?_
    refine AW.block ?_
    refine rgz [t.enc, .nilp, .str w] [[], [], [], [], [0, 4, 11, 15], [], [], [0, 3, 4]] ?_
    iterate 8 refine op1 tok ?_ (hv := by first | with_reducible exact True.intro | (first | exact hw | (simp [ht]; done) | (simp [ht]; omega) | (simp; omega); done) | omega | simp | (simp; omega) | (simp +contextual; omega))
    refine runEnd ?_
    refine rgz [] [[], [], [0, 3, 4]] ?_
    iterate 3 refine op1 tok ?_
    refine runEnd ?_
    exact ⟨k + 1, by omega, by omega, upds_le (by simp [hsn]), rfl, by simp [hsn], by simp [hsn]⟩
  · intro h8
    try simp at h8
    rw [List.take_of_length_le (by omega)]
    refine AW.exit ?_
    simp
    refine rgn [] [[], [2]] ?_
    iterate 2 refine op1 tok ?_
    refine runEnd ?_
    exact AW.ret ⟨.inr rfl, _, _, by (conv => lhs; simp), trivial, by simp⟩
end Go.Proofs.YtdjjmppnnkkloaaGreatDoor
