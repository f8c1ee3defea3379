import Derived.Test.YtdjjmppnnkkloaaGreatDoorSRefTL
import Derived.Test.YtdjjmppnnkkloaaGreatDoorM3
namespace Go.Proofs.YtdjjmppnnkkloaaGreatDoor
open Sy Go
set_option maxRecDepth 100000
set_option maxHeartbeats 4000000
set_option linter.unusedSimpArgs false
set_option linter.unusedVariables false
variable {G : Glob}
theorem parse7_end {l : List Step} {s : List UInt8} (h : parseO s = some l) : parseT s = if 8 < l.length then ([], 3) else (l, 0) := by
  unfold parseT; rw [h]; rfl
theorem parse7_no {s : List UInt8} (h : parseO s = none) : parseT s = ([], 21) := by
  unfold parseT; rw [h]; rfl
theorem parseO_cons (b : UInt8) (r : List UInt8) : parseO (b :: r) = if b = 36 then parseF (r.length + 1) r else none := by
  unfold parseO hasPre
  by_cases h : b = 36
  · subst h; simp
  · simp [h]
theorem parseF_fuel {n m : Nat} {q : List UInt8} (hn : q.length ≤ n) (hm : q.length ≤ m) : parseF n q = parseF m q := by
  have key : ∀ n m l, q.length ≤ m → parseF n q = some l → parseF m q = some l := fun n m l hm h => by
    obtain ⟨e, ha⟩ := parse_inv n q l h
    rw [e] at hm ⊢
    exact parse_back l m ha (by have := flat_len l; omega)
  cases h : parseF n q with
  | some l => exact (key n m l hm h).symm
  | none => cases h2 : parseF m q with
    | none => rfl
    | some l => rw [key m n l hn h2] at h; cases h
theorem refParse7_ev (hP : PW G) (s : List UInt8) (hs : s.length ≤ 100000) : AFn Tryz.prog G 37 [.str s] (.tup [.sl 3 ((parseT s).1.map Step.enc), .int .i64 (parseT s).2]) := by
  refine AFn.introU tok Tryz.func37 (by kernel_rfl) rfl rfl ?_
  simp only [Tryz.f37, enumA, List.map_cons, List.map_nil]
  have h0 : s = [] → parseT s = ([], 21) := fun h => by subst h; rfl
  have h1 : ∀ b r, s = b :: r → parseO s = if b = 36 then parseF (r.length + 1) r else none := fun b r h => by subst h; exact parseO_cons b r
  have hend := fun l => parse7_end (l := l) (s := s)
  have hno := parse7_no (s := s)
  generalize parseT s = R at *
  have hc : 0 < s.length → s[0]? = some (s.getD 0 0) ∧ s = s.getD 0 0 :: s.drop 1 := fun h => by cases s with
    | nil => cases h
    | cons a r => simp
  generalize s.getD 0 0 = c at *
  have l36 : ((c.toNat : Int) = 36) ↔ c = 36 := u8_litU c 36 (by decide)
  refine rgn [] [[], [0]] ?_
  iterate 2 refine op1 tok ?_
  refine runEnd ?_
  refine AW.seq ?_
  refine rgn [.int .u8 c.toNat] [[], [], [], [], [], [0, 10, 12], [], [0, 14]] ?_
  iterate 4 refine op1 tok ?_ (hv := by first | with_reducible exact True.intro | ((intro h; have hh := List.length_pos_iff.2 h; exact ⟨h, c, (hc hh).1, rfl⟩); done) | omega | simp | (simp; omega) | (simp +contextual; omega))
  iterate 3 refine op2 tok ?_ (hv := by first | with_reducible exact True.intro | ((intro h; have hh := List.length_pos_iff.2 h; exact ⟨h, c, (hc hh).1, rfl⟩); done) | omega | simp | (simp; omega) | (simp +contextual; omega))
  refine op1 tok ?_ (hv := by first | with_reducible exact True.intro | ((intro h; have hh := List.length_pos_iff.2 h; exact ⟨h, c, (hc hh).1, rfl⟩); done) | omega | simp | (simp; omega) | (simp +contextual; omega))
  refine runEnd ?_
  refine cnd ?_ ?_
  · intro h14
    try simp at h14
    have hR : R = ([], 21) := by
      by_cases hl : s = []
      · exact h0 hl
      · have hp := List.length_pos_iff.2 hl
        have := h1 c (s.drop 1) (hc hp).2
        rw [if_neg (fun e => by
          rcases h14 with h | h
          · exact hl h
          · exact h (l36.2 e))] at this
        exact hno this
    rw [hR]
    refine rgn [] [[], []] ?_
    iterate 2 refine op1 tok ?_
    refine runEnd ?_
    exact AW.ret ⟨.inr rfl, _, _, by (conv => lhs; simp), trivial, by simp⟩
  · intro h14
    try simp at h14
    have hp : 0 < s.length := List.length_pos_iff.2 h14.1
    have hO := h1 c (s.drop 1) (hc hp).2
    rw [if_pos (l36.1 h14.2)] at hO
    have hdl : (s.drop 1).length ≤ 100000 := by simp; omega
    have hpl : ∀ (n : Nat) (q : List UInt8) (l : List Step), parseF n q = some l → l.length ≤ q.length := fun n q l h => by
      have := (parse_inv n q l h).1
      have h2 := flat_len l
      rw [← this] at h2; exact h2
    refine AW.skip ?_
    refine rgn [] [[], [], [0]] ?_
    iterate 3 refine op1 tok ?_
    refine runEnd ?_
    refine rgn [] [[], [0, 4]] ?_
    iterate 2 refine op1 tok ?_
    refine runEnd ?_
    refine AW.seq ?_
    refine AW.block ?_
    refine AW.loop (α := List UInt8 × List Step) (fun a => a.1.length + a.2.length ≤ 100000 ∧ parseO s = (parseF (a.1.length + 1) a.1).map (a.2 ++ ·)) (fun a => ⟨upds 39 [(0, .p (.str a.1)), (4, .ms 17)], [], [(17, .row 57 3 (a.2.map Step.enc))], 0⟩) (fun a => a.1.length) ((s.drop 1, [])) ⟨by simp only [List.length_nil]; omega, by rw [hO]; simp⟩ ⟨upds_le (by simp), rfl, by simp, by simp⟩ ?_
    rintro ⟨q, out⟩ ⟨hl, hq⟩
    simp only at hl hq
    have hrd := read7_ev (G := G) hP q (by omega)
    have hfail := fun hne h => parseF_fail (n := q.length + 1) (s := q) hne h
    have hstep := fun h => parseF_step (n := q.length) (s := q) (by omega) h
    have hok := rd_ok (s := q)
    generalize rdR q = r at *
    obtain ⟨t, n⟩ := r
    simp only at hrd hfail hstep hok
    refine AW.seq ?_
    refine rgn [] [[], [], [0, 4, 20]] ?_
    iterate 3 refine op1 tok ?_
    refine runEnd ?_
    refine cnd ?_ ?_
    · intro h20
      try simp at h20
      refine AW.skip ?_
      refine AW.block ?_
      refine rgn [.nilp, .tup [t.enc, .int .i64 n]] [[], [], [], [], [], [], [0, 4, 5, 25], [0, 4, 5, 6]] ?_
      iterate 8 refine op1 tok ?_ (hv := by first | with_reducible exact True.intro | (exact hrd; done) | omega | simp | (simp; omega) | (simp +contextual; omega))
      refine runEnd ?_
      refine AW.seq ?_
      refine rgn [] [[], [0, 4, 5, 6, 27]] ?_
      iterate 2 refine op1 tok ?_
      refine runEnd ?_
      refine cnd ?_ ?_
      · intro h27
        try simp at h27
        rw [hfail (by rintro rfl; simp at h20) (by omega)] at hq
        rw [hno (by rw [hq]; rfl)]
        refine rgn [] [[], []] ?_
        iterate 2 refine op1 tok ?_
        refine runEnd ?_
        exact AW.ret ⟨.inr rfl, _, _, by (conv => lhs; simp), trivial, by simp⟩
      · intro h27
        try simp at h27
        have hne : n ≠ 0 := by omega
        have hs2 := hstep hne
        have hok2 := hok hne
        have hdl2 : (q.drop n).length = q.length - n := by simp
        have hpf : parseF q.length (q.drop n) = parseF ((q.drop n).length + 1) (q.drop n) := parseF_fuel (by omega) (by omega)
        rw [hs2, hpf] at hq
        refine AW.skip ?_
        refine rgn [t.enc] [[], [], [], [0, 6, 31], [0, 4, 6]] ?_
        iterate 5 refine op1 tok ?_
        refine runEnd ?_
        refine rgz [] [[], [], [4, 34], [0, 4]] ?_
        iterate 4 refine op1 tok ?_
        refine runEnd ?_
        exact ⟨(q.drop n, out ++ [t]), ⟨by simp; omega, by rw [hq]; simp [Option.map_map]; rfl⟩, by simp only []; omega, upds_le (by simp), rfl, by simp, by simp⟩
    · intro h20
      try simp at h20
      obtain rfl : q = [] := by simpa using h20
      have hq2 : parseO s = some out := by rw [hq]; simp [parseF]
      have hR := hend out hq2
      refine AW.exit ?_
      simp
      refine AW.seq ?_
      refine rgn [] [[], [], [4, 37]] ?_
      iterate 3 refine op1 tok ?_
      refine runEnd ?_
      refine cnd ?_ ?_
      · intro h37
        try simp at h37
        rw [if_pos (by omega)] at hR
        rw [hR]
        refine rgn [] [[], []] ?_
        iterate 2 refine op1 tok ?_
        refine runEnd ?_
        exact AW.ret ⟨.inr rfl, _, _, by (conv => lhs; simp), trivial, by simp⟩
      · intro h37
        try simp at h37
        rw [if_neg (by omega)] at hR
        rw [hR]
        refine AW.skip ?_
        refine AW.freezeE 17 (by conv => lhs; simp) ?_
        refine rgn [] [[], [], [2, 3]] ?_
        iterate 3 refine op1 tok ?_
        refine runEnd ?_
        exact AW.ret ⟨.inr rfl, _, _, by (conv => lhs; simp), trivial, by simp⟩
end Go.Proofs.YtdjjmppnnkkloaaGreatDoor
