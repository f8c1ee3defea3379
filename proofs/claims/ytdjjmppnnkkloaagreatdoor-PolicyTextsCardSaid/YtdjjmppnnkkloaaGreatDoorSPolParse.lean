import Derived.Test.YtdjjmppnnkkloaaGreatDoorSPolLine
namespace Go.Proofs.YtdjjmppnnkkloaaGreatDoor
open Sy Go
set_option maxRecDepth 100000
set_option maxHeartbeats 4000000
set_option linter.unusedSimpArgs false
set_option linter.unusedVariables false
variable {G : Glob}
theorem line_cats {p : Pol} {s : List UInt8} (h : catsMayM p.cats = 0) (h2 : (lineM p s).2 = true) : catsMayM (lineM p s).1.cats = 0 := by
  unfold lineM at h2 ⊢
  simp only at h2 ⊢
  split
  · rename_i h1; rw [if_pos h1] at h2; simpa using h2
  · split
    · exact h
    · split
      · exact h
      · split
        · exact h
        · split <;> exact h
theorem line_marks (p : Pol) (s : List UInt8) : (lineM p s).1.marks.length ≤ p.marks.length + 1 := by
  unfold lineM
  simp only
  repeat' split
  all_goals simp
theorem cutEnd_le (c : UInt8) (s : List UInt8) : (cutEnd c s).length ≤ s.length := by
  unfold cutEnd; split <;> simp
theorem split_le {c : UInt8} : ∀ {s : List UInt8} {l : List UInt8}, l ∈ splitB c s → l.length ≤ s.length
  | [], l, h => by simp [splitB] at h; simp [h]
  | b :: r, l, h => by
    simp only [splitB] at h
    split at h
    · rcases List.mem_cons.1 h with rfl | h
      · simp
      · have := split_le h; simp; omega
    · split at h
      · rename_i e; exact absurd e (splitB_ne c r)
      · rename_i x t e
        have hx := fun l => split_le (c := c) (s := r) (l := l)
        rw [e] at hx
        rcases List.mem_cons.1 h with rfl | h
        · have := hx x (by simp); simp; omega
        · have := hx l (List.mem_cons.2 (.inr h)); simp; omega
theorem polParse_ev (hG : U8 G) (hP : PW G) (hE : PE G) (s : List UInt8) (hs : s.length ≤ 90000) : AFn Tryz.prog G 11 [.str s] (.tup [(polParse s).1.enc, .int .i64 (polParse s).2]) := by
  refine AFn.introU tok Tryz.func11 (by kernel_rfl) rfl rfl ?_
  simp only [Tryz.f11, enumA, List.map_cons, List.map_nil]
  have htr := TrimSuffix_ev (G := G) s 10
  have htl := cutEnd_le 10 s
  have hsp := Split_ar (G := G) (cutEnd 10 s) 10 (by omega)
  have hwl : (splitB 10 (cutEnd 10 s)).length ≤ 90001 := by rw [splitB_len]; have : (cutEnd 10 s).count 10 ≤ (cutEnd 10 s).length := List.count_le_length; omega
  have hll : ∀ l ∈ splitB 10 (cutEnd 10 s), l.length ≤ 90000 := fun l hl => by have := split_le hl; omega
  have hrd : readP s = (splitB 10 (cutEnd 10 s)).foldl stepP (pol0, true) := rfl
  generalize splitB 10 (cutEnd 10 s) = ws at *
  generalize cutEnd 10 s = tr at *
  unfold polParse
  generalize readP s = R at *
  refine rgn [] [[], [0, 2]] ?_
  iterate 2 refine op1 tok ?_
  refine runEnd ?_
  refine rgn [] [[]] ?_
  refine op1 tok ?_
  refine runEnd ?_
  refine AW.renE 2 802 (by simp) (by conv => lhs; simp) ?_
  refine AW.renE 4 2 (by simp) (by conv => lhs; simp) ?_
  refine AW.fillE 2 [some 1] (by conv => lhs; simp) ?_
  refine AW.beginBox 2 3 1 59 2 (by simp; exact ⟨rfl, rfl⟩) (by simp) (by simp) (by conv => lhs; simp) ?_
  refine rgn [] [[]] ?_
  refine op1 tok ?_
  refine runEnd ?_
  refine AW.seq ?_
  refine rgn [.nilp, .str tr, .nilf, .sl 1 (ws.map PD.str), .clo 9 []] [[], [], [], [], [0, 2, 4, 5, 10, 11, 12]] ?_
  iterate 5 refine op1 tok ?_ (hv := by first | with_reducible exact True.intro | (first | exact htr | exact hsp | (simp; exact hsp); done) | omega | simp | (simp; omega) | (simp +contextual; omega))
  refine runEnd ?_
  refine AW.block ?_
  refine AW.loop (α := Nat × Pol × Bool) (fun a => a.1 ≤ ws.length ∧ R = (ws.drop a.1).foldl stepP a.2 ∧ (a.2.2 = true → catsMayM a.2.1.cats = 0) ∧ a.2.1.marks.length ≤ a.1) (fun a => ⟨upds 37 [(0, .p (.str s)), (2, .ptr 802 0), (4, .ptr 2 0), (5, .p (.bool a.2.2)), (10, .ms 10), (11, .p (.int .i64 ws.length)), (12, .p (.int .i64 a.1))], [], [(10, .row 9 1 (ws.map PD.str)), (3, .row 59 2 (a.2.1.marks.map Mk.enc)), (2, .vars 25 [.p (.sl 1 (a.2.1.cats.map PD.str)), .ms 3, .p (.str a.2.1.token), .p (.int .i64 a.2.1.fuel), .p (.int .i64 a.2.1.quota)]), (802, .vars 25 [.nilsl, .nilsl, .p (.str []), .p (.int .i64 0), .p (.int .i64 0)])], 0⟩) (fun a => ws.length - a.1) ((0, pol0, true)) ⟨by simp only []; omega, hrd, fun _ => by rfl, by simp [pol0]⟩ ⟨upds_le (by simp), rfl, by simp [pol0], by simp⟩ ?_
  rintro ⟨k, q, ok⟩ ⟨hk, hq, hc, hm⟩
  simp only at hk hq hc hm
  refine rgn [] [[]] ?_
  refine op1 tok ?_
  refine runEnd ?_
  refine AW.seq ?_
  refine cnd ?_ ?_
  · intro h13
    try simp at h13
    obtain ⟨l, hl⟩ : ∃ l, ws[k]? = some l := ⟨ws[k], by simp [h13]⟩
    rw [drop_get hl] at hq
    simp only [List.foldl_cons] at hq
    have hlen := hll l (List.mem_of_getElem? hl)
    refine AW.skip ?_
    refine AW.seq ?_
    refine AW.block ?_
    refine rgn [.str l] [[], [], [0, 2, 4, 5, 7, 10, 11, 12]] ?_
    iterate 3 refine op1 tok ?_ (hv := by first | with_reducible exact True.intro | (simp [hl]; done) | omega | simp | (simp; omega) | (simp +contextual; omega))
    refine runEnd ?_
    by_cases hs6 : ok = true
    ·
      subst hs6
      refine rgz [] [[], [], []] ?_
      iterate 2 refine op1 tok ?_
      refine op2 tok ?_
      refine runOff ?_
      refine AOpsO.stepKIf [0, 2, 4, 10, 11, 12, 17, 19] 17 rfl rfl (y_cx rfl (line_ax hG hP hE q l (hc rfl) (by omega) (by omega)) (by simp)) (by simp) (by conv => lhs; simp) ?_
      refine AOpsO.run [[], [0, 2, 4, 5, 10, 11, 12]] ?_
      iterate 2 refine op1 tok ?_
      refine runEnd ?_
      refine rgz [] [[], [0, 2, 4, 5, 10, 11, 12]] ?_
      iterate 2 refine op1 tok ?_
      refine runEnd ?_
      exact ⟨(k + 1, lineM q l), ⟨by simp only []; omega, hq, fun h => line_cats (hc rfl) h, by have := line_marks q l; simp only []; omega⟩, by simp only []; omega, upds_le (by simp), rfl, by simp, by simp⟩
    ·
      obtain rfl : ok = false := (by simpa using hs6)
      refine rgz [] [[], [], [], [0, 2, 4, 10, 11, 12, 17, 19], [], [0, 2, 4, 5, 10, 11, 12]] ?_
      iterate 2 refine op1 tok ?_
      iterate 2 refine op2 tok ?_
      iterate 2 refine op1 tok ?_
      refine runEnd ?_
      refine rgz [] [[], [0, 2, 4, 5, 10, 11, 12]] ?_
      iterate 2 refine op1 tok ?_
      refine runEnd ?_
      exact ⟨(k + 1, q, false), ⟨by simp only []; omega, hq, fun h => absurd h (by simp), by simp only []; omega⟩, by simp only []; omega, upds_le (by simp), rfl, by simp, by simp⟩
  · intro h13
    try simp at h13
    rw [List.drop_of_length_le h13] at hq
    simp only [List.foldl_nil] at hq
    subst hq
    have hM := polMay_ev hG q
    have hPr := fun h => polPrint_ev (G := G) hP q (may_pol.1 h)
    simp only [Pol.enc] at hM hPr
    refine AW.exit ?_
    simp
    refine AW.seq ?_
    refine AW.freezeE 3 (by conv => lhs; simp) ?_
    refine rgn [.nilp, .int .i64 (polMay q), .nilp, .str (polPrint q)] [[], [], [], [], [0, 2, 4, 24, 26], [], [], [0, 2, 4, 29], [], [], [], [2, 4, 29, 33], [2, 4, 34]] ?_
    iterate 13 first | refine op1 tok ?_ (hv := by first | with_reducible exact True.intro | (first | exact hM | ((repeat' (first | with_reducible apply And.intro | intro _)) <;> first | exact (hM) | exact (hPr (by omega)) | exact (hPr) | assumption | omega | contradiction | simp_all); done) | omega | simp | (simp; omega) | (simp +contextual; omega)) | refine op2 tok ?_ (hv := by first | with_reducible exact True.intro | (first | exact hM | ((repeat' (first | with_reducible apply And.intro | intro _)) <;> first | exact (hM) | exact (hPr (by omega)) | exact (hPr) | assumption | omega | contradiction | simp_all); done) | omega | simp | (simp; omega) | (simp +contextual; omega))
    refine runEnd ?_
    refine cnd ?_ ?_
    · intro h34
      try simp at h34
      rw [if_neg (by
        rintro ⟨h1, h2, h3⟩
        rcases h34 with (h | h) | h
        · rw [h1] at h; cases h
        · exact h h2
        · exact h h3)]
      refine rgn [] [[], [], [2, 3]] ?_
      iterate 3 refine op1 tok ?_
      refine runEnd ?_
      exact AW.ret ⟨.inr rfl, _, _, by (conv => lhs; simp), trivial, by simp [pol0]⟩
    · intro h34
      try simp at h34
      rw [if_pos ⟨h34.1.1, h34.1.2, h34.2⟩]
      refine AW.skip ?_
      refine rgn [] [[], [], [2, 3]] ?_
      iterate 3 refine op1 tok ?_
      refine runEnd ?_
      exact AW.ret ⟨.inr rfl, _, _, by (conv => lhs; simp), trivial, by simp⟩
end Go.Proofs.YtdjjmppnnkkloaaGreatDoor
