import Derived.Test.YtdjjmppnnkkloaaGreatDoorSRefX8
import Derived.Test.YtdjjmppnnkkloaaGreatDoorSRefQ7
namespace Go.Proofs.YtdjjmppnnkkloaaGreatDoor
open Sy Go
set_option maxRecDepth 100000
set_option maxHeartbeats 4000000
set_option linter.unusedSimpArgs false
set_option linter.unusedVariables false
variable {G : Glob}
theorem catj_snoc {cats : List (List UInt8)} {k : Nat} {c : List UInt8} (h : cats[k]? = some c) : Lib.join (kwCats :: cats.take (k + 1)) [32] = Lib.join (kwCats :: cats.take k) [32] ++ [32] ++ c := by
  have := join_snoc (kwCats :: cats.take k) c
  rw [if_neg (by simp)] at this
  rw [List.take_add_one, h, Option.toList_some, ← List.cons_append, this]; simp
theorem mark_text (cats : List (List UInt8)) (m : Mk) : markT cats m = [109, 97, 114, 107, 32] ++ namesT cats m.mask ++ [32] ++ printS m.path ++ [10] := by
  unfold markT rowT
  rw [join_two, join_two, Lib.join_one]; simp [kwMark]
theorem tail_text (p : Pol) : polPrint p = headT p p.marks.length ++ [116, 111, 107, 101, 110, 32] ++ quoteT p.token ++ [10] ++ [102, 117, 101, 108, 32] ++ Lib.itoa p.fuel ++ [10, 113, 117, 111, 116, 97, 32] ++ Lib.itoa p.quota ++ [10] := by
  unfold polPrint rowT
  rw [join_two, join_two, join_two, Lib.join_one, Lib.join_one, Lib.join_one]; simp [kwToken, kwFuel, kwQuota]
theorem refPrint8_ev (hP : PW G) (p : Pol) (h : PolOK p) (hi : ∀ m ∈ p.marks, InM m.mask) : AFn Tryz.prog G 17 [p.enc] (.str (polPrint p)) := by
  refine AFn.introU tok Tryz.func17 (by kernel_rfl) rfl rfl ?_
  simp only [Tryz.f17, enumA, List.map_cons, List.map_nil]
  have hcl := (may_cats h.cats).1
  have hfew := h.few
  have hQ := Quote3_ev (G := G) p.token (by have := h.token.1; omega)
  have hqb := qBody_le6 p.token
  have hql : (quoteT p.token).length ≤ 146 := by simp only [quoteT, List.length_cons, List.length_append, List.length_nil]; have := h.token.1; omega
  have hf := itoa_ev (G := G) hP p.fuel
  have hu := itoa_ev (G := G) hP p.quota
  have hfl := Lib.itoa_length_le p.fuel (by have := h.fuel; omega) (by have := h.fuel; omega)
  have hul := Lib.itoa_length_le p.quota (by have := h.quota; omega) (by have := h.quota; omega)
  have hh := head_le h
  have hN := fun m (hm : m ∈ p.marks) => refNames_ev (G := G) p.cats m.mask (hi m hm) h.cats
  have hPr := fun m (hm : m ∈ p.marks) => refPrint7_ev (G := G) hP m.path (marks_may h.marks m hm).1
  have hnl := names_le h.cats
  have hpl := fun m (hm : m ∈ p.marks) => path_le (marks_may h.marks m hm).1
  have hcj : ∀ k, (Lib.join (kwCats :: p.cats.take k) [32]).length ≤ 2000 := fun k => by
    have := joinN_le 24 (kwCats :: p.cats.take k) (by
      intro x hx
      rcases List.mem_cons.1 hx with rfl | hx
      · simp [kwCats]
      · exact cats_le h.cats x (List.mem_of_mem_take hx))
    simp at this; omega
  have htx := tail_text p
  have h0 : headT p 0 = Lib.join (kwCats :: p.cats) [32] ++ [10] := by simp [headT, rowT]
  have hsn := fun k m (e : p.marks[k]? = some m) => head_snoc (p := p) (k := k) (m := m) e
  rw [htx]
  generalize quoteT p.token = qt at *
  generalize Lib.itoa p.fuel = fu at *
  generalize Lib.itoa p.quota = qu at *
  refine rgn [] [[], [1]] ?_
  iterate 2 refine op1 tok ?_
  refine runEnd ?_
  refine rgn [] [[]] ?_
  refine op1 tok ?_
  refine runEnd ?_
  refine AW.seq ?_
  refine rgn [] [[]] ?_
  refine op1 tok ?_
  refine runEnd ?_
  refine AW.block ?_
  refine AW.loop (α := Nat) (fun k => k ≤ p.cats.length) (fun k => ⟨upds 71 [(1, .ptr 1 0), (3, .p (.str (Lib.join (kwCats :: p.cats.take k) [32]))), (4, .p (.int .i64 k))], [], [(1, .vars 25 [.p (.sl 1 (p.cats.map PD.str)), .p (.sl 2 (p.marks.map Mk.enc)), .p (.str p.token), .p (.int .i64 p.fuel), .p (.int .i64 p.quota)])], 0⟩) (fun k => p.cats.length - k) (0) (by omega) ⟨upds_le (by simp [Lib.join_one, kwCats]), rfl, by simp, by simp⟩ ?_
  rintro k hk
  refine AW.seq ?_
  refine rgn [] [[], [], [], [], [1, 3, 4, 10]] ?_
  iterate 5 refine op1 tok ?_
  refine runEnd ?_
  refine cnd ?_ ?_
  · intro h10
    try simp at h10
    obtain ⟨c, hc⟩ : ∃ c, p.cats[k]? = some c := ⟨p.cats[k], by simp [h10]⟩
    have hcj1 := hcj (k + 1)
    have hsn := catj_snoc hc
    rw [hsn] at hcj1
    simp only [List.length_append, List.length_cons, List.length_nil] at hcj1
    have hjk := hcj k
    generalize Lib.join (kwCats :: p.cats.take k) [32] = J at *
    refine AW.skip ?_
    refine AW.seq ?_
    refine AW.block ?_
    refine rgz [.str c] [[], [], [], [], [], [1, 4, 14, 18], [], [], [1, 3, 4]] ?_
    iterate 9 refine op1 tok ?_ (hv := by first | with_reducible exact True.intro | (first | (simp [hc]; done) | (simp [hc]; omega) | (simp; omega); done) | omega | simp | (simp; omega) | (simp +contextual; omega))
    refine runEnd ?_
    refine rgz [] [[], [], [1, 3, 4]] ?_
    iterate 3 refine op1 tok ?_
    refine runEnd ?_
    exact ⟨k + 1, by omega, by omega, upds_le (by simp [hsn]), rfl, by simp [hsn], by simp [hsn]⟩
  · intro h10
    try simp at h10
    obtain rfl : k = p.cats.length := by omega
    have hjk := hcj p.cats.length
    rw [List.take_length] at hjk ⊢
    generalize Lib.join (kwCats :: p.cats) [32] = J at *
    refine AW.exit ?_
    simp
    refine rgn [] [[], [], [1, 3]] ?_
    iterate 3 refine op1 tok ?_
    refine runEnd ?_
    refine AW.seq ?_
    refine rgn [] [[]] ?_
    refine op1 tok ?_
    refine runEnd ?_
    refine AW.block ?_
    refine AW.loop (α := Nat) (fun k => k ≤ p.marks.length) (fun k => ⟨upds 71 [(1, .ptr 1 0), (3, .p (.str (headT p k))), (5, .p (.int .i64 k))], [], [(1, .vars 25 [.p (.sl 1 (p.cats.map PD.str)), .p (.sl 2 (p.marks.map Mk.enc)), .p (.str p.token), .p (.int .i64 p.fuel), .p (.int .i64 p.quota)])], 0⟩) (fun k => p.marks.length - k) (0) (by omega) ⟨upds_le (by simp [h0]), rfl, by simp, by simp⟩ ?_
    rintro k hk
    refine AW.seq ?_
    refine rgn [] [[], [], [], [], [1, 3, 5, 27]] ?_
    iterate 5 refine op1 tok ?_
    refine runEnd ?_
    refine cnd ?_ ?_
    · intro h27
      try simp at h27
      obtain ⟨x, hx⟩ : ∃ x, p.marks[k]? = some x := ⟨p.marks[k], by simp [h27]⟩
      have hxm := List.mem_of_getElem? hx
      have hnx := hN x hxm
      have hpx := hPr x hxm
      have hsx := hsn k x hx
      rw [mark_text] at hsx
      have hn2 := hnl x.mask
      have hp2 := hpl x hxm
      have hhk := hh k
      generalize namesT p.cats x.mask = nm at *
      generalize printS x.path = pr at *
      generalize headT p k = hd at *
      refine AW.skip ?_
      refine AW.seq ?_
      refine AW.block ?_
      refine AW.drawS tok mixed 22 [[3], [30], [1], [32], [1], [34], [5], [35, 36], [37], [38], [33, 39], [31, 40], [41], [1], [43], [5], [44, 45], [46], [47], [48], [42, 49], [50]] [x.enc, .nilp, .str nm, x.enc, .nilp, .str pr] [] (by kernel_rfl) ?_
      iterate 22 refine d1 ?_ (hv := by first | with_reducible exact True.intro | (first | exact hnx | exact hpx | (simp [hx]; done) | (simp [hx]; omega) | (simp; omega); done) | omega | simp | (simp; omega) | (simp +contextual; omega))
      refine DGo.nil (by kernel_rfl) ⟨by kernel_rfl, ?_⟩
      refine AOpsO.run [[1, 3, 5]] ?_
      refine op1 tok ?_
      refine runEnd ?_
      refine rgz [] [[], [], [1, 3, 5]] ?_
      iterate 3 refine op1 tok ?_
      refine runEnd ?_
      exact ⟨k + 1, by omega, by omega, upds_le (by simp [hsx]), rfl, by simp [hsx], by simp [hsx]⟩
    · intro h27
      try simp at h27
      obtain rfl : k = p.marks.length := by omega
      have hhk := hh p.marks.length
      generalize headT p p.marks.length = hd at *
      refine AW.exit ?_
      simp
      refine rgn [.nilp, .str qt] [[], [], [], [], [1, 53, 56], [], [], [1, 3]] ?_
      iterate 8 refine op1 tok ?_ (hv := by first | with_reducible exact True.intro | (first | exact hQ | (simp; omega); done) | omega | simp | (simp; omega) | (simp +contextual; omega))
      refine runEnd ?_
      refine AW.seqDrawS tok mixed 12 [[3], [59], [1], [61], [62], [60, 63], [64], [1], [66], [67], [65, 68], [69]] [.nilp, .str fu, .nilp, .str qu] [] (by kernel_rfl) ?_
      iterate 12 refine d1 ?_ (hv := by first | with_reducible exact True.intro | (first | exact hf | exact hu | (simp; omega); done) | omega | simp | (simp; omega) | (simp +contextual; omega))
      refine DGo.nil (by kernel_rfl) ⟨by kernel_rfl, ?_⟩
      refine AOpsO.run [[2]] ?_
      refine op1 tok ?_
      refine runEnd ?_
      exact AW.ret ⟨.inr rfl, _, _, by (conv => lhs; simp), trivial, by simp⟩
theorem behind_le (l w : List UInt8) : (behindT l w).length ≤ l.length := by
  unfold behindT; split <;> simp
theorem linesT_mem {s l : List UInt8} (h : l ∈ linesT s) : l.length ≤ s.length := by
  unfold linesT at h
  split at h
  · exact split_le ((List.dropLast_sublist _).subset h)
  · exact split_le h
theorem linesT_len (s : List UInt8) : (linesT s).length ≤ s.length + 1 := by
  have h1 := splitB_len 10 s
  have h2 : s.count 10 ≤ s.length := List.count_le_length
  unfold linesT
  split
  · simp; omega
  · omega
theorem parseT_keys (s : List UInt8) : ∀ t ∈ (parseT s).1, t.key.length ≤ 1000 := by
  intro t ht
  by_cases h : (parseT s).2 = 0
  · have h2 := List.all_eq_true.1 (parse_printS h).2.1 t ht
    rcases ok_may h2 with ⟨h3, _⟩ | h3 | h3
    · unfold mayM stepM at h2
      rw [if_pos h3] at h2
      simp only [Bool.and_eq_true, decide_eq_true_eq] at h2
      omega
    · rw [h3.2.2.2]; simp
    · rw [h3.2.1]; simp
  · rw [parse_bad h] at ht; cases ht
theorem unq_len : ∀ (f : Nat) (s : List UInt8) (k : Nat) (out : List UInt8), (unqG f s k out).1.length ≤ 4096
  | 0, _, _, _ => by simp [unqG]
  | f + 1, s, k, out => by
    simp only [unqG]
    repeat' split
    all_goals first | exact unq_len f _ _ _ | (simp; done) | omega | (simp only []; omega)
theorem unquote_len (s : List UInt8) : (unquoteT s).1.length ≤ 4096 := by
  unfold unquoteT
  split
  · exact unq_len _ _ _ _
  · simp
theorem wordsT_mem {s w : List UInt8} (h : w ∈ wordsT s) : w.length ≤ s.length := by
  unfold wordsT at h
  exact split_le (List.mem_filter.1 h).1
theorem digitsT_lt (s : List UInt8) : digitsT s < 10000000 := by
  unfold digitsT
  split
  · rename_i h; exact dgN_lt 7 h.2 h.1
  · decide
theorem cand_step {L : List (List UInt8)} {d : Nat} {l : List UInt8} (hl : L[d + 1]? = some l) (hd : d + 4 < L.length) : (L.drop (d + 1)).take (L.length - 4 - d) = l :: (L.drop (d + 1 + 1)).take (L.length - 4 - (d + 1)) := by
  obtain ⟨h, rfl⟩ := List.getElem?_eq_some_iff.1 hl
  rw [List.drop_eq_getElem_cons h, show L.length - 4 - d = (L.length - 4 - (d + 1)) + 1 by omega, List.take_succ_cons]
theorem refParse8_ev (hP : PW G) (s : List UInt8) (hs : s.length ≤ 90000) : AFn Tryz.prog G 12 [.str s] (.tup [(refParse s).1.enc, .int .i64 (refParse s).2]) := by
  refine AFn.introU tok Tryz.func12 (by kernel_rfl) rfl rfl ?_
  simp only [Tryz.f12, enumA, List.map_cons, List.map_nil]
  have hln := lines8_ev (G := G) s (by omega)
  have hll : ∀ l ∈ linesT s, l.length ≤ 90000 := fun l h => by have := linesT_mem h; omega
  have hnl := linesT_len s
  have hR : refParse s = if (linesT s).length < 4 ∨ catsMayM (candC (linesT s)) ≠ 0 then (pol0, 22) else match candMs (candC (linesT s)) (((linesT s).drop 1).take ((linesT s).length - 4)) with
    | none => (pol0, 22)
    | some ms => finishP s (candP (linesT s) ms) := rfl
  generalize refParse s = R at *
  generalize linesT s = L at *
  refine rgn [] [[], [0, 2]] ?_
  iterate 2 refine op1 tok ?_
  refine runEnd ?_
  refine rgn [] [[], [], [0, 2, 4]] ?_
  iterate 3 refine op1 tok ?_
  refine runEnd ?_
  refine rgn [.nilp, .sl 1 (L.map PD.str)] [[], [], [0, 2, 4, 5]] ?_
  iterate 3 refine op1 tok ?_ (hv := by first | with_reducible exact True.intro | (exact hln; done) | omega | simp | (simp; omega) | (simp +contextual; omega))
  refine runEnd ?_
  refine rgn [] [[], [], [0, 2, 4, 5, 6]] ?_
  iterate 3 refine op1 tok ?_
  refine runEnd ?_
  refine AW.seq ?_
  refine rgn [] [[], [0, 2, 4, 5, 6, 23]] ?_
  iterate 2 refine op1 tok ?_
  refine runEnd ?_
  refine cnd ?_ ?_
  · intro h23
    try simp at h23
    rw [if_pos (.inl (by omega))] at hR
    subst hR
    refine rgn [] [[], [], [2, 3]] ?_
    iterate 3 refine op1 tok ?_
    refine runEnd ?_
    exact AW.ret ⟨.inr rfl, _, _, by (conv => lhs; simp), trivial, by simp [pol0]⟩
  · intro h23
    try simp at h23
    obtain ⟨l0, hl0⟩ : ∃ l, L[0]? = some l := ⟨L[0]'(by omega), List.getElem?_eq_getElem _⟩
    have hl0l := hll l0 (List.mem_of_getElem? hl0)
    have hb0 := behind8_ev (G := G) l0 kwCats (by omega) (by decide)
    have hbl := behind_le l0 kwCats
    have hw0 := words_ev (G := G) (behindT l0 kwCats) (by omega)
    have hwm := fun w => wordsT_mem (s := behindT l0 kwCats) (w := w)
    have hne : [] ∉ wordsT (behindT l0 kwCats) := fun h => by
      have := (List.mem_filter.1 h).2
      simp at this
    have hcC : candC L = wordsT (behindT l0 kwCats) := by unfold candC; rw [List.getD_eq_getElem?_getD, hl0]; rfl
    have hcP : ∀ ms, candP L ms = ⟨wordsT (behindT l0 kwCats), ms, (unquoteT (behindT (L.getD (L.length - 3) []) kwToken)).1, digitsT (behindT (L.getD (L.length - 2) []) kwFuel), digitsT (behindT (L.getD (L.length - 1) []) kwQuota)⟩ := fun ms => by unfold candP; rw [hcC]
    rw [hcC] at hR
    have hwl : (wordsT (behindT l0 kwCats)).length ≤ 100000 := by
      unfold wordsT
      have h1 := List.length_filter_le (fun x => !decide (x = [])) (splitB 32 (behindT l0 kwCats))
      rw [splitB_len] at h1
      have h2 : (behindT l0 kwCats).count 32 ≤ (behindT l0 kwCats).length := List.count_le_length
      omega
    generalize wordsT (behindT l0 kwCats) = W at *
    have hM := refCatsMay_ev (G := G) W (fun c hc => by have := hwm c hc; omega)
    have h64 := fun h => (may_cats (cats := W) h).1
    simp only [kwCats] at hb0 hw0
    generalize behindT l0 [99, 97, 116, 115] = b0 at *
    generalize hcm : catsMayM W = cm at *
    refine AW.skip ?_
    refine AW.fillE 4 [some 1] (by conv => lhs; simp) ?_
    refine AW.beginBox 4 3 1 59 2 (by simp; exact ⟨rfl, rfl⟩) (by simp) (by simp) (by conv => lhs; simp) ?_
    refine rgn [.str l0, .nilp, .str b0, .nilp, .sl 1 (W.map PD.str)] [[], [], [], [], [0, 2, 4, 5, 6, 29], [], [0, 2, 4, 5, 6]] ?_
    iterate 7 refine op1 tok ?_ (hv := by first | with_reducible exact True.intro | (first | exact hb0 | exact hw0 | (simp [hl0]; done) | (simp [hl0]; omega); done) | omega | simp | (simp; omega) | (simp +contextual; omega))
    refine runEnd ?_
    refine AW.seq ?_
    refine rgn [.nilp, .int .i64 cm] [[], [], [], [0, 2, 4, 5, 6, 34]] ?_
    iterate 4 refine op1 tok ?_ (hv := by first | with_reducible exact True.intro | (exact hM; done) | omega | simp | (simp; omega) | (simp +contextual; omega))
    refine runEnd ?_
    refine cnd ?_ ?_
    · intro h34
      try simp at h34
      rw [if_pos (.inr h34)] at hR
      subst hR
      refine rgn [] [[], [], [2, 3]] ?_
      iterate 3 refine op1 tok ?_
      refine runEnd ?_
      exact AW.ret ⟨.inr rfl, _, _, by (conv => lhs; simp), trivial, by simp [pol0]⟩
    · intro h34
      try simp at h34
      rw [if_neg (by simp only [not_or]; exact ⟨by omega, by simp [h34]⟩)] at hR
      have h64 := h64 (by omega)
      refine AW.skip ?_
      refine AW.seq ?_
      refine rgn [] [[]] ?_
      refine op1 tok ?_
      refine runEnd ?_
      refine AW.block ?_
      refine AW.loop (α := Nat × List Mk) (fun a => a.1 + 4 ≤ L.length ∧ candMs W ((L.drop 1).take (L.length - 4)) = (candMs W ((L.drop (a.1 + 1)).take (L.length - 4 - a.1))).map (a.2 ++ ·) ∧ a.2.length ≤ a.1 ∧ (∀ m ∈ a.2, InM m.mask) ∧ (∀ m ∈ a.2, ∀ t ∈ m.path, t.key.length ≤ 1000)) (fun a => ⟨upds 116 [(0, .p (.str s)), (2, .ptr 2 0), (4, .ptr 4 0), (5, .p (.sl 1 (L.map PD.str))), (6, .p (.int .i64 L.length)), (7, .p (.int .i64 (a.1 + 1 : Nat)))], [], [(2, .vars 25 [.nilsl, .nilsl, .p (.str []), .p (.int .i64 0), .p (.int .i64 0)]), (4, .vars 25 [.p (.sl 1 (W.map PD.str)), .ms 3, .p (.str []), .p (.int .i64 0), .p (.int .i64 0)]), (3, .row 59 2 (a.2.map Mk.enc))], 0⟩) (fun a => L.length - a.1) ((0, [])) ⟨by simp only []; omega, by simp, by simp, by simp, by simp⟩ ⟨upds_le (by simp), rfl, by simp, by simp⟩ ?_
      rintro ⟨d, out⟩ ⟨hd, hq, hol, him, hky⟩
      simp only at hd hq hol him hky
      refine AW.seq ?_
      refine rgn [] [[], [], [], [0, 2, 4, 5, 6, 7, 39]] ?_
      iterate 4 refine op1 tok ?_
      refine runEnd ?_
      refine cnd ?_ ?_
      · intro h39
        try simp at h39
        obtain ⟨l, hl⟩ : ∃ l, L[d + 1]? = some l := ⟨L[d + 1]'(by omega), List.getElem?_eq_getElem _⟩
        have hlll := hll l (List.mem_of_getElem? hl)
        rw [cand_step hl (by omega)] at hq
        simp only [candMs] at hq
        have hb1 := behind8_ev (G := G) l kwMark (by omega) (by decide)
        have hbl1 := behind_le l kwMark
        have hcM : candM W l = (⟨(parseT ((behindT l kwMark).drop (dollarT (behindT l kwMark)))).1, (maskT W ((behindT l kwMark).take (dollarT (behindT l kwMark)))).1⟩, (parseT ((behindT l kwMark).drop (dollarT (behindT l kwMark)))).2) := rfl
        simp only [kwMark] at hb1 hbl1 hcM
        generalize behindT l [109, 97, 114, 107] = x at *
        have hdo := dollar8_ev (G := G) x (by omega)
        have hdl : dollarT x ≤ x.length := (List.takeWhile_sublist notD (l := x)).length_le
        generalize dollarT x = k at *
        have hmk := refMask_ev (G := G) W (x.take k) (by simp; omega) hne h64
        have hmi := maskT_in W (x.take k)
        have hpa := refParse7_ev (G := G) hP (x.drop k) (by simp; omega)
        have hpk := parseT_keys (x.drop k)
        generalize maskT W (x.take k) = mk at *
        generalize parseT (x.drop k) = pa at *
        refine AW.skip ?_
        refine AW.seq ?_
        refine AW.block ?_
        refine rgn [.str l, .nilp, .str x] [[], [], [], [], [0, 2, 4, 5, 6, 7, 46], [0, 2, 4, 5, 6, 7, 8]] ?_
        iterate 6 refine op1 tok ?_ (hv := by first | with_reducible exact True.intro | (first | exact hb1 | (simp [hl]; done) | (simp [hl]; omega); done) | omega | simp | (simp; omega) | (simp +contextual; omega))
        refine runEnd ?_
        refine rgn [.nilp, .int .i64 k] [[], [], [0, 2, 4, 5, 6, 7, 8, 9]] ?_
        iterate 3 refine op1 tok ?_ (hv := by first | with_reducible exact True.intro | (exact hdo; done) | omega | simp | (simp; omega) | (simp +contextual; omega))
        refine runEnd ?_
        refine AW.seqDrawS tok mixed 10 [[4], [50], [8], [9], [52, 53], [51, 54], [55], [49], [49], [56]] [.nilp, .tup [.int .u64 mk.1, .int .i64 mk.2]] [] (by kernel_rfl) ?_
        iterate 10 refine d1 ?_ (hv := by first | with_reducible exact True.intro | (first | exact hmk | (simp; omega); done) | omega | simp | (simp; omega) | (simp +contextual; omega))
        refine DGo.nil (by kernel_rfl) ⟨by kernel_rfl, ?_⟩
        refine AOpsO.run [[0, 2, 4, 5, 6, 7, 8, 9, 10]] ?_
        refine op1 tok ?_
        refine runEnd ?_
        refine rgn [.nilp, .tup [.sl 3 (pa.1.map Step.enc), .int .i64 pa.2]] [[], [], [0, 2, 4, 5, 6, 7, 10, 61], [], [], [], [], [0, 2, 4, 5, 6, 7, 10, 12, 64], [0, 2, 4, 5, 6, 7, 10, 12, 13]] ?_
        iterate 9 refine op1 tok ?_ (hv := by first | with_reducible exact True.intro | (first | exact hpa | (simp; omega); done) | omega | simp | (simp; omega) | (simp +contextual; omega))
        refine runEnd ?_
        refine AW.seq ?_
        refine rgn [] [[], [0, 2, 4, 5, 6, 7, 10, 12, 66]] ?_
        iterate 2 refine op1 tok ?_
        refine runEnd ?_
        refine cnd ?_ ?_
        · intro h66
          try simp at h66
          rw [if_pos (by rw [hcM]; exact h66)] at hq
          rw [hq] at hR
          simp only [Option.map_none] at hR
          subst hR
          refine rgn [] [[], [], [2, 3]] ?_
          iterate 3 refine op1 tok ?_
          refine runEnd ?_
          exact AW.ret ⟨.inr rfl, _, _, by (conv => lhs; simp), trivial, by simp [pol0]⟩
        · intro h66
          try simp at h66
          rw [if_neg (by rw [hcM]; simpa using h66), hcM] at hq
          refine AW.skip ?_
          refine rgz [.agg [.sl 3 (pa.1.map Step.enc), .int .u64 mk.1]] [[], [], [], [], [0, 2, 4, 5, 6, 7, 69, 72], [], [], [], [0, 2, 4, 5, 6, 7]] ?_
          iterate 9 refine op1 tok ?_
          refine runEnd ?_
          refine rgz [] [[], [], [0, 2, 4, 5, 6, 7]] ?_
          iterate 3 refine op1 tok ?_
          refine runEnd ?_
          exact ⟨(d + 1, out ++ [⟨pa.1, mk.1⟩]), ⟨by simp only []; omega, by rw [hq]; simp [Option.map_map]; rfl, by simp; omega, by intro m hm; rcases List.mem_append.1 hm with h | h; exact him m h; (rw [List.mem_singleton.1 h]; exact hmi), by intro m hm; rcases List.mem_append.1 hm with h | h; exact hky m h; (rw [List.mem_singleton.1 h]; exact hpk)⟩, by simp only []; omega, upds_le (by simp), rfl, by simp, by simp⟩
      · intro h39
        try simp at h39
        have hde : L.length - 4 - d = 0 := by omega
        rw [hde, List.take_zero] at hq
        simp only [candMs, Option.map_some, List.append_nil] at hq
        rw [hq] at hR
        simp only at hR
        rw [hcP] at hR
        obtain ⟨l3, hl3⟩ : ∃ l, L[L.length - 3]? = some l := ⟨L[L.length - 3]'(by omega), List.getElem?_eq_getElem _⟩
        obtain ⟨l2, hl2⟩ : ∃ l, L[L.length - 2]? = some l := ⟨L[L.length - 2]'(by omega), List.getElem?_eq_getElem _⟩
        obtain ⟨l1, hl1⟩ : ∃ l, L[L.length - 1]? = some l := ⟨L[L.length - 1]'(by omega), List.getElem?_eq_getElem _⟩
        simp only [List.getD_eq_getElem?_getD, hl3, hl2, hl1, Option.getD_some] at hR
        have hl3l := hll l3 (List.mem_of_getElem? hl3)
        have hl2l := hll l2 (List.mem_of_getElem? hl2)
        have hl1l := hll l1 (List.mem_of_getElem? hl1)
        have hb3 := behind8_ev (G := G) l3 kwToken (by omega) (by decide)
        have hb2 := behind8_ev (G := G) l2 kwFuel (by omega) (by decide)
        have hb1 := behind8_ev (G := G) l1 kwQuota (by omega) (by decide)
        have hbl3 := behind_le l3 kwToken
        have hbl2 := behind_le l2 kwFuel
        have hbl1 := behind_le l1 kwQuota
        simp only [kwToken, kwFuel, kwQuota] at hb3 hb2 hb1 hbl3 hbl2 hbl1 hR
        generalize behindT l3 [116, 111, 107, 101, 110] = b3 at *
        generalize behindT l2 [102, 117, 101, 108] = b2 at *
        generalize behindT l1 [113, 117, 111, 116, 97] = b1 at *
        have hu := unquote3_ev (G := G) b3 (by omega)
        have hul := unquote_len b3
        have hd2 := digits8_ev (G := G) b2 (by omega)
        have hd1 := digits8_ev (G := G) b1 (by omega)
        generalize unquoteT b3 = u at *
        generalize digitsT b2 = df at *
        generalize digitsT b1 = dq at *
        have hMp := refPolMay_ev (G := G) ⟨W, out, u.1, df, dq⟩ him hky (fun c hc => by have := hwm c hc; omega) (by simp only []; omega)
        have hPp := fun h => refPrint8_ev (G := G) hP ⟨W, out, u.1, df, dq⟩ (may_pol.1 h) him
        simp only [Pol.enc] at hMp hPp
        unfold finishP at hR
        generalize polMay ⟨W, out, u.1, df, dq⟩ = pm at *
        generalize polPrint ⟨W, out, u.1, df, dq⟩ = pp at *
        have e3 : ((L.length : Int) - 3).toNat = L.length - 3 := by omega
        have e2 : ((L.length : Int) - 2).toNat = L.length - 2 := by omega
        have e1 : ((L.length : Int) - 1).toNat = L.length - 1 := by omega
        refine AW.exit ?_
        simp
        refine rgn [.str l3, .nilp, .str b3, .nilp, .tup [.str u.1, .int .i64 u.2.1, .int .i64 u.2.2]] [[], [], [], [], [0, 2, 4, 5, 6, 81], [], [], [], [], [], [0, 2, 4, 5, 6, 84, 85, 86], [], [], [0, 2, 4, 5, 6, 14]] ?_
        iterate 14 refine op1 tok ?_ (hv := by first | with_reducible exact True.intro | (first | exact hb3 | exact hu | (simp [e3, hl3]; done) | (simp [e3, hl3]; omega); done) | omega | simp | (simp; omega) | (simp +contextual; omega))
        refine runEnd ?_
        refine rgn [] [[], [], [0, 2, 4, 5, 6]] ?_
        iterate 3 refine op1 tok ?_
        refine runEnd ?_
        refine rgn [.str l2, .nilp, .str b2, .nilp, .int .i64 df] [[], [], [], [], [0, 2, 4, 5, 6, 93], [], [], [], [0, 2, 4, 5, 6]] ?_
        iterate 9 refine op1 tok ?_ (hv := by first | with_reducible exact True.intro | (first | exact hb2 | exact hd2 | (simp [e2, hl2]; done) | (simp [e2, hl2]; omega); done) | omega | simp | (simp; omega) | (simp +contextual; omega))
        refine runEnd ?_
        refine rgn [.str l1, .nilp, .str b1, .nilp, .int .i64 dq] [[], [], [], [0, 2, 4, 100], [], [], [], [], [0, 2, 4]] ?_
        iterate 9 refine op1 tok ?_ (hv := by first | with_reducible exact True.intro | (first | exact hb1 | exact hd1 | (simp [e1, hl1]; done) | (simp [e1, hl1]; omega); done) | omega | simp | (simp; omega) | (simp +contextual; omega))
        refine runEnd ?_
        refine AW.seq ?_
        refine AW.freezeE 3 (by conv => lhs; simp) ?_
        refine rgn [.nilp, .int .i64 pm, .nilp, .str pp] [[], [], [], [], [], [0, 2, 4, 108, 110], [], [], [2, 4, 113]] ?_
        iterate 4 refine op1 tok ?_ (hv := by first | with_reducible exact True.intro | (first | exact hMp | ((repeat' (first | with_reducible apply And.intro | intro _)) <;> first | exact (hMp) | exact (hPp (by omega)) | exact (hPp) | assumption | omega | contradiction | simp_all); done) | omega | simp | (simp; omega) | (simp +contextual; omega))
        iterate 4 refine op2 tok ?_ (hv := by first | with_reducible exact True.intro | (first | exact hMp | ((repeat' (first | with_reducible apply And.intro | intro _)) <;> first | exact (hMp) | exact (hPp (by omega)) | exact (hPp) | assumption | omega | contradiction | simp_all); done) | omega | simp | (simp; omega) | (simp +contextual; omega))
        refine op1 tok ?_ (hv := by first | with_reducible exact True.intro | (first | exact hMp | ((repeat' (first | with_reducible apply And.intro | intro _)) <;> first | exact (hMp) | exact (hPp (by omega)) | exact (hPp) | assumption | omega | contradiction | simp_all); done) | omega | simp | (simp; omega) | (simp +contextual; omega))
        refine runEnd ?_
        refine cnd ?_ ?_
        · intro h113
          try simp at h113
          rw [if_pos h113] at hR
          subst hR
          refine rgn [] [[], [], [2, 3]] ?_
          iterate 3 refine op1 tok ?_
          refine runEnd ?_
          exact AW.ret ⟨.inr rfl, _, _, by (conv => lhs; simp), trivial, by simp [pol0]⟩
        · intro h113
          try simp at h113
          rw [if_neg (by simpa using h113)] at hR
          subst hR
          refine AW.skip ?_
          refine rgn [] [[], [], [2, 3]] ?_
          iterate 3 refine op1 tok ?_
          refine runEnd ?_
          exact AW.ret ⟨.inr rfl, _, _, by (conv => lhs; simp), trivial, by simp⟩
end Go.Proofs.YtdjjmppnnkkloaaGreatDoor
