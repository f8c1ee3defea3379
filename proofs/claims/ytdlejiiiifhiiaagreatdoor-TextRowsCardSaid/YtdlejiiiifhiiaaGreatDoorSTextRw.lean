import Derived.Test.YtdlejiiiifhiiaaGreatDoorSAll
import Derived.Test.YtdlejiiiifhiiaaGreatDoorSPois
import Derived.Test.YtdlejiiiifhiiaaGreatDoorSShown5
import Derived.Test.YtdlejiiiifhiiaaGreatDoorSBuiltL
import Derived.Test.YtdlejiiiifhiiaaGreatDoorSRefSB
import Derived.Test.YtdlejiiiifhiiaaGreatDoorSBareL
namespace Go.Proofs.YtdlejiiiifhiiaaGreatDoor
open Sy Go
set_option maxRecDepth 100000
set_option maxHeartbeats 4000000
set_option linter.unusedSimpArgs false
set_option linter.unusedVariables false
variable {G : Glob}
def okB (v : Val) : Bool := !poiV v && decide (depV v ≤ 12)
def okV (ls : List (List Item)) (k : Nat) : List Val := ((ls.take k).map fun l => bareV (builtM l)).filter okB
theorem okV_succ {ls : List (List Item)} {k : Nat} {l : List Item} (h : ls[k]? = some l) : okV ls (k + 1) = okV ls k ++ (if okB (bareV (builtM l)) = true then [bareV (builtM l)] else []) := by
  unfold okV
  rw [List.take_add_one, h, Option.toList_some, List.map_append, List.filter_append]
  simp only [List.map_cons, List.map_nil, List.filter_cons, List.filter_nil]
theorem okV_len (ls : List (List Item)) (k : Nat) : (okV ls k).length ≤ k := by
  unfold okV
  refine Nat.le_trans (List.length_filter_le _ _) ?_
  rw [List.length_map, List.length_take]; omega
theorem okV_ok {ls : List (List Item)} {k : Nat} {v : Val} (h : v ∈ okV ls k) : docOK v ∧ Val.sz v ≤ 80 := by
  unfold okV at h
  obtain ⟨h1, h2⟩ := List.mem_filter.1 h
  obtain ⟨l, _, rfl⟩ := List.mem_map.1 h1
  unfold okB at h2
  simp only [Bool.and_eq_true, Bool.not_eq_true', decide_eq_true_eq] at h2
  have := built_sz l
  exact ⟨⟨by rw [bare_may]; exact built_may l, h2.1, h2.2, by rw [bare_sz]; omega, bare_bare _⟩, by rw [bare_sz]; omega⟩
theorem docs_app (sep : List UInt8) (a b : List Val) : docsT sep (a ++ b) = docsT sep a ++ docsT sep b := by simp [docsT]
theorem docs_le {sep : List UInt8} (hs : sep.length ≤ 3) : ∀ l : List Val, (∀ v ∈ l, mayT v = true ∧ Val.sz v ≤ 80) → (docsT sep l).length ≤ 5000000 * l.length
  | [], _ => by simp [docsT]
  | v :: l, h => by
    have ih := docs_le hs l fun u hu => h u (List.mem_cons_of_mem _ hu)
    have h1 := print_len v (h v (by simp)).1
    have h2 := (h v (by simp)).2
    simp only [docsT, List.flatMap_cons, List.length_append, List.length_cons] at *; omega
theorem TextRows_ev (hG : U8 G) (ls : List (List Item)) (bk : Int) (hl : ∀ l ∈ ls, ∀ x ∈ l, x.keys.length ≤ 140737488351232) : AFn Tryz.prog G 5 [.sl 1 (ls.map fun l => PD.sl 6 (l.map Item.enc)), .int .u8 bk] (.bool true) := by
  refine AFn.introU tok Tryz.func5 (by kernel_rfl) rfl rfl ?_
  simp only [Tryz.f5, enumA, List.map_cons, List.map_nil]
  have hsh := shown5_ev hG
  refine AW.seqRegionO [] ?_
  refine s1 tok [0, 1] ?_
  refine AOpsO.nil ?_
  refine AW.seqRegionO [.nilp, .bool true] ?_
  refine s1 tok [0, 1, 18] ?_ (hv := by first | with_reducible exact True.intro | (exact hsh; done) | omega | simp | (simp; omega) | (simp +contextual; omega))
  refine s1 tok [0, 1, 5] ?_
  refine AOpsO.nil ?_
  refine AW.seqRegionO [] ?_
  refine s1 tok [0, 1, 5, 6] ?_
  refine AOpsO.nil ?_
  refine AW.seqRegionO [] ?_
  refine s1 tok [0, 1, 5, 6, 19] ?_
  refine s1 tok [0, 1, 5, 6, 7] ?_
  refine AOpsO.nil ?_
  refine AW.seqRegionO [] ?_
  refine s1 tok [0, 1, 5, 6, 7, 8] ?_
  refine AOpsO.nil ?_
  refine AW.join (α := List UInt8) (fun sep => sep.all isBl = true ∧ sep ≠ [] ∧ sep.length ≤ 3) (fun sep => ⟨upds 96 [(0, .p (.sl 1 (ls.map fun l => PD.sl 6 (l.map Item.enc)))), (5, .p (.bool true)), (6, .p (.str [])), (7, .ms 19), (8, .p (.str sep))], [], [(19, .row 31 9 [])], 0⟩) ?_ ?_
  ·
    refine AW.seqRegionO [] ?_
    refine s1 tok [0, 5, 6, 7, 8, 20] ?_
    refine s1 tok [0, 5, 6, 7, 8, 21] ?_
    refine AOpsO.nil ?_
    refine AW.block ?_
    refine AW.seqRegionO [] ?_
    refine s1 tok [0, 5, 6, 7, 8, 21, 23] ?_
    refine s1 tok [0, 5, 6, 7, 8, 21, 22] ?_
    refine AOpsO.nil ?_
    refine AW.cond (c := .tmp 22) (by conv => lhs; simp) trivial ?_ ?_
    · intro h22
      try simp at h22
      refine AW.regionO [] ?_
      refine s1 tok [0, 5, 6, 7, 8] ?_
      refine AOpsO.nil ?_
      exact ⟨[10], ⟨rfl, by simp, by simp⟩, upds_le (by simp), rfl, by simp, by simp⟩
    · intro h22
      try simp at h22
      refine AW.seqRegionO [] ?_
      refine s1 tok [0, 5, 6, 7, 8, 21, 25] ?_
      refine s1 tok [0, 5, 6, 7, 8, 21, 24] ?_
      refine AOpsO.nil ?_
      refine AW.cond (c := .tmp 24) (by conv => lhs; simp) trivial ?_ ?_
      · intro h24
        try simp at h24
        refine AW.regionO [] ?_
        refine s1 tok [0, 5, 6, 7, 8] ?_
        refine AOpsO.nil ?_
        exact ⟨[9, 13, 32], ⟨rfl, by simp, by simp⟩, upds_le (by simp), rfl, by simp, by simp⟩
      · intro h24
        try simp at h24
        refine AW.seqRegionO [] ?_
        refine s1 tok [0, 5, 6, 7, 8, 27] ?_
        refine s1 tok [0, 5, 6, 7, 8, 26] ?_
        refine AOpsO.nil ?_
        refine AW.cond (c := .tmp 26) (by conv => lhs; simp) trivial ?_ ?_
        · intro h26
          try simp at h26
          refine AW.regionO [] ?_
          refine s1 tok [0, 5, 6, 7, 8] ?_
          refine AOpsO.nil ?_
          exact ⟨[10, 10], ⟨rfl, by simp, by simp⟩, upds_le (by simp), rfl, by simp, by simp⟩
        · intro h26
          try simp at h26
          refine AW.skip ?_
          exact ⟨[32], ⟨rfl, by simp, by simp⟩, upds_le (by simp), rfl, by simp, by simp⟩
  ·
    rintro sep ⟨hs1, hs2, hs3⟩
    refine AW.seq ?_
    refine AW.seqRegionO [] ?_
    refine s1 tok [0, 5, 6, 7, 8, 9] ?_
    refine AOpsO.nil ?_
    refine AW.block ?_
    refine AW.loop (α := Nat) (fun k => k ≤ ls.length ∧ k ≤ 8) (fun k => ⟨upds 96 [(0, .p (.sl 1 (ls.map fun l => PD.sl 6 (l.map Item.enc)))), (5, .p (.bool true)), (6, .p (.str (docsT sep (okV ls k)))), (7, .ms 19), (8, .p (.str sep)), (9, .p (.int .i64 k))], [], [(19, .row 31 9 ((okV ls k).map Val.enc))], 0⟩) (fun k => ls.length - k) (0) ⟨by omega, by omega⟩ ⟨upds_le (by simp [okV, docsT]), rfl, by simp [okV], by simp⟩ ?_
    rintro k ⟨hk, hk8⟩
    have hvl := okV_len ls k
    have hvo := fun v (h : v ∈ okV ls k) => okV_ok h
    have hdl := docs_le hs3 (okV ls k) fun v h => ⟨(hvo v h).1.1, (hvo v h).2⟩
    refine AW.seq ?_
    refine AW.seqRegionO [] ?_
    refine s1 tok [0, 5, 6, 7, 8, 9, 28] ?_
    refine s1 tok [0, 5, 6, 7, 8, 9, 28, 29] ?_
    refine s1 tok [0, 5, 6, 7, 8, 9, 28, 30] ?_
    refine s1 tok [0, 5, 6, 7, 8, 9, 31] ?_
    refine s1 tok [0, 5, 6, 7, 8, 9, 32] ?_
    refine s2 tok [0, 5, 6, 7, 8, 9, 32, 33] 32 rfl rfl ?_
    refine s2 tok [0, 5, 6, 7, 8, 9, 32, 34] 32 rfl rfl ?_
    refine s1 tok [0, 5, 6, 7, 8, 9, 35] ?_
    refine AOpsO.nil ?_
    refine AW.cond (c := .tmp 35) (by conv => lhs; simp) trivial ?_ ?_
    · intro h35
      try simp at h35
      obtain ⟨l, hx⟩ : ∃ l, ls[k]? = some l := ⟨ls[k], by simp [h35.1]⟩
      have hsu := okV_succ hx
      have hB := Built_ev (G := G) l (hl l (List.mem_of_getElem? hx))
      have hm0 := built_may l
      have hsz0 := built_sz l
      have hBa := refBare_ev (G := G) (builtM l) hm0
      obtain ⟨v, hv⟩ : ∃ v, v = bareV (builtM l) := ⟨_, rfl⟩
      have hm : mayT v = true := by rw [hv, bare_may]; exact hm0
      have hsz : Val.sz v ≤ 80 := by rw [hv, bare_sz]; exact hsz0
      rw [← hv] at hBa hsu
      clear hv hm0 hsz0
      have hp := fun h => print_clean (G := G) hm h (by omega)
      have hpl := print_len v hm
      have hd := dep_le_sz v
      have hS := refSize_ev (G := G) v (by omega)
      have hP := pois_ev (G := G) v (by omega)
      generalize builtM l = b at *
      have hda := docs_app sep (okV ls k) [v]
      have hd1 : docsT sep [v] = printT v ++ sep := by simp [docsT]
      rw [hd1] at hda
      generalize hpt : printT v = p at *
      generalize hds : docsT sep (okV ls k) = ds at *
      generalize hok : okV ls k = ok at *
      simp at hB hS hP hBa hp
      refine AW.skip ?_
      refine AW.seq ?_
      refine AW.block ?_
      refine AW.seqRegionO [.sl 6 (l.map Item.enc), .nilp, b.enc, .nilp, v.enc] ?_
      refine s1 tok [0, 5, 6, 7, 8, 9, 38] ?_
      refine s1 tok [0, 5, 6, 7, 8, 9, 38, 39] ?_
      refine s1 tok [0, 5, 6, 7, 8, 9, 40] ?_ (hv := by first | with_reducible exact True.intro | (first | exact hB | exact hBa | (simp [hx]; done) | (simp [hx]; exact hB) | (simp; exact hBa); done) | omega | simp | (simp; omega) | (simp +contextual; omega))
      refine s1 tok [0, 5, 6, 7, 8, 9, 41] ?_ (hv := by first | with_reducible exact True.intro | (first | exact hB | exact hBa | (simp [hx]; done) | (simp [hx]; exact hB) | (simp; exact hBa); done) | omega | simp | (simp; omega) | (simp +contextual; omega))
      refine s1 tok [0, 5, 6, 7, 8, 9, 42] ?_ (hv := by first | with_reducible exact True.intro | (first | exact hB | exact hBa | (simp [hx]; done) | (simp [hx]; exact hB) | (simp; exact hBa); done) | omega | simp | (simp; omega) | (simp +contextual; omega))
      refine s1 tok [0, 5, 6, 7, 8, 9, 43] ?_ (hv := by first | with_reducible exact True.intro | (first | exact hB | exact hBa | (simp [hx]; done) | (simp [hx]; exact hB) | (simp; exact hBa); done) | omega | simp | (simp; omega) | (simp +contextual; omega))
      refine s1 tok [0, 5, 6, 7, 8, 9, 10, 43] ?_
      refine s1 tok [0, 5, 6, 7, 8, 9, 10] ?_ (hv := by first | with_reducible exact True.intro | (first | exact hB | exact hBa | (simp [hx]; done) | (simp [hx]; exact hB) | (simp; exact hBa); done) | omega | simp | (simp; omega) | (simp +contextual; omega))
      refine AOpsO.nil ?_
      refine AW.seqRegionO [.nilp, .tup [.int .i64 (Val.sz v), .int .i64 (depV v)]] ?_
      refine s1 tok [0, 5, 6, 7, 8, 9, 10, 45] ?_ (hv := by first | with_reducible exact True.intro | ((simp; exact hS); done) | omega | simp | (simp; omega) | (simp +contextual; omega))
      refine s1 tok [0, 5, 6, 7, 8, 9, 10, 46] ?_ (hv := by first | with_reducible exact True.intro | ((simp; exact hS); done) | omega | simp | (simp; omega) | (simp +contextual; omega))
      refine s1 tok [0, 5, 6, 7, 8, 9, 10, 44] ?_
      refine s1 tok [0, 5, 6, 7, 8, 9, 10, 44, 47] ?_
      refine s1 tok [0, 5, 6, 7, 8, 9, 10, 47, 48] ?_
      refine s1 tok [0, 5, 6, 7, 8, 9, 10, 48] ?_
      refine s1 tok [0, 5, 6, 7, 8, 9, 10, 12] ?_
      refine AOpsO.nil ?_
      refine AW.seq ?_
      refine AW.seqRegionO [.nilp, .bool (poiV v)] ?_
      refine s1 tok [0, 5, 6, 7, 8, 9, 10, 12, 49] ?_ (hv := by first | with_reducible exact True.intro | ((simp; exact hP); done) | omega | simp | (simp; omega) | (simp +contextual; omega))
      refine s1 tok [0, 5, 6, 7, 8, 9, 10, 12, 50] ?_ (hv := by first | with_reducible exact True.intro | ((simp; exact hP); done) | omega | simp | (simp; omega) | (simp +contextual; omega))
      refine s1 tok [0, 5, 6, 7, 8, 9, 10, 12, 51] ?_
      refine s2 tok [0, 5, 6, 7, 8, 9, 10, 51, 52] 51 rfl rfl ?_
      refine s2 tok [0, 5, 6, 7, 8, 9, 10, 51, 53] 51 rfl rfl ?_ (hv := by first | with_reducible exact True.intro | ((simp; exact hP); done) | omega | simp | (simp; omega) | (simp +contextual; omega))
      refine s1 tok [0, 5, 6, 7, 8, 9, 10, 54] ?_ (hv := by first | with_reducible exact True.intro | ((simp; exact hP); done) | omega | simp | (simp; omega) | (simp +contextual; omega))
      refine AOpsO.nil ?_
      refine AW.cond (c := .tmp 54) (by conv => lhs; simp) trivial ?_ ?_
      · intro h54
        try simp at h54
        have hno : okB v = false := by
          rw [← Bool.not_eq_true]; intro h
          unfold okB at h
          simp only [Bool.and_eq_true, Bool.not_eq_true', decide_eq_true_eq] at h
          rcases h54 with h5 | h5
          · rw [h.1] at h5; cases h5
          · omega
        rw [hno] at hsu
        simp only [Bool.false_eq_true, if_false, List.append_nil] at hsu
        refine AW.exit ?_
        simp
        refine AW.regionO [] ?_
        refine s1 tok [0, 5, 6, 7, 8, 36] ?_
        refine s1 tok [0, 5, 6, 7, 8, 37] ?_
        refine s1 tok [0, 5, 6, 7, 8, 9] ?_
        refine AOpsO.nil ?_
        exact ⟨k + 1, ⟨by omega, by omega⟩, by omega, upds_le (by simp [hsu, hds]), rfl, by simp [hsu, hds], by simp [hsu, hds]⟩
      · intro h54
        try simp at h54
        obtain ⟨hpo, hdd0⟩ := h54
        have hyes : okB v = true := by
          unfold okB
          simp only [Bool.and_eq_true, Bool.not_eq_true', decide_eq_true_eq]
          exact ⟨hpo, by omega⟩
        rw [if_pos hyes] at hsu
        have hp := hp hpo
        refine AW.skip ?_
        refine AW.seqRegionO [.nilp, .str p] ?_
        refine s1 tok [0, 5, 7, 8, 9, 10, 55] ?_
        refine s1 tok [0, 5, 7, 8, 9, 10, 55, 56] ?_ (hv := by first | with_reducible exact True.intro | (first | exact hp | (simp; exact hp) | (simp; omega) | omega; done) | omega | simp | (simp; omega) | (simp +contextual; omega))
        refine s1 tok [0, 5, 7, 8, 9, 10, 55, 57] ?_ (hv := by first | with_reducible exact True.intro | (first | exact hp | (simp; exact hp) | (simp; omega) | omega; done) | omega | simp | (simp; omega) | (simp +contextual; omega))
        refine s1 tok [0, 5, 7, 8, 9, 10, 58] ?_ (hv := by first | with_reducible exact True.intro | (first | exact hp | (simp; exact hp) | (simp; omega) | omega; done) | omega | simp | (simp; omega) | (simp +contextual; omega))
        refine s1 tok [0, 5, 7, 8, 9, 10, 58, 59] ?_
        refine s1 tok [0, 5, 7, 8, 9, 10, 60] ?_ (hv := by first | with_reducible exact True.intro | (first | exact hp | (simp; exact hp) | (simp; omega) | omega; done) | omega | simp | (simp; omega) | (simp +contextual; omega))
        refine s1 tok [0, 5, 6, 7, 8, 9, 10] ?_
        refine AOpsO.nil ?_
        refine AW.regionO [v.enc] ?_
        refine s1 tok [0, 5, 6, 8, 9, 10, 61] ?_
        refine s1 tok [0, 5, 6, 8, 9, 61, 62] ?_
        refine s1 tok [0, 5, 6, 8, 9, 61, 63] ?_
        refine s1 tok [0, 5, 6, 8, 9, 64] ?_
        refine s1 tok [0, 5, 6, 7, 8, 9] ?_
        refine AOpsO.nil ?_
        refine AW.regionO [] ?_
        refine s1 tok [0, 5, 6, 7, 8, 36] ?_
        refine s1 tok [0, 5, 6, 7, 8, 37] ?_
        refine s1 tok [0, 5, 6, 7, 8, 9] ?_
        refine AOpsO.nil ?_
        exact ⟨k + 1, ⟨by omega, by omega⟩, by omega, upds_le (by simp [hsu, hda]), rfl, by simp [hsu, hda], by simp [hsu, hda]⟩
    · intro h35
      try simp at h35
      have hw := all_whole hs1 hs2 (l := okV ls k) (fun v h => (hvo v h).1) (by omega)
      have hx := all_x hs1 hs2 (l := okV ls k) (fun v h => (hvo v h).1) (by omega)
      have ha1 := all_ev hG (docsT sep (okV ls k)) (by omega)
      have ha2 := all_ev hG (docsT sep (okV ls k) ++ [120]) (by simp; omega)
      rw [hw] at ha1
      rw [hx] at ha2
      have hsa := sameAll_ev (G := G) (okV ls k) (okV ls k) rfl (fun v h => by have := (hvo v h).2; omega) (by omega) (fun v h => by
        have := refSame_sz (G := G) v (by have := (hvo v h).2; omega) v
        rw [(sameT_iff _ _).2 rfl] at this
        exact this)
      generalize docsT sep (okV ls k) = ds at *
      generalize okV ls k = ok at *
      simp at ha1 ha2 hsa
      refine AW.exit ?_
      simp
      refine AW.seqRegionO [.nilp, .tup [.sl 9 (ok.map Val.enc), .int .i64 0]] ?_
      refine s1 tok [5, 6, 7, 66] ?_
      refine s1 tok [5, 6, 7, 67] ?_ (hv := by first | with_reducible exact True.intro | ((simp; exact ha1); done) | omega | simp | (simp; omega) | (simp +contextual; omega))
      refine s1 tok [5, 6, 7, 65] ?_
      refine s1 tok [5, 6, 7, 65, 68] ?_
      refine s1 tok [5, 6, 7, 68, 69] ?_
      refine s1 tok [5, 6, 7, 13, 69] ?_
      refine s1 tok [5, 6, 7, 13, 14] ?_
      refine AOpsO.nil ?_
      refine AW.seqRegionO [.nilp, .bool true] ?_
      refine s1 tok [5, 6, 7, 14, 70] ?_
      refine s1 tok [5, 6, 14, 70, 71] ?_
      refine s1 tok [5, 6, 14, 72] ?_ (hv := by first | with_reducible exact True.intro | ((simp; exact hsa); done) | omega | simp | (simp; omega) | (simp +contextual; omega))
      refine s1 tok [5, 6, 14, 15] ?_
      refine AOpsO.nil ?_
      refine AW.seqRegionO [.nilp, .tup [.sl 9 [], .int .i64 10]] ?_
      refine s1 tok [5, 14, 15, 74] ?_
      refine s1 tok [5, 14, 15, 75] ?_ (hv := by first | with_reducible exact True.intro | (first | exact ha2 | (simp; exact ha2) | (simp; omega) | omega; done) | omega | simp | (simp; omega) | (simp +contextual; omega))
      refine s1 tok [5, 14, 15, 76] ?_ (hv := by first | with_reducible exact True.intro | (first | exact ha2 | (simp; exact ha2) | (simp; omega) | omega; done) | omega | simp | (simp; omega) | (simp +contextual; omega))
      refine s1 tok [5, 14, 15, 73] ?_
      refine s1 tok [5, 14, 15, 73, 77] ?_
      refine s1 tok [5, 14, 15, 77, 78] ?_
      refine s1 tok [5, 14, 15, 16, 78] ?_
      refine s1 tok [5, 14, 15, 16, 17] ?_
      refine AOpsO.nil ?_
      refine AW.seqRegionO [] ?_
      refine s1 tok [14, 15, 16, 17, 79] ?_
      refine s1 tok [14, 15, 16, 17, 80] ?_
      refine s2 tok [15, 16, 17, 80, 81] 80 rfl rfl ?_
      refine s2 tok [15, 16, 17, 80, 82] 80 rfl rfl ?_
      refine s1 tok [15, 16, 17, 83] ?_
      refine s1 tok [15, 16, 17, 84] ?_
      refine s2 tok [16, 17, 84, 85] 84 rfl rfl ?_
      refine s1 tok [16, 17, 86] ?_
      refine s1 tok [16, 17, 87] ?_
      refine s2 tok [16, 87, 88] 87 rfl rfl ?_
      refine s2 tok [16, 87, 89] 87 rfl rfl ?_
      refine s1 tok [16, 90] ?_
      refine s1 tok [16, 91] ?_
      refine s2 tok [91, 92] 91 rfl rfl ?_
      refine s2 tok [91, 93] 91 rfl rfl ?_
      refine s2 tok [91, 94] 91 rfl rfl ?_
      refine s1 tok [95] ?_
      refine s1 tok [4] ?_
      refine AOpsO.nil ?_
      exact AW.ret ⟨.inr rfl, _, _, by (conv => lhs; simp), trivial, by simp⟩
end Go.Proofs.YtdlejiiiifhiiaaGreatDoor
