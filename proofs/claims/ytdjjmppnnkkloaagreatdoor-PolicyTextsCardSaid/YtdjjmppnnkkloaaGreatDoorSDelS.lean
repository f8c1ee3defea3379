import Derived.Test.YtdjjmppnnkkloaaGreatDoorK1
import Derived.Test.YtdjjmppnnkkloaaGreatDoorM4
namespace Go.Proofs.YtdjjmppnnkkloaaGreatDoor
open Sy Go
set_option maxRecDepth 100000
set_option maxHeartbeats 4000000
set_option linter.unusedSimpArgs false
set_option linter.unusedVariables false
variable {G : Glob}
/-- Where the first one stands. -/
def idxI (p : List UInt8 → Bool) (l : List (List UInt8)) : Int := match l.findIdx? p with
  | none => -1
  | some i => i
theorem idxI_at {p : List UInt8 → Bool} {l : List (List UInt8)} {k : Nat} {s : List UInt8} (hs : l[k]? = some s) (hall : ((l.take k).all fun s => !p s) = true) (hp : p s = true) : idxI p l = k := by
  have h : l.findIdx? p = some k := by
    rw [List.findIdx?_eq_some_iff_getElem]
    obtain ⟨hk, rfl⟩ := List.getElem?_eq_some_iff.1 hs
    refine ⟨hk, hp, fun j hj => ?_⟩
    have := List.all_eq_true.1 hall l[j] (List.mem_of_getElem? (i := j) (by rw [List.getElem?_take, if_pos hj]; simp [show j < l.length by omega]))
    simpa using this
  unfold idxI; rw [h]
theorem idxI_no {p : List UInt8 → Bool} {l : List (List UInt8)} (hall : (l.all fun s => !p s) = true) : idxI p l = -1 := by
  have h : l.findIdx? p = none := by
    rw [List.findIdx?_eq_none_iff]
    intro x hx
    have := List.all_eq_true.1 hall x hx
    simpa using this
  unfold idxI; rw [h]
theorem idxI_some {p : List UInt8 → Bool} {l : List (List UInt8)} (h : idxI p l ≠ -1) : ∃ (k : Nat) (s : List UInt8), idxI p l = k ∧ l[k]? = some s ∧ ((l.take k).all fun s => !p s) = true ∧ p s = true := by
  unfold idxI at h ⊢
  cases e : l.findIdx? p with
  | none => rw [e] at h; exact absurd rfl h
  | some k =>
    rw [List.findIdx?_eq_some_iff_getElem] at e
    obtain ⟨hk, hp, hn⟩ := e
    refine ⟨k, l[k], rfl, by simp [hk], List.all_eq_true.2 fun x hx => ?_, hp⟩
    obtain ⟨j, hj⟩ := List.mem_iff_getElem?.1 hx
    rw [List.getElem?_take] at hj
    split at hj
    · rename_i hjk
      obtain ⟨_, rfl⟩ := List.getElem?_eq_some_iff.1 hj
      simpa using hn j hjk
    · cases hj
theorem idxI_none {p : List UInt8 → Bool} {l : List (List UInt8)} (h : idxI p l = -1) : (l.all fun s => !p s) = true := by
  unfold idxI at h
  cases e : l.findIdx? p with
  | none =>
    rw [List.findIdx?_eq_none_iff] at e
    exact List.all_eq_true.2 fun x hx => by simpa using e x hx
  | some k => rw [e] at h; simp only at h; omega
theorem idxS_ax (g : FuncId) (p : List UInt8 → Bool) (l : List (List UInt8)) (hg : ∀ s : List UInt8, AFn Tryz.prog G g [.str s] (.bool (p s))) (hl : l.length ≤ 1000000000) : AX Tryz.prog G 102 [.ms 930, .p (.fn g)] [(930, .row 9 1 (l.map PD.str))] (.p (.int .i64 (idxI p l))) [930] [(930, .row 9 1 (l.map PD.str))] := by
  refine AX.introU tok 300 Tryz.func102 (by kernel_rfl) rfl rfl ?_
  simp only [Tryz.f102, enumA, List.map_cons, List.map_nil]
  refine rgn [] [[0, 1]] ?_
  refine op1 tok ?_
  refine runEnd ?_
  refine AW.seq ?_
  refine rgn [] [[], [], [0, 1, 7, 8]] ?_
  iterate 3 refine op1 tok ?_
  refine runEnd ?_
  refine AW.block ?_
  refine AW.loop (α := Nat) (fun k => k ≤ l.length ∧ ((l.take k).all fun s => !p s) = true) (fun k => ⟨upds 19 [(0, .ms 930), (1, .p (.fn g)), (7, .p (.int .i64 l.length)), (8, .p (.int .i64 k))], [930], [(930, .row 9 1 (l.map PD.str))], 300⟩) (fun k => l.length - k) (0) ⟨by omega, rfl⟩ ⟨upds_le (by simp), rfl, by simp, by simp⟩ ?_
  rintro k ⟨hk, hall⟩
  refine rgn [] [[]] ?_
  refine op1 tok ?_
  refine runEnd ?_
  refine AW.seq ?_
  refine cnd ?_ ?_
  · intro h9
    try simp at h9
    obtain ⟨s, hs⟩ : ∃ s, l[k]? = some s := ⟨l[k], by simp [h9]⟩
    have hgs := hg s
    refine AW.skip ?_
    refine AW.seq ?_
    refine AW.block ?_
    refine rgn [] [[], [0, 1, 5, 7, 8]] ?_
    iterate 2 refine op1 tok ?_
    refine runEnd ?_
    refine rgn [.str s, .nilp, .bool (p s)] [[], [], [], [], [], [0, 1, 5, 7, 8, 16]] ?_
    iterate 6 refine op1 tok ?_ (hv := by first | with_reducible exact True.intro | (first | exact hgs | (simp [hs]; done) | (simp [hs]; omega); done) | omega | simp | (simp; omega) | (simp +contextual; omega))
    refine runEnd ?_
    refine cnd ?_ ?_
    · intro h16
      try simp at h16
      have hi := idxI_at hs hall h16
      refine rgn [] [[], [4]] ?_
      iterate 2 refine op1 tok ?_
      refine runEnd ?_
      exact AW.ret ⟨.inr rfl, _, _, by (conv => lhs; simp), trivial, by simp [hi], by simp, by simp, by simp⟩
    · intro h16
      try simp at h16
      refine AW.skip ?_
      refine rgz [] [[], [0, 1, 7, 8]] ?_
      iterate 2 refine op1 tok ?_
      refine runEnd ?_
      exact ⟨k + 1, ⟨by omega, by rw [List.take_add_one, hs, List.all_append, hall]; simp [h16]⟩, by omega, upds_le (by simp), rfl, by simp, by simp⟩
  · intro h9
    try simp at h9
    rw [List.take_of_length_le h9] at hall
    have hi := idxI_no hall
    refine AW.exit ?_
    simp
    refine rgn [] [[]] ?_
    refine op1 tok ?_
    refine runEnd ?_
    exact AW.ret ⟨.inr rfl, _, _, by (conv => lhs; simp), trivial, by simp [hi], by simp, by simp, by simp⟩
/-- A row that is being sifted: what is kept, what is left over, what is to come. -/
def rowD (F J C : List (List UInt8)) : List PD := F.map PD.str ++ (J.map PD.str ++ C.map PD.str)
@[simp] theorem rowD_len (F J C : List (List UInt8)) : (rowD F J C).length = F.length + (J.length + C.length) := by simp [rowD]
theorem rowD_get {F J C : List (List UInt8)} {j : Nat} {v : List UInt8} (h : F.length + J.length = j) : (rowD F J (v :: C))[j]? = some (.str v) := by
  unfold rowD
  rw [List.getElem?_append_right (by simp; omega), List.getElem?_append_right (by simp; omega)]
  simp only [List.length_map]
  rw [show j - F.length - J.length = 0 by omega]; simp
theorem rowD_get0 {F J C : List (List UInt8)} {x : List UInt8} : (rowD F (x :: J) C)[F.length]? = some (.str x) := by
  unfold rowD
  rw [List.getElem?_append_right (by simp)]; simp
theorem rowD_set {F J C : List (List UInt8)} {x v : List UInt8} : (rowD F (x :: J) (v :: C)).set F.length (.str v) = rowD (F ++ [v]) (J ++ [v]) C := by
  unfold rowD
  rw [List.set_append_right _ _ (by simp)]; simp
theorem rowD_skip {F J C : List (List UInt8)} {v : List UInt8} : rowD F J (v :: C) = rowD F (J ++ [v]) C := by simp [rowD]
theorem rowD_cut (F J C : List (List UInt8)) (r : List PD) : ((rowD F J C).take F.length ++ r).take F.length = F.map PD.str := by
  unfold rowD
  rw [List.take_append_of_le_length (by simp), List.take_of_length_le (by simp), List.take_append_of_le_length (by simp), List.take_of_length_le (by simp)]
theorem delS_ax (g : FuncId) (p : List UInt8 → Bool) (l : List (List UInt8)) (hg : ∀ s : List UInt8, AFn Tryz.prog G g [.str s] (.bool (p s))) (hl : l.length ≤ 1000000000) : AX Tryz.prog G 69 [.ms 930, .p (.fn g)] [(930, .row 9 1 (l.map PD.str))] (.ms 930) [] [(930, .row 9 1 ((l.filter fun s => !p s).map PD.str))] := by
  refine AX.introU tok 400 Tryz.func69 (by kernel_rfl) rfl rfl ?_
  simp only [Tryz.f69, enumA, List.map_cons, List.map_nil]
  refine rgn [] [[0, 1]] ?_
  refine op1 tok ?_
  refine runEnd ?_
  refine rgn [] [[], []] ?_
  iterate 2 refine op1 tok ?_
  refine runOff ?_
  refine AOpsO.stepK [0, 1, 10] (y_cx rfl (idxS_ax g p l hg hl) (by simp)) (by conv => lhs; simp) rfl ?_
  refine AOpsO.run [[0, 1, 5]] ?_
  refine op1 tok ?_
  refine runEnd ?_
  refine AW.seq ?_
  refine rgn [] [[], [0, 1, 5, 12]] ?_
  iterate 2 refine op1 tok ?_
  refine runEnd ?_
  refine cnd ?_ ?_
  · intro h12
    try simp at h12
    have hall := idxI_none h12
    have hf : (l.filter fun s => !p s) = l := List.filter_eq_self.2 fun x hx => List.all_eq_true.1 hall x hx
    rw [hf]
    refine rgn [] [[], [4]] ?_
    iterate 2 refine op1 tok ?_
    refine runEnd ?_
    exact AW.ret ⟨.inr rfl, _, _, by (conv => lhs; simp), trivial, by simp, by simp, by simp, by simp⟩
  · intro h12
    try simp at h12
    obtain ⟨i0, s0, hi0, hs0, hall0, hp0⟩ := idxI_some h12
    rw [hi0]
    have hi0l := (List.getElem?_eq_some_iff.1 hs0).1
    have hf0 : ((l.take (i0 + 1)).filter fun s => !p s) = l.take i0 := by
      rw [List.take_add_one, hs0, List.filter_append, List.filter_eq_self.2 fun x hx => List.all_eq_true.1 hall0 x hx]
      simp [hp0]
    have hrow0 : l.map PD.str = rowD ((l.take (i0 + 1)).filter fun s => !p s) [s0] (l.drop (i0 + 1)) := by
      have e : l = l.take i0 ++ s0 :: l.drop (i0 + 1) := by
        obtain ⟨h, rfl⟩ := List.getElem?_eq_some_iff.1 hs0
        rw [← List.drop_eq_getElem_cons h, List.take_append_drop]
      rw [hf0]
      conv => lhs; rw [e]
      simp [rowD]
    have hfl0 : ((l.take (i0 + 1)).filter fun s => !p s).length = i0 := by rw [hf0]; simp; omega
    refine AW.skip ?_
    refine AW.seq ?_
    refine rgn [] [[], [], [0, 1, 5, 6]] ?_
    iterate 3 refine op1 tok ?_
    refine runEnd ?_
    refine AW.block ?_
    refine AW.loop (α := Nat × List (List UInt8)) (fun a => a.1 ≤ l.length ∧ ((l.take a.1).filter fun s => !p s).length + a.2.length = a.1 ∧ 1 ≤ a.2.length) (fun a => ⟨upds 42 [(0, .ms 930), (1, .p (.fn g)), (5, .p (.int .i64 ((l.take a.1).filter fun s => !p s).length)), (6, .p (.int .i64 a.1))], [930], [(930, .row 9 1 (rowD ((l.take a.1).filter fun s => !p s) a.2 (l.drop a.1)))], 400⟩) (fun a => l.length - a.1) ((i0 + 1, [s0])) ⟨by simp only []; omega, by simp only [hfl0]; simp, by simp⟩ ⟨upds_le (by simp [hfl0]), rfl, by simp [← hrow0], by simp⟩ ?_
    rintro ⟨j, J⟩ ⟨hj, hlen, hJ⟩
    simp only at hj hlen hJ
    have hdl : (l.drop j).length = l.length - j := by simp
    generalize hF : ((l.take j).filter fun s => !p s) = F at *
    generalize hD : l.drop j = D at *
    refine AW.seq ?_
    refine rgn [] [[], [], [], [0, 1, 5, 6, 19]] ?_
    iterate 4 refine op1 tok ?_
    refine runEnd ?_
    refine cnd ?_ ?_
    · intro h19
      try simp at h19
      obtain ⟨v, C, rfl⟩ : ∃ v C, D = v :: C := by
        cases D with
        | nil => simp only [List.length_nil] at hdl h19; omega
        | cons v C => exact ⟨v, C, rfl⟩
      obtain ⟨x, J, rfl⟩ : ∃ x J', J = x :: J' := by
        cases J with
        | nil => simp at hJ
        | cons x J => exact ⟨x, J, rfl⟩
      have hv : l[j]? = some v := by
        have := congrArg List.head? hD
        rwa [List.head?_drop] at this
      have hC : l.drop (j + 1) = C := by
        rw [← List.drop_drop, hD]; rfl
      have hgv := hg v
      have hget := rowD_get (C := C) (v := v) hlen
      have hset := rowD_set (F := F) (J := J) (C := C) (x := x) (v := v)
      have hget0 := rowD_get0 (F := F) (J := J) (C := v :: C) (x := x)
      have hF1 : ((l.take (j + 1)).filter fun s => !p s) = F ++ (if p v = true then [] else [v]) := by
        rw [List.take_add_one, hv, List.filter_append, hF]
        by_cases hp : p v = true <;> simp [hp]
      simp only [List.length_cons] at hdl hlen hJ
      refine AW.skip ?_
      refine AW.seq ?_
      refine AW.block ?_
      refine rgn [.str v] [[], [], [], [], [0, 1, 5, 6, 7]] ?_
      iterate 5 refine op1 tok ?_ (hv := by first | with_reducible exact True.intro | (first | exact ⟨_, hget, rfl⟩ | (simp [hget]; done) | (simp; omega); done) | omega | simp | (simp; omega) | (simp +contextual; omega))
      refine runEnd ?_
      refine rgn [.nilp, .bool (p v)] [[], [], [], [0, 1, 5, 6, 7, 29]] ?_
      iterate 4 refine op1 tok ?_ (hv := by first | with_reducible exact True.intro | (exact hgv; done) | omega | simp | (simp; omega) | (simp +contextual; omega))
      refine runEnd ?_
      refine cnd ?_ ?_
      · intro h29
        try simp at h29
        refine rgn [.str x, .str v] [[], [], [], [], [0, 1, 5, 6]] ?_
        iterate 5 refine op1 tok ?_ (hv := by first | with_reducible exact True.intro | (first | (simp [hget0]; done) | (simp [hget0]; omega); done) | omega | simp | (simp; omega) | (simp +contextual; omega))
        refine runEnd ?_
        refine rgz [] [[], [], [0, 1, 5, 6]] ?_
        iterate 3 refine op1 tok ?_
        refine runEnd ?_
        refine rgz [] [[], [], [0, 1, 5, 6]] ?_
        iterate 3 refine op1 tok ?_
        refine runEnd ?_
        exact ⟨(j + 1, J ++ [v]), ⟨by simp only []; omega, by simp [hF1, h29]; omega, by simp⟩, by simp only []; omega, upds_le (by simp [hF1, h29, hC, hset]), rfl, by simp [hF1, h29, hC, hset], by simp [hF1, h29, hC, hset]⟩
      · intro h29
        try simp at h29
        refine AW.skip ?_
        refine rgz [] [[], [], [0, 1, 5, 6]] ?_
        iterate 3 refine op1 tok ?_
        refine runEnd ?_
        exact ⟨(j + 1, (x :: J) ++ [v]), ⟨by simp only []; omega, by simp [hF1, h29]; omega, by simp⟩, by simp only []; omega, upds_le (by simp [hF1, h29, hC, rowD_skip]), rfl, by simp [hF1, h29, hC, rowD_skip], by simp [hF1, h29, hC, rowD_skip]⟩
    · intro h19
      try simp at h19
      have hjl : j = l.length := by omega
      subst hjl
      rw [List.take_length] at hF
      rw [hF]
      have hcut := rowD_cut F J D
      refine AW.exit ?_
      simp
      refine rgn [] [[], []] ?_
      iterate 2 refine op1 tok ?_
      refine runOff ?_
      refine AOpsO.clearFrom tok [0, 5, 38] (e0 := .str []) F.length rfl rfl rfl rfl rfl rfl rfl rfl rfl rfl (by simp) (by conv => lhs; simp) trivial (by conv => lhs; simp) trivial (by conv => lhs; simp) rfl (by first | (simp; done) | (simp; omega)) (by omega) (by simp) ?_
      simp only [St.put, upds_set, insA, St.keep, upds_mask, keepA, setBox]
      refine AOpsO.nil ?_
      refine rgn [] [[], []] ?_
      iterate 2 refine op1 tok ?_
      refine runOff ?_
      refine AOpsO.stepK [41] (y_cutRow tok rfl rfl F.length (by conv => lhs; simp) trivial (by conv => lhs; simp) trivial rfl (by conv => lhs; simp) (by first | (simp; done) | (simp; omega)) (by omega)) (by conv => lhs; simp [hcut]) rfl ?_
      refine AOpsO.run [[4]] ?_
      refine op1 tok ?_
      refine runEnd ?_
      exact AW.ret ⟨.inr rfl, _, _, by (conv => lhs; simp), trivial, by simp, by simp, by simp, by simp⟩
end Go.Proofs.YtdjjmppnnkkloaaGreatDoor
