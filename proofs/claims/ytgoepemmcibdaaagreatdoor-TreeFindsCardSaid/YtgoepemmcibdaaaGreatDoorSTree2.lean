import Derived.Test.YtgoepemmcibdaaaGreatDoorSTree1
namespace Go.Proofs.YtgoepemmcibdaaaGreatDoor
open Sy Go
set_option maxRecDepth 100000
set_option maxHeartbeats 4000000
set_option linter.unusedSimpArgs false
set_option linter.unusedVariables false
variable {G : Glob}

def numT (v : Val) : Bool := if v.kind = 4 then dcMay v.num else decide (v.num.neg = false ∧ v.num.digits = [] ∧ v.num.scale = 0)
def textT (v : Val) : Bool := if v.kind = 5 then wordT v.text else decide (v.text = [])
def namedT (v : Val) : Bool := if v.kind = 7 then decide ((v.keys.length : Int) = v.kids.length) && keysT v.keys else decide (v.keys = [])
def kidsT (v : Val) : Bool := decide (v.kids = []) || decide (v.kind = 6) || decide (v.kind = 7)
def codeT (v : Val) : Bool := decide (decide (v.kind = 8) = !decide (v.code = 0))
def partsT (v : Val) : Bool := codeT v && numT v && textT v && namedT v && kidsT v
def boundsT (v : Val) : Bool := decide (1 ≤ v.kind ∧ v.kind ≤ 8 ∧ v.kids.length ≤ 200)
mutual
/-- May a value be? -/
def mayT : Val → Bool
  | .mk k m n t ks vs c => boundsT (.mk k m n t ks vs c) && partsT (.mk k m n t ks vs c) && mayTL vs
def mayTL : List Val → Bool
  | [] => true
  | v :: vs => mayT v && mayTL vs
end
theorem mayTL_all : ∀ l, mayTL l = l.all mayT
  | [] => by simp [mayTL]
  | v :: vs => by simp [mayTL, mayTL_all vs]
theorem mayT_eq (v : Val) : mayT v = (boundsT v && partsT v && v.kids.all mayT) := by
  cases v; simp only [mayT, mayTL_all, Val.kids]
theorem len0 {α : Type} {l : List α} : ((l.length : Int) = 0) = (l = []) := by rw [← List.length_eq_zero_iff]; exact propext (by omega)
theorem partsT_ev (hG : U8 G) (v : Val) : AFn Tryz.prog G 51 [v.enc] (.bool (partsT v)) := by
  refine AFn.introU tok Tryz.func51 (by kernel_rfl) rfl rfl ?_
  simp only [Tryz.f51, enumA, List.map_cons, List.map_nil]
  have hd := dcMay_ev (G := G) v.num
  have hw := wordT_ev hG v.text
  have hk := keysT_ev hG v.keys
  refine AW.seqRegionO [] ?_
  refine s1 tok [1] ?_
  refine s1 tok [1] ?_
  refine AOpsO.nil ?_
  refine AW.seqRegionO [] ?_
  refine s1 tok [1, 4] ?_
  refine s1 tok [1, 5] ?_
  refine s1 tok [1, 6] ?_
  refine s1 tok [1, 6, 7] ?_
  refine s1 tok [1, 6, 8] ?_
  refine s1 tok [1, 6, 9] ?_
  refine s1 tok [1, 10] ?_
  refine s1 tok [1, 3] ?_
  refine AOpsO.nil ?_
  refine AW.join (α := Unit) (fun _ => True) (fun a => ⟨upds 83 [(1, .ptr 1 0), (3, .p (.bool (codeT v && numT v)))], [], [(1, .vars 31 v.cells)], 0⟩) ?_ ?_
  ·
    refine AW.seqRegionO [] ?_
    refine s1 tok [1, 3, 11] ?_
    refine s1 tok [1, 3, 12] ?_
    refine s1 tok [1, 3, 13] ?_
    refine AOpsO.nil ?_
    refine AW.cond (c := .tmp 13) (by conv => lhs; simp) trivial ?_ ?_
    · intro h13
      try simp at h13
      refine AW.regionO [.nilp, .bool (dcMay v.num)] ?_
      refine s1 tok [1, 14] ?_
      refine s1 tok [1, 15] ?_
      refine s2 tok [1, 15, 16] 15 rfl rfl ?_
      refine s2 tok [1, 15, 17] 15 rfl rfl ?_ (hv := by first | with_reducible exact True.intro | (((repeat' (first | with_reducible apply And.intro | intro _)) <;> first | exact (hd) | assumption | omega | contradiction | simp_all); done) | omega | simp | (simp; omega) | (simp +contextual; omega))
      refine s2 tok [1, 15, 18] 15 rfl rfl ?_ (hv := by first | with_reducible exact True.intro | (((repeat' (first | with_reducible apply And.intro | intro _)) <;> first | exact (hd) | assumption | omega | contradiction | simp_all); done) | omega | simp | (simp; omega) | (simp +contextual; omega))
      refine s1 tok [1, 19] ?_ (hv := by first | with_reducible exact True.intro | (((repeat' (first | with_reducible apply And.intro | intro _)) <;> first | exact (hd) | assumption | omega | contradiction | simp_all); done) | omega | simp | (simp; omega) | (simp +contextual; omega))
      refine s1 tok [1, 3] ?_
      refine AOpsO.nil ?_
      exact ⟨(), trivial, upds_le (by simp [codeT, numT, h13]), rfl, by simp [codeT, numT, h13], by simp [codeT, numT, h13]⟩
    · intro h13
      try simp at h13
      refine AW.regionO [] ?_
      refine s1 tok [1, 20] ?_
      refine s1 tok [1, 21] ?_
      refine s2 tok [1, 21, 22] 21 rfl rfl ?_
      refine s2 tok [1, 21, 23] 21 rfl rfl ?_
      refine s2 tok [1, 21, 23, 24] 21 rfl rfl ?_
      refine s2 tok [1, 21, 25] 21 rfl rfl ?_
      refine s1 tok [1, 26] ?_
      refine s1 tok [1, 3] ?_
      refine AOpsO.nil ?_
      exact ⟨(), trivial, upds_le (by simp [codeT, numT, h13]), rfl, by simp [codeT, numT, h13], by simp [codeT, numT, h13]⟩
  ·
    rintro a hI
    refine AW.join (α := Unit) (fun _ => True) (fun a => ⟨upds 83 [(1, .ptr 1 0), (3, .p (.bool (codeT v && numT v && textT v)))], [], [(1, .vars 31 v.cells)], 0⟩) ?_ ?_
    ·
      refine AW.seqRegionO [] ?_
      refine s1 tok [1, 3, 27] ?_
      refine s1 tok [1, 3, 28] ?_
      refine s1 tok [1, 3, 29] ?_
      refine AOpsO.nil ?_
      refine AW.cond (c := .tmp 29) (by conv => lhs; simp) trivial ?_ ?_
      · intro h29
        try simp at h29
        refine AW.regionO [.nilp, .bool (wordT v.text)] ?_
        refine s1 tok [1, 30] ?_
        refine s1 tok [1, 31] ?_
        refine s2 tok [1, 31, 32] 31 rfl rfl ?_
        refine s2 tok [1, 31, 33] 31 rfl rfl ?_ (hv := by first | with_reducible exact True.intro | (((repeat' (first | with_reducible apply And.intro | intro _)) <;> first | exact (hw) | assumption | omega | contradiction | simp_all); done) | omega | simp | (simp; omega) | (simp +contextual; omega))
        refine s2 tok [1, 31, 34] 31 rfl rfl ?_ (hv := by first | with_reducible exact True.intro | (((repeat' (first | with_reducible apply And.intro | intro _)) <;> first | exact (hw) | assumption | omega | contradiction | simp_all); done) | omega | simp | (simp; omega) | (simp +contextual; omega))
        refine s1 tok [1, 35] ?_ (hv := by first | with_reducible exact True.intro | (((repeat' (first | with_reducible apply And.intro | intro _)) <;> first | exact (hw) | assumption | omega | contradiction | simp_all); done) | omega | simp | (simp; omega) | (simp +contextual; omega))
        refine s1 tok [1, 3] ?_
        refine AOpsO.nil ?_
        exact ⟨(), trivial, upds_le (by simp [textT, h29]), rfl, by simp [textT, h29], by simp [textT, h29]⟩
      · intro h29
        try simp at h29
        refine AW.regionO [] ?_
        refine s1 tok [1, 36] ?_
        refine s1 tok [1, 37] ?_
        refine s2 tok [1, 37, 38] 37 rfl rfl ?_
        refine s2 tok [1, 37, 39] 37 rfl rfl ?_
        refine s2 tok [1, 37, 40] 37 rfl rfl ?_
        refine s1 tok [1, 41] ?_
        refine s1 tok [1, 3] ?_
        refine AOpsO.nil ?_
        exact ⟨(), trivial, upds_le (by simp [textT, h29]), rfl, by simp [textT, h29], by simp [textT, h29]⟩
    ·
      rintro a hI
      refine AW.seq ?_
      refine AW.seqRegionO [] ?_
      refine s1 tok [1, 3, 42] ?_
      refine s1 tok [1, 3, 43] ?_
      refine AOpsO.nil ?_
      refine AW.block ?_
      refine AW.seqRegionO [] ?_
      refine s1 tok [1, 3, 43, 45] ?_
      refine s1 tok [1, 3, 43, 44] ?_
      refine AOpsO.nil ?_
      refine AW.cond (c := .tmp 44) (by conv => lhs; simp) trivial ?_ ?_
      · intro h44
        try simp at h44
        refine AW.seqRegionO [.nilp, .bool (keysT v.keys)] ?_
        refine s1 tok [1, 46] ?_
        refine s1 tok [1, 47] ?_
        refine s2 tok [1, 47, 48] 47 rfl rfl ?_
        refine s2 tok [1, 47, 49] 47 rfl rfl ?_ (hv := by first | with_reducible exact True.intro | (((repeat' (first | with_reducible apply And.intro | intro _)) <;> first | exact (hk) | assumption | omega | contradiction | simp_all); done) | omega | simp | (simp; omega) | (simp +contextual; omega))
        refine s2 tok [1, 47, 50] 47 rfl rfl ?_ (hv := by first | with_reducible exact True.intro | (((repeat' (first | with_reducible apply And.intro | intro _)) <;> first | exact (hk) | assumption | omega | contradiction | simp_all); done) | omega | simp | (simp; omega) | (simp +contextual; omega))
        refine s2 tok [1, 47, 50, 51] 47 rfl rfl ?_
        refine s2 tok [1, 47, 50, 52] 47 rfl rfl ?_ (hv := by first | with_reducible exact True.intro | (((repeat' (first | with_reducible apply And.intro | intro _)) <;> first | exact (hk) | assumption | omega | contradiction | simp_all); done) | omega | simp | (simp; omega) | (simp +contextual; omega))
        refine s2 tok [1, 47, 50, 53] 47 rfl rfl ?_ (hv := by first | with_reducible exact True.intro | (((repeat' (first | with_reducible apply And.intro | intro _)) <;> first | exact (hk) | assumption | omega | contradiction | simp_all); done) | omega | simp | (simp; omega) | (simp +contextual; omega))
        refine s2 tok [1, 47, 54] 47 rfl rfl ?_ (hv := by first | with_reducible exact True.intro | (((repeat' (first | with_reducible apply And.intro | intro _)) <;> first | exact (hk) | assumption | omega | contradiction | simp_all); done) | omega | simp | (simp; omega) | (simp +contextual; omega))
        refine s1 tok [1, 55] ?_ (hv := by first | with_reducible exact True.intro | (((repeat' (first | with_reducible apply And.intro | intro _)) <;> first | exact (hk) | assumption | omega | contradiction | simp_all); done) | omega | simp | (simp; omega) | (simp +contextual; omega))
        refine s1 tok [1, 56] ?_
        refine s2 tok [56, 57] 56 rfl rfl ?_
        refine s2 tok [56, 58] 56 rfl rfl ?_ (hv := by first | with_reducible exact True.intro | (((repeat' (first | with_reducible apply And.intro | intro _)) <;> first | exact (hk) | assumption | omega | contradiction | simp_all); done) | omega | simp | (simp; omega) | (simp +contextual; omega))
        refine s2 tok [56, 59] 56 rfl rfl ?_ (hv := by first | with_reducible exact True.intro | (((repeat' (first | with_reducible apply And.intro | intro _)) <;> first | exact (hk) | assumption | omega | contradiction | simp_all); done) | omega | simp | (simp; omega) | (simp +contextual; omega))
        refine s1 tok [60] ?_ (hv := by first | with_reducible exact True.intro | (((repeat' (first | with_reducible apply And.intro | intro _)) <;> first | exact (hk) | assumption | omega | contradiction | simp_all); done) | omega | simp | (simp; omega) | (simp +contextual; omega))
        refine s1 tok [2] ?_
        refine AOpsO.nil ?_
        exact AW.ret ⟨.inr rfl, _, _, by (conv => lhs; simp), trivial, by simp [partsT, namedT, kidsT, h44, Bool.and_assoc]⟩
      · intro h44
        try simp at h44
        refine AW.seqRegionO [] ?_
        refine s1 tok [1, 3, 62] ?_
        refine s1 tok [1, 3, 61] ?_
        refine AOpsO.nil ?_
        refine AW.cond (c := .tmp 61) (by conv => lhs; simp) trivial ?_ ?_
        · intro h61
          try simp at h61
          refine AW.seqRegionO [] ?_
          refine s1 tok [1, 63] ?_
          refine s1 tok [1, 64] ?_
          refine s2 tok [64, 65] 64 rfl rfl ?_
          refine s2 tok [64, 66] 64 rfl rfl ?_
          refine s2 tok [64, 67] 64 rfl rfl ?_
          refine s2 tok [64, 68] 64 rfl rfl ?_
          refine s1 tok [69] ?_
          refine s1 tok [2] ?_
          refine AOpsO.nil ?_
          exact AW.ret ⟨.inr rfl, _, _, by (conv => lhs; simp), trivial, by simp [partsT, namedT, kidsT, h44, h61, len0]⟩
        · intro h61
          try simp at h61
          refine AW.skip ?_
          refine AW.seqRegionO [] ?_
          refine s1 tok [1, 70] ?_
          refine s1 tok [1, 71] ?_
          refine s2 tok [1, 71, 72] 71 rfl rfl ?_
          refine s2 tok [1, 71, 73] 71 rfl rfl ?_
          refine s2 tok [1, 71, 74] 71 rfl rfl ?_
          refine s2 tok [1, 71, 75] 71 rfl rfl ?_
          refine s1 tok [1, 76] ?_
          refine s1 tok [1, 77] ?_
          refine s2 tok [77, 78] 77 rfl rfl ?_
          refine s2 tok [77, 79] 77 rfl rfl ?_
          refine s2 tok [77, 80] 77 rfl rfl ?_
          refine s2 tok [77, 81] 77 rfl rfl ?_
          refine s1 tok [82] ?_
          refine s1 tok [2] ?_
          refine AOpsO.nil ?_
          exact AW.ret ⟨.inr rfl, _, _, by (conv => lhs; simp), trivial, by simp [partsT, namedT, kidsT, h44, h61, len0]⟩
theorem indexV_ev (l : List Val) (g : FuncId) (p : Val → Bool) (hg : ∀ v ∈ l, AFn Tryz.prog G g [v.enc] (.bool (p v))) : AFn Tryz.prog G 84 [.sl 9 (l.map Val.enc), .fn g] (.int .i64 (match l.findIdx? p with | some i => (i : Int) | none => -1)) := by
  refine AFn.introU tok Tryz.func84 (by kernel_rfl) rfl rfl ?_
  simp only [Tryz.f84, enumA, List.map_cons, List.map_nil]
  refine AW.seqRegionO [] ?_
  refine s1 tok [0, 1] ?_
  refine AOpsO.nil ?_
  refine AW.seq ?_
  refine AW.seqRegionO [] ?_
  refine s1 tok [0, 1, 6] ?_
  refine s1 tok [0, 1, 7] ?_
  refine s1 tok [0, 1, 7, 8] ?_
  refine AOpsO.nil ?_
  refine AW.block ?_
  refine AW.intFactU (i := 7) rfl (by decide) ?_; intro hlen; simp at hlen
  refine AW.loop (α := Nat) (fun k => k ≤ l.length ∧ (l.take k).all (fun v => !p v) = true) (fun k => ⟨upds 19 [(0, .p (.sl 9 (l.map Val.enc))), (1, .p (.fn g)), (7, .p (.int .i64 l.length)), (8, .p (.int .i64 k))], [], [], 0⟩) (fun k => l.length - k) (0) ⟨by omega, rfl⟩ ⟨upds_le (by simp), rfl, by simp, by simp⟩ ?_
  rintro k ⟨hk, hall⟩
  refine AW.seqRegionO [] ?_
  refine s1 tok [0, 1, 7, 8, 9] ?_
  refine AOpsO.nil ?_
  refine AW.seq ?_
  refine AW.cond (c := .tmp 9) (by conv => lhs; simp) trivial ?_ ?_
  · intro h9
    try simp at h9
    obtain ⟨v, hv⟩ : ∃ v, l[k]? = some v := ⟨l[k], by simp [h9]⟩
    have hgv := hg v (List.mem_of_getElem? hv)
    refine AW.skip ?_
    refine AW.seq ?_
    refine AW.block ?_
    refine AW.seqRegionO [] ?_
    refine s1 tok [0, 1, 7, 8, 10] ?_
    refine s1 tok [0, 1, 5, 7, 8] ?_
    refine AOpsO.nil ?_
    refine AW.seqRegionO [v.enc, .tup [v.enc], .bool (p v)] ?_
    refine s1 tok [0, 1, 5, 7, 8, 11] ?_
    refine s1 tok [0, 1, 5, 7, 8, 11, 12] ?_
    refine s1 tok [0, 1, 5, 7, 8, 11, 12, 13] ?_
    refine s1 tok [0, 1, 5, 7, 8, 11, 14] ?_ (hv := by first | with_reducible exact True.intro | (first | (simp [hv]; done) | (simp at hgv ⊢; exact hgv); done) | omega | simp | (simp; omega) | (simp +contextual; omega))
    refine s1 tok [0, 1, 5, 7, 8, 11, 15] ?_ (hv := by first | with_reducible exact True.intro | (first | (simp [hv]; done) | (simp at hgv ⊢; exact hgv); done) | omega | simp | (simp; omega) | (simp +contextual; omega))
    refine s1 tok [0, 1, 5, 7, 8, 16] ?_ (hv := by first | with_reducible exact True.intro | (first | (simp [hv]; done) | (simp at hgv ⊢; exact hgv); done) | omega | simp | (simp; omega) | (simp +contextual; omega))
    refine AOpsO.nil ?_
    refine AW.cond (c := .tmp 16) (by conv => lhs; simp) trivial ?_ ?_
    · intro h16
      try simp at h16
      have hf : l.findIdx? p = some k := by
        rw [List.findIdx?_eq_some_iff_getElem]
        have h9' := h9
        refine ⟨h9, ?_, fun j hj => ?_⟩
        · rw [List.getElem?_eq_getElem h9] at hv; cases hv; exact h16
        · have := List.all_eq_true.1 hall (l[j]'(by omega)) (List.mem_iff_getElem.2 ⟨j, by simp; omega, by simp⟩)
          simpa using this
      refine AW.seqRegionO [] ?_
      refine s1 tok [17] ?_
      refine s1 tok [4] ?_
      refine AOpsO.nil ?_
      exact AW.ret ⟨.inr rfl, _, _, by (conv => lhs; simp), trivial, by simp [hf]⟩
    · intro h16
      try simp at h16
      refine AW.skip ?_
      refine AW.regionO [] ?_
      refine s1 tok [0, 1, 7, 18] ?_
      refine s1 tok [0, 1, 7, 8] ?_
      refine AOpsO.nil ?_
      exact ⟨k + 1, ⟨by omega, by rw [List.take_add_one, hv, List.all_append, hall]; simpa using h16⟩, by omega, upds_le (by simp), rfl, by simp, by simp⟩
  · intro h9
    try simp at h9
    rw [List.take_of_length_le h9] at hall
    have hf : l.findIdx? p = none := by
      rw [List.findIdx?_eq_none_iff]; intro x hx; simpa using List.all_eq_true.1 hall x hx
    refine AW.exit ?_
    simp
    refine AW.seqRegionO [] ?_
    refine s1 tok [4] ?_
    refine AOpsO.nil ?_
    exact AW.ret ⟨.inr rfl, _, _, by (conv => lhs; simp), trivial, by simp [hf]⟩
theorem containsV_ev (l : List Val) (g : FuncId) (p : Val → Bool) (hg : ∀ v ∈ l, AFn Tryz.prog G g [v.enc] (.bool (p v))) : AFn Tryz.prog G 52 [.sl 9 (l.map Val.enc), .fn g] (.bool (l.any p)) := by
  refine AFn.introU tok Tryz.func52 (by kernel_rfl) rfl rfl ?_
  simp only [Tryz.f52, enumA, List.map_cons, List.map_nil]
  have hi := indexV_ev l g p hg
  have ha : l.any p = decide (0 ≤ (match l.findIdx? p with | some i => (i : Int) | none => -1)) := by
    cases h : l.findIdx? p with
    | none => simp; intro x hx; simpa using List.findIdx?_eq_none_iff.1 h x hx
    | some i =>
      obtain ⟨h1, h2, _⟩ := List.findIdx?_eq_some_iff_getElem.1 h
      simp; exact ⟨_, List.getElem_mem h1, h2⟩
  rw [ha]
  generalize (match l.findIdx? p with | some i => (i : Int) | none => -1) = n at *
  refine AW.seqRegionO [] ?_
  refine s1 tok [0, 1] ?_
  refine AOpsO.nil ?_
  refine AW.seqRegionO [.nilp, .int .i64 n] ?_
  refine s1 tok [1, 5] ?_
  refine s1 tok [5, 6] ?_
  refine s1 tok [7] ?_ (hv := by first | with_reducible exact True.intro | (first | exact hi | simp; done) | omega | simp | (simp; omega) | (simp +contextual; omega))
  refine s1 tok [8] ?_ (hv := by first | with_reducible exact True.intro | (first | exact hi | simp; done) | omega | simp | (simp; omega) | (simp +contextual; omega))
  refine s1 tok [4] ?_
  refine AOpsO.nil ?_
  exact AW.ret ⟨.inr rfl, _, _, by (conv => lhs; simp), trivial, by simp⟩
theorem may1_ev (v : Val) (h : AFn Tryz.prog G 17 [v.enc] (.bool (mayT v))) : AFn Tryz.prog G 53 [v.enc] (.bool (!mayT v)) := by
  refine AFn.introU tok Tryz.func53 (by kernel_rfl) rfl rfl ?_
  simp only [Tryz.f53, enumA, List.map_cons, List.map_nil]
  refine AW.seqRegionO [] ?_
  refine s1 tok [1] ?_
  refine s1 tok [1] ?_
  refine AOpsO.nil ?_
  refine AW.seqRegionO [.nilp, .bool (mayT v)] ?_
  refine s1 tok [3] ?_ (hv := by first | with_reducible exact True.intro | (first | exact h | (simp at h ⊢; exact h); done) | omega | simp | (simp; omega) | (simp +contextual; omega))
  refine s1 tok [4] ?_ (hv := by first | with_reducible exact True.intro | (first | exact h | (simp at h ⊢; exact h); done) | omega | simp | (simp; omega) | (simp +contextual; omega))
  refine s1 tok [5] ?_ (hv := by first | with_reducible exact True.intro | (first | exact h | (simp at h ⊢; exact h); done) | omega | simp | (simp; omega) | (simp +contextual; omega))
  refine s1 tok [2] ?_
  refine AOpsO.nil ?_
  exact AW.ret ⟨.inr rfl, _, _, by (conv => lhs; simp), trivial, by simp⟩
theorem mayT_step (hG : U8 G) (v : Val) (ih : ∀ k ∈ v.kids, AFn Tryz.prog G 17 [k.enc] (.bool (mayT k))) : AFn Tryz.prog G 17 [v.enc] (.bool (mayT v)) := by
  refine AFn.introU tok Tryz.func17 (by kernel_rfl) rfl rfl ?_
  simp only [Tryz.f17, enumA, List.map_cons, List.map_nil]
  have hp := partsT_ev hG v
  have hc := containsV_ev (G := G) v.kids 53 (fun k => !mayT k) (fun k hk => may1_ev k (ih k hk))
  have hca : v.kids.any (fun k => !mayT k) = !v.kids.all mayT := by simp [List.all_eq_not_any_not]
  rw [hca] at hc
  rw [mayT_eq]
  refine AW.seqRegionO [] ?_
  refine s1 tok [1] ?_
  refine s1 tok [1] ?_
  refine AOpsO.nil ?_
  refine AW.seq ?_
  refine AW.seqRegionO [.nilp, .bool (partsT v)] ?_
  refine s1 tok [1, 3] ?_
  refine s1 tok [1, 4] ?_ (hv := by first | with_reducible exact True.intro | (first | ((repeat' (first | with_reducible apply And.intro | intro _)) <;> first | exact (hp) | assumption | omega | contradiction | simp_all) | (simp at hp ⊢; ((repeat' (first | with_reducible apply And.intro | intro _)) <;> first | exact (hp) | assumption | omega | contradiction | simp_all)); done) | omega | simp | (simp; omega) | (simp +contextual; omega))
  refine s1 tok [1, 5] ?_ (hv := by first | with_reducible exact True.intro | (first | ((repeat' (first | with_reducible apply And.intro | intro _)) <;> first | exact (hp) | assumption | omega | contradiction | simp_all) | (simp at hp ⊢; ((repeat' (first | with_reducible apply And.intro | intro _)) <;> first | exact (hp) | assumption | omega | contradiction | simp_all)); done) | omega | simp | (simp; omega) | (simp +contextual; omega))
  refine s1 tok [1, 6] ?_
  refine s2 tok [1, 6, 7] 6 rfl rfl ?_
  refine s2 tok [1, 6, 8] 6 rfl rfl ?_ (hv := by first | with_reducible exact True.intro | (first | ((repeat' (first | with_reducible apply And.intro | intro _)) <;> first | exact (hp) | assumption | omega | contradiction | simp_all) | (simp at hp ⊢; ((repeat' (first | with_reducible apply And.intro | intro _)) <;> first | exact (hp) | assumption | omega | contradiction | simp_all)); done) | omega | simp | (simp; omega) | (simp +contextual; omega))
  refine s2 tok [1, 6, 9] 6 rfl rfl ?_ (hv := by first | with_reducible exact True.intro | (first | ((repeat' (first | with_reducible apply And.intro | intro _)) <;> first | exact (hp) | assumption | omega | contradiction | simp_all) | (simp at hp ⊢; ((repeat' (first | with_reducible apply And.intro | intro _)) <;> first | exact (hp) | assumption | omega | contradiction | simp_all)); done) | omega | simp | (simp; omega) | (simp +contextual; omega))
  refine s1 tok [1, 10] ?_ (hv := by first | with_reducible exact True.intro | (first | ((repeat' (first | with_reducible apply And.intro | intro _)) <;> first | exact (hp) | assumption | omega | contradiction | simp_all) | (simp at hp ⊢; ((repeat' (first | with_reducible apply And.intro | intro _)) <;> first | exact (hp) | assumption | omega | contradiction | simp_all)); done) | omega | simp | (simp; omega) | (simp +contextual; omega))
  refine s1 tok [1, 11] ?_
  refine s2 tok [1, 11, 12] 11 rfl rfl ?_
  refine s2 tok [1, 11, 13] 11 rfl rfl ?_ (hv := by first | with_reducible exact True.intro | (first | ((repeat' (first | with_reducible apply And.intro | intro _)) <;> first | exact (hp) | assumption | omega | contradiction | simp_all) | (simp at hp ⊢; ((repeat' (first | with_reducible apply And.intro | intro _)) <;> first | exact (hp) | assumption | omega | contradiction | simp_all)); done) | omega | simp | (simp; omega) | (simp +contextual; omega))
  refine s2 tok [1, 11, 14] 11 rfl rfl ?_ (hv := by first | with_reducible exact True.intro | (first | ((repeat' (first | with_reducible apply And.intro | intro _)) <;> first | exact (hp) | assumption | omega | contradiction | simp_all) | (simp at hp ⊢; ((repeat' (first | with_reducible apply And.intro | intro _)) <;> first | exact (hp) | assumption | omega | contradiction | simp_all)); done) | omega | simp | (simp; omega) | (simp +contextual; omega))
  refine s2 tok [1, 11, 15] 11 rfl rfl ?_ (hv := by first | with_reducible exact True.intro | (first | ((repeat' (first | with_reducible apply And.intro | intro _)) <;> first | exact (hp) | assumption | omega | contradiction | simp_all) | (simp at hp ⊢; ((repeat' (first | with_reducible apply And.intro | intro _)) <;> first | exact (hp) | assumption | omega | contradiction | simp_all)); done) | omega | simp | (simp; omega) | (simp +contextual; omega))
  refine s1 tok [1, 16] ?_ (hv := by first | with_reducible exact True.intro | (first | ((repeat' (first | with_reducible apply And.intro | intro _)) <;> first | exact (hp) | assumption | omega | contradiction | simp_all) | (simp at hp ⊢; ((repeat' (first | with_reducible apply And.intro | intro _)) <;> first | exact (hp) | assumption | omega | contradiction | simp_all)); done) | omega | simp | (simp; omega) | (simp +contextual; omega))
  refine s1 tok [1, 17] ?_
  refine s2 tok [1, 17, 18] 17 rfl rfl ?_ (hv := by first | with_reducible exact True.intro | (first | ((repeat' (first | with_reducible apply And.intro | intro _)) <;> first | exact (hp) | assumption | omega | contradiction | simp_all) | (simp at hp ⊢; ((repeat' (first | with_reducible apply And.intro | intro _)) <;> first | exact (hp) | assumption | omega | contradiction | simp_all)); done) | omega | simp | (simp; omega) | (simp +contextual; omega))
  refine s2 tok [1, 17, 19] 17 rfl rfl ?_ (hv := by first | with_reducible exact True.intro | (first | ((repeat' (first | with_reducible apply And.intro | intro _)) <;> first | exact (hp) | assumption | omega | contradiction | simp_all) | (simp at hp ⊢; ((repeat' (first | with_reducible apply And.intro | intro _)) <;> first | exact (hp) | assumption | omega | contradiction | simp_all)); done) | omega | simp | (simp; omega) | (simp +contextual; omega))
  refine s2 tok [1, 17, 20] 17 rfl rfl ?_ (hv := by first | with_reducible exact True.intro | (first | ((repeat' (first | with_reducible apply And.intro | intro _)) <;> first | exact (hp) | assumption | omega | contradiction | simp_all) | (simp at hp ⊢; ((repeat' (first | with_reducible apply And.intro | intro _)) <;> first | exact (hp) | assumption | omega | contradiction | simp_all)); done) | omega | simp | (simp; omega) | (simp +contextual; omega))
  refine s1 tok [1, 21] ?_ (hv := by first | with_reducible exact True.intro | (first | ((repeat' (first | with_reducible apply And.intro | intro _)) <;> first | exact (hp) | assumption | omega | contradiction | simp_all) | (simp at hp ⊢; ((repeat' (first | with_reducible apply And.intro | intro _)) <;> first | exact (hp) | assumption | omega | contradiction | simp_all)); done) | omega | simp | (simp; omega) | (simp +contextual; omega))
  refine AOpsO.nil ?_
  refine AW.cond (c := .tmp 21) (by conv => lhs; simp) trivial ?_ ?_
  · intro h21
    try simp at h21
    have hno : (boundsT v && partsT v && v.kids.all mayT) = false := by
      rcases h21 with h | h
      · have : boundsT v = false := by simp [boundsT]; omega
        rw [this]; rfl
      · rw [h]; simp
    rw [hno]
    refine AW.seqRegionO [] ?_
    refine s1 tok [2] ?_
    refine AOpsO.nil ?_
    exact AW.ret ⟨.inr rfl, _, _, by (conv => lhs; simp), trivial, by simp⟩
  · intro h21
    try simp at h21
    have hyes : (boundsT v && partsT v) = true := by
      have : boundsT v = true := by simp [boundsT]; omega
      rw [this, h21.2]; rfl
    rw [hyes]
    refine AW.skip ?_
    refine AW.seqRegionO [.nilp, .bool (!v.kids.all mayT)] ?_
    refine s1 tok [22] ?_
    refine s1 tok [23] ?_ (hv := by first | with_reducible exact True.intro | (exact hc; done) | omega | simp | (simp; omega) | (simp +contextual; omega))
    refine s1 tok [24] ?_ (hv := by first | with_reducible exact True.intro | (exact hc; done) | omega | simp | (simp; omega) | (simp +contextual; omega))
    refine s1 tok [25] ?_ (hv := by first | with_reducible exact True.intro | (exact hc; done) | omega | simp | (simp; omega) | (simp +contextual; omega))
    refine s1 tok [2] ?_
    refine AOpsO.nil ?_
    exact AW.ret ⟨.inr rfl, _, _, by (conv => lhs; simp), trivial, by simp⟩
theorem mayT_ev (hG : U8 G) (v : Val) : AFn Tryz.prog G 17 [v.enc] (.bool (mayT v)) := Val.induct (fun v ih => mayT_step hG v ih) v
end Go.Proofs.YtgoepemmcibdaaaGreatDoor
