import Derived.Test.YtdjjmppnnkkloaaGreatDoorSRef1P
import Derived.Test.YtdjjmppnnkkloaaGreatDoorSRValid
namespace Go.Proofs.YtdjjmppnnkkloaaGreatDoor
open Sy Go
set_option maxRecDepth 100000
set_option maxHeartbeats 4000000
set_option linter.unusedSimpArgs false
set_option linter.unusedVariables false
variable {G : Glob}

def shortM (s : List UInt8) : List UInt8 := s.take 100
theorem short_ev (s : List UInt8) : AFn Tryz.prog G 57 [.str s] (.str (shortM s)) := by
  refine AFn.introU tok Tryz.func57 (by kernel_rfl) rfl rfl ?_
  simp only [Tryz.f57, enumA, List.map_cons, List.map_nil]
  refine rgn [] [[0]] ?_
  refine op1 tok ?_
  refine runEnd ?_
  refine AW.seq ?_
  refine rgn [] [[], [], [0, 5]] ?_
  iterate 3 refine op1 tok ?_
  refine runEnd ?_
  refine cnd ?_ ?_
  · intro h5
    try simp at h5
    refine rgn [] [[], [], [2]] ?_
    iterate 3 refine op1 tok ?_
    refine runEnd ?_
    exact AW.ret ⟨.inr rfl, _, _, by (conv => lhs; simp), trivial, by simp [shortM]⟩
  · intro h5
    try simp at h5
    refine AW.skip ?_
    refine rgn [] [[], [2]] ?_
    iterate 2 refine op1 tok ?_
    refine runEnd ?_
    exact AW.ret ⟨.inr rfl, _, _, by (conv => lhs; simp), trivial, by simp [shortM]; rw [List.take_of_length_le (by omega)]⟩
def wordM (s : List UInt8) : List UInt8 := if validM (shortM s) = true then shortM s else [97]
theorem shortM_len (s : List UInt8) : (shortM s).length ≤ 100 := by simp [shortM]; omega
theorem wordM_len (s : List UInt8) : (wordM s).length ≤ 100 := by
  unfold wordM; split
  · exact shortM_len s
  · simp
theorem word_ev (s : List UInt8) : AFn Tryz.prog G 58 [.str s] (.str (wordM s)) := by
  refine AFn.introU tok Tryz.func58 (by kernel_rfl) rfl rfl ?_
  simp only [Tryz.f58, enumA, List.map_cons, List.map_nil]
  have h1 := short_ev (G := G) s
  have hl := shortM_len s
  have h2 := refValid_ev (G := G) (shortM s) (by omega)
  refine rgn [] [[0]] ?_
  refine op1 tok ?_
  refine runEnd ?_
  refine rgn [.nilp, .str (shortM s)] [[], [], [0]] ?_
  iterate 3 refine op1 tok ?_ (hv := by first | with_reducible exact True.intro | (simp [h1]; done) | omega | simp | (simp; omega) | (simp +contextual; omega))
  refine runEnd ?_
  refine AW.seq ?_
  refine rgn [.nilp, .bool (validM (shortM s))] [[], [], [0, 7]] ?_
  iterate 3 refine op1 tok ?_ (hv := by first | with_reducible exact True.intro | (simp [h2]; done) | omega | simp | (simp; omega) | (simp +contextual; omega))
  refine runEnd ?_
  refine cnd ?_ ?_
  · intro h7
    try simp at h7
    refine rgn [] [[]] ?_
    refine op1 tok ?_
    refine runEnd ?_
    exact AW.ret ⟨.inr rfl, _, _, by (conv => lhs; simp), trivial, by simp [wordM, h7]⟩
  · intro h7
    try simp at h7
    refine AW.skip ?_
    refine rgn [] [[], [2]] ?_
    iterate 2 refine op1 tok ?_
    refine runEnd ?_
    exact AW.ret ⟨.inr rfl, _, _, by (conv => lhs; simp), trivial, by simp [wordM, h7]⟩
def kays (n : Nat) : List UInt8 := List.replicate n 107
def namedS (l : List (List UInt8)) (i : Nat) : List UInt8 := if h : i < l.length then wordM l[i] else kays (i - l.length + 1)
def addM (out : List (List UInt8)) (s : List UInt8) : List (List UInt8) := if s ∈ out then out else out ++ [s]
def namedGo (l : List (List UInt8)) (many : Nat) : Nat → Nat → List (List UInt8) → List (List UInt8)
  | 0, _, out => out
  | f + 1, i, out => if out.length < many then namedGo l many f (i + 1) (addM out (namedS l i)) else out
def namedM (l : List (List UInt8)) (many : Nat) : List (List UInt8) := namedGo l many (l.length + many + 1) 0 []
theorem nodup_le {α : Type} [DecidableEq α] : ∀ {l m : List α}, l.Nodup → (∀ x ∈ l, x ∈ m) → l.length ≤ m.length
  | [], m, _, _ => by simp
  | a :: l, m, hn, hs => by
    have ha := hs a (by simp)
    have hn' := List.nodup_cons.1 hn
    have := nodup_le (l := l) (m := m.erase a) hn'.2 fun x hx => (List.mem_erase_of_ne (by rintro rfl; exact hn'.1 hx)).2 (hs x (by simp [hx]))
    rw [List.length_erase_of_mem ha] at this
    have := List.length_pos_of_mem ha
    simp; omega
theorem kays_in {out : List (List UInt8)} {n : Nat} (h : ∀ t, 1 ≤ t → t ≤ n → kays t ∈ out) : n ≤ out.length := by
  have hs : ((List.range n).map fun t => kays (t + 1)).Nodup := by
    unfold List.Nodup
    refine List.Pairwise.map _ (fun a b hab => ?_) List.nodup_range
    intro he; have := congrArg List.length he; simp [kays] at this; exact hab this
  have := nodup_le hs (m := out) (by
    intro x hx; obtain ⟨t, ht, rfl⟩ := List.mem_map.1 hx
    simp at ht; exact h _ (by omega) (by omega))
  simpa using this
theorem namedGo_end {l : List (List UInt8)} {many : Nat} {out : List (List UInt8)} (h : ¬ out.length < many) : ∀ f i, namedGo l many f i out = out
  | 0, _ => rfl
  | f + 1, i => by simp only [namedGo]; rw [if_neg h]
theorem named_ev (l : List (List UInt8)) (many : Nat) (hl : l.length ≤ 140737488351232) (hm : many ≤ 100000) : AFn Tryz.prog G 59 [.sl 1 (l.map PD.str), .int .i64 many] (.sl 1 ((namedM l many).map PD.str)) := by
  refine AFn.introU tok Tryz.func59 (by kernel_rfl) rfl rfl ?_
  simp only [Tryz.f59, enumA, List.map_cons, List.map_nil]
  have hw := fun s => word_ev (G := G) s
  refine rgn [] [[0, 1]] ?_
  refine op1 tok ?_
  refine runEnd ?_
  refine rgn [] [[], [0, 1, 5]] ?_
  iterate 2 refine op1 tok ?_
  refine runEnd ?_
  refine rgn [] [[]] ?_
  refine op1 tok ?_
  refine runEnd ?_
  refine AW.seq ?_
  refine rgn [] [[]] ?_
  refine op1 tok ?_
  refine runEnd ?_
  refine AW.block ?_
  refine AW.loop (α := Nat × List (List UInt8)) (fun a => a.1 ≤ l.length + many ∧ namedM l many = namedGo l many (l.length + many + 1 - a.1) a.1 a.2 ∧ a.2.length ≤ many ∧ (∀ t, 1 ≤ t → t + l.length ≤ a.1 → kays t ∈ a.2)) (fun a => ⟨upds 52 [(0, .p (.sl 1 (l.map PD.str))), (1, .p (.int .i64 many)), (5, .ms 11), (6, .p (.str (kays (a.1 - l.length + 1)))), (7, .p (.int .i64 a.1))], [], [(11, .row 9 1 (a.2.map PD.str))], 0⟩) (fun a => l.length + many - a.1) ((0, [])) ⟨by simp, rfl, by simp, by intro t h1 h2; simp at h2; omega⟩ ⟨upds_le (by simp [kays]), rfl, by simp, by simp⟩ ?_
  rintro ⟨i, out⟩ ⟨hi, hn, ho, hk⟩
  simp only at hi hn ho hk
  have hkl : i - l.length ≤ out.length := kays_in fun t h1 h2 => hk t h1 (by omega)
  refine AW.seq ?_
  refine rgn [] [[], [], [], [0, 1, 5, 6, 7, 15]] ?_
  iterate 4 refine op1 tok ?_
  refine runEnd ?_
  refine cnd ?_ ?_
  · intro h15
    try simp at h15
    have hstep : namedM l many = namedGo l many (l.length + many + 1 - (i + 1)) (i + 1) (addM out (namedS l i)) := by
      rw [hn, show l.length + many + 1 - i = (l.length + many + 1 - (i + 1)) + 1 by omega]; simp only [namedGo]; rw [if_pos h15]
    refine AW.skip ?_
    refine AW.seq ?_
    refine AW.block ?_
    refine rgn [] [[], [0, 1, 5, 6, 7, 8]] ?_
    iterate 2 refine op1 tok ?_
    refine runEnd ?_
    refine AW.join (α := Unit) (fun _ => True) (fun a => ⟨upds 52 [(0, .p (.sl 1 (l.map PD.str))), (1, .p (.int .i64 many)), (5, .ms 11), (6, .p (.str (kays (i + 1 - l.length + 1)))), (7, .p (.int .i64 i)), (8, .p (.str (namedS l i)))], [], [(11, .row 9 1 (out.map PD.str))], 0⟩) ?_ ?_
    ·
      refine rgn [] [[], [], [], [0, 1, 5, 6, 7, 8, 22]] ?_
      iterate 4 refine op1 tok ?_
      refine runEnd ?_
      refine cnd ?_ ?_
      · intro h22
        try simp at h22
        have hs : namedS l i = wordM l[i] := by simp [namedS, h22]
        have hsl := wordM_len l[i]
        refine rgz [.str l[i], .nilp, .str (wordM l[i])] [[], [], [], [], [0, 1, 5, 6, 7, 27], [0, 1, 5, 6, 7, 8]] ?_
        iterate 6 refine op1 tok ?_ (hv := by first | with_reducible exact True.intro | (simp [hw, h22]; done) | omega | simp | (simp; omega) | (simp +contextual; omega))
        refine runEnd ?_
        exact ⟨(), trivial, upds_le (by simp [hs, show i + 1 - l.length = i - l.length from by omega]), rfl, by simp [hs, show i + 1 - l.length = i - l.length from by omega], by simp [hs, show i + 1 - l.length = i - l.length from by omega]⟩
      · intro h22
        try simp at h22
        have hs : namedS l i = kays (i - l.length + 1) := by simp [namedS]; omega
        refine rgz [] [[], [], [0, 1, 5, 6, 7, 8]] ?_
        iterate 3 refine op1 tok ?_ (hv := by first | with_reducible exact True.intro | (simp [kays]; omega; done) | omega | simp | (simp; omega) | (simp +contextual; omega))
        refine runEnd ?_
        exact ⟨(), trivial, upds_le (by simp [hs, show i + 1 - l.length + 1 = i - l.length + 1 + 1 from by omega, kays, List.replicate_succ']), rfl, by simp [hs, show i + 1 - l.length + 1 = i - l.length + 1 + 1 from by omega, kays, List.replicate_succ'], by simp [hs, show i + 1 - l.length + 1 = i - l.length + 1 + 1 from by omega, kays, List.replicate_succ']⟩
    ·
      rintro a hI
      generalize hns : namedS l i = s at *
      have hkay : ∀ t, 1 ≤ t → t + l.length ≤ i + 1 → kays t ∈ addM out s := by
        intro t h1 h2
        by_cases h3 : t + l.length ≤ i
        · have := hk t h1 h3
          unfold addM; split
          · exact this
          · simp [this]
        · have : kays t = s := by rw [← hns]; simp only [namedS]; rw [dif_neg (by omega)]; congr 1; omega
          rw [this]; unfold addM; split
          · assumption
          · simp
      refine rgn [] [[]] ?_
      refine op1 tok ?_
      refine runEnd ?_
      refine AW.seq ?_
      refine rgn [] [[]] ?_
      refine op1 tok ?_
      refine runEnd ?_
      refine AW.block ?_
      refine AW.loop (α := Nat) (fun k => k ≤ out.length) (fun k => ⟨upds 52 [(0, .p (.sl 1 (l.map PD.str))), (1, .p (.int .i64 many)), (5, .ms 11), (6, .p (.str (kays (i + 1 - l.length + 1)))), (7, .p (.int .i64 i)), (8, .p (.str s)), (9, .p (.bool (decide (s ∈ out.take k)))), (10, .p (.int .i64 k))], [], [(11, .row 9 1 (out.map PD.str))], 0⟩) (fun k => out.length - k) (0) (by omega) ⟨upds_le (by simp), rfl, by simp, by simp⟩ ?_
      rintro k hko
      refine AW.seq ?_
      refine rgn [] [[], [], [], [0, 1, 5, 6, 7, 8, 9, 10, 33]] ?_
      iterate 4 refine op1 tok ?_
      refine runEnd ?_
      refine cnd ?_ ?_
      · intro h33
        try simp at h33
        have hsn : (decide (s ∈ out.take k) || decide (out[k] = s)) = decide (s ∈ out.take (k + 1)) := by
          rw [List.take_succ_eq_append_getElem h33, Bool.eq_iff_iff]; simp only [Bool.or_eq_true, decide_eq_true_eq, List.mem_append, List.mem_singleton]; exact ⟨fun h => h.imp id Eq.symm, fun h => h.imp id Eq.symm⟩
        refine AW.skip ?_
        refine AW.seq ?_
        refine AW.block ?_
        refine rgz [.str out[k]] [[], [], [], [], [0, 1, 5, 6, 7, 8, 10, 37, 40], [], [], [], [0, 1, 5, 6, 7, 8, 10, 44], [0, 1, 5, 6, 7, 8, 9, 10]] ?_
        iterate 2 refine op1 tok ?_ (hv := by first | with_reducible exact True.intro | (simp [h33]; done) | omega | simp | (simp; omega) | (simp +contextual; omega))
        iterate 6 refine op2 tok ?_ (hv := by first | with_reducible exact True.intro | (simp [h33]; done) | omega | simp | (simp; omega) | (simp +contextual; omega))
        iterate 2 refine op1 tok ?_ (hv := by first | with_reducible exact True.intro | (simp [h33]; done) | omega | simp | (simp; omega) | (simp +contextual; omega))
        refine runEnd ?_
        refine rgz [] [[], [], [0, 1, 5, 6, 7, 8, 9, 10]] ?_
        iterate 3 refine op1 tok ?_
        refine runEnd ?_
        exact ⟨k + 1, by omega, by omega, upds_le (by simp [hsn]), rfl, by simp [hsn], by simp [hsn]⟩
      · intro h33
        try simp at h33
        have hkk : k = out.length := by omega
        subst hkk
        simp only [List.take_length]
        refine AW.exit ?_
        simp
        refine rgn [] [[], [0, 1, 5, 6, 7, 8, 46]] ?_
        iterate 2 refine op1 tok ?_
        refine runEnd ?_
        refine cnd ?_ ?_
        · intro h46
          try simp at h46
          have had : addM out s = out ++ [s] := by unfold addM; rw [if_neg h46]
          rw [had] at hstep hkay
          refine rgz [.str s] [[], [], [], [0, 1, 6, 7, 50], [0, 1, 5, 6, 7]] ?_
          iterate 5 refine op1 tok ?_
          refine runEnd ?_
          refine rgz [] [[], [], [0, 1, 5, 6, 7]] ?_
          iterate 3 refine op1 tok ?_
          refine runEnd ?_
          exact ⟨i + 1, out ++ [s], ⟨by omega, hstep, by simp; omega, hkay⟩, by omega, upds_le (by simp), rfl, by simp, by simp⟩
        · intro h46
          try simp at h46
          have had : addM out s = out := by unfold addM; rw [if_pos h46]
          rw [had] at hstep hkay
          refine AW.skip ?_
          refine rgz [] [[], [], [0, 1, 5, 6, 7]] ?_
          iterate 3 refine op1 tok ?_
          refine runEnd ?_
          exact ⟨i + 1, out, ⟨by omega, hstep, by omega, hkay⟩, by omega, upds_le (by simp), rfl, by simp, by simp⟩
  · intro h15
    try simp at h15
    have hn2 : namedM l many = out := by rw [hn]; exact namedGo_end (by omega) _ _
    refine AW.exit ?_
    simp
    refine rgn [] [[], [4]] ?_
    iterate 2 refine op1 tok ?_
    refine runEnd ?_
    exact AW.ret ⟨.inr rfl, _, _, by (conv => lhs; simp), trivial, by simp [hn2]⟩
end Go.Proofs.YtdjjmppnnkkloaaGreatDoor
