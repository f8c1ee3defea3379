import Derived.Test.YtgoepemmcibdaaaGreatDoorSDecMay
import Derived.Test.YtgoepemmcibdaaaGreatDoorSUtf
import Derived.Test.YtgoepemmcibdaaaGreatDoorSRef4A
import Derived.Test.YtgoepemmcibdaaaGreatDoorM3
namespace Go.Proofs.YtgoepemmcibdaaaGreatDoor
open Sy Go
set_option maxRecDepth 100000
set_option maxHeartbeats 4000000
set_option linter.unusedSimpArgs false
set_option linter.unusedVariables false
variable {G : Glob}

@[simp] def Val.cells (v : Val) : List V := [.p (.int .i64 v.kind), .p (.int .u64 v.mask), .p (.bool v.num.neg), .p (.str v.num.digits), .p (.int .i64 v.num.scale), .p (.str v.text), .p (.sl 1 (v.keys.map PD.str)), .p (.sl 9 (v.kids.map Val.enc)), .p (.int .i64 v.code)]
theorem Valid_ev (hG : U8 G) (s : List UInt8) : AFn Tryz.prog G 98 [.str s] (.bool (Lib.validD s)) := by
  refine AFn.introU tok Tryz.func98 (by kernel_rfl) rfl rfl ?_
  simp only [Tryz.f98, enumA, List.map_cons, List.map_nil]
  refine AW.seqRegionO [] ?_
  refine s1 tok [0] ?_
  refine AOpsO.nil ?_
  refine AW.seqRegionO [.nilp, .bool (Lib.validD s)] ?_
  refine s1 tok [3] ?_
  refine s1 tok [4] ?_ (hv := by first | with_reducible exact True.intro | (exact ValidString_ev hG s; done) | omega | simp | (simp; omega) | (simp +contextual; omega))
  refine s1 tok [2] ?_
  refine AOpsO.nil ?_
  exact AW.ret ⟨.inr rfl, _, _, by (conv => lhs; simp), trivial, by simp⟩
def wordT (s : List UInt8) : Bool := decide ((s.length : Int) ≤ 4096) && Lib.validD s
theorem wordT_ev (hG : U8 G) (s : List UInt8) : AFn Tryz.prog G 82 [.str s] (.bool (wordT s)) := by
  refine AFn.introU tok Tryz.func82 (by kernel_rfl) rfl rfl ?_
  simp only [Tryz.f82, enumA, List.map_cons, List.map_nil]
  refine AW.seqRegionO [] ?_
  refine s1 tok [0] ?_
  refine AOpsO.nil ?_
  refine AW.seqRegionO [.nilp, .bool (Lib.validD s)] ?_
  refine s1 tok [0, 3] ?_
  refine s1 tok [0, 4] ?_ (hv := by first | with_reducible exact True.intro | (((repeat' (first | with_reducible apply And.intro | intro _)) <;> first | exact (Valid_ev hG s) | assumption | omega | contradiction | simp_all); done) | omega | simp | (simp; omega) | (simp +contextual; omega))
  refine s1 tok [0, 5] ?_ (hv := by first | with_reducible exact True.intro | (((repeat' (first | with_reducible apply And.intro | intro _)) <;> first | exact (Valid_ev hG s) | assumption | omega | contradiction | simp_all); done) | omega | simp | (simp; omega) | (simp +contextual; omega))
  refine s1 tok [0, 6] ?_
  refine s2 tok [6, 7] 6 rfl rfl ?_
  refine s2 tok [6, 8] 6 rfl rfl ?_ (hv := by first | with_reducible exact True.intro | (((repeat' (first | with_reducible apply And.intro | intro _)) <;> first | exact (Valid_ev hG s) | assumption | omega | contradiction | simp_all); done) | omega | simp | (simp; omega) | (simp +contextual; omega))
  refine s1 tok [9] ?_ (hv := by first | with_reducible exact True.intro | (((repeat' (first | with_reducible apply And.intro | intro _)) <;> first | exact (Valid_ev hG s) | assumption | omega | contradiction | simp_all); done) | omega | simp | (simp; omega) | (simp +contextual; omega))
  refine s1 tok [2] ?_
  refine AOpsO.nil ?_
  exact AW.ret ⟨.inr rfl, _, _, by (conv => lhs; simp), trivial, by simp [wordT]⟩
theorem refText_ev (s : List UInt8) : AFn Tryz.prog G 67 [.str s] (.bool (wordT s)) := by
  refine AFn.introU tok Tryz.func67 (by kernel_rfl) rfl rfl ?_
  simp only [Tryz.f67, enumA, List.map_cons, List.map_nil]
  refine AW.seqRegionO [] ?_
  refine s1 tok [0] ?_
  refine AOpsO.nil ?_
  refine AW.seqRegionO [.nilp, .bool (Lib.validD s)] ?_
  refine s1 tok [0, 3] ?_
  refine s1 tok [0, 4] ?_ (hv := by first | with_reducible exact True.intro | (((repeat' (first | with_reducible apply And.intro | intro _)) <;> first | exact (by rw [valid_eq]; exact refValid_ev s (by omega)) | assumption | omega | contradiction | simp_all); done) | omega | simp | (simp; omega) | (simp +contextual; omega))
  refine s1 tok [0, 5] ?_ (hv := by first | with_reducible exact True.intro | (((repeat' (first | with_reducible apply And.intro | intro _)) <;> first | exact (by rw [valid_eq]; exact refValid_ev s (by omega)) | assumption | omega | contradiction | simp_all); done) | omega | simp | (simp; omega) | (simp +contextual; omega))
  refine s1 tok [0, 6] ?_
  refine s2 tok [6, 7] 6 rfl rfl ?_
  refine s2 tok [6, 8] 6 rfl rfl ?_ (hv := by first | with_reducible exact True.intro | (((repeat' (first | with_reducible apply And.intro | intro _)) <;> first | exact (by rw [valid_eq]; exact refValid_ev s (by omega)) | assumption | omega | contradiction | simp_all); done) | omega | simp | (simp; omega) | (simp +contextual; omega))
  refine s1 tok [9] ?_ (hv := by first | with_reducible exact True.intro | (((repeat' (first | with_reducible apply And.intro | intro _)) <;> first | exact (by rw [valid_eq]; exact refValid_ev s (by omega)) | assumption | omega | contradiction | simp_all); done) | omega | simp | (simp; omega) | (simp +contextual; omega))
  refine s1 tok [2] ?_
  refine AOpsO.nil ?_
  exact AW.ret ⟨.inr rfl, _, _, by (conv => lhs; simp), trivial, by simp [wordT]⟩
def keysT (l : List (List UInt8)) : Bool := l.all wordT && decide l.Nodup
theorem keysT_bad {l : List (List UInt8)} {k : Nat} {s : List UInt8} (h : l[k]? = some s) (hb : wordT s = false ∨ s ∈ l.take k) : keysT l = false := by
  unfold keysT
  rcases hb with hb | hb
  · rw [List.all_eq_false.2 ⟨s, List.mem_of_getElem? h, by simp [hb]⟩]; rfl
  · have : ¬ l.Nodup := fun hn => by
      obtain ⟨j, hj, hjs⟩ := List.mem_iff_getElem.1 hb
      have hk := (List.getElem?_eq_some_iff.1 h)
      rw [List.getElem_take] at hjs
      have hjk : j < k := by simp at hj; omega
      exact (List.pairwise_iff_getElem.1 hn) j k (by simp at hj; omega) hk.1 hjk (by rw [hjs, hk.2])
    simp [this]
theorem keysT_take {l : List (List UInt8)} {k : Nat} {s : List UInt8} (h : l[k]? = some s) (h1 : keysT (l.take k) = true) (h2 : wordT s = true) (h3 : s ∉ l.take k) : keysT (l.take (k + 1)) = true := by
  unfold keysT at h1 ⊢
  rw [List.take_add_one, h]
  simp only [Bool.and_eq_true, decide_eq_true_eq] at h1 ⊢
  refine ⟨by rw [List.all_append, h1.1]; simp [h2], ?_⟩
  rw [List.nodup_append]
  exact ⟨h1.2, by simp, by intro a ha b hb; simp at hb; subst hb; rintro rfl; exact h3 ha⟩
theorem keysT_ev (hG : U8 G) (l : List (List UInt8)) : AFn Tryz.prog G 83 [.sl 1 (l.map PD.str)] (.bool (keysT l)) := by
  refine AFn.introU tok Tryz.func83 (by kernel_rfl) rfl rfl ?_
  simp only [Tryz.f83, enumA, List.map_cons, List.map_nil]
  refine AW.seqRegionO [] ?_
  refine s1 tok [0] ?_
  refine AOpsO.nil ?_
  refine AW.seqRegionO [] ?_
  refine s1 tok [0, 6] ?_
  refine s1 tok [0, 3] ?_
  refine AOpsO.nil ?_
  refine AW.seq ?_
  refine AW.seqRegionO [] ?_
  refine s1 tok [3, 7] ?_
  refine s1 tok [3, 7, 8] ?_
  refine s1 tok [3, 7, 8, 9] ?_
  refine AOpsO.nil ?_
  refine AW.block ?_
  refine AW.intFactU (i := 8) rfl (by decide) ?_; intro hlen; simp at hlen
  refine AW.loop (α := Nat) (fun k => k ≤ l.length ∧ keysT (l.take k) = true) (fun k => ⟨upds 24 [(3, .ms 6), (7, .p (.sl 1 (l.map PD.str))), (8, .p (.int .i64 l.length)), (9, .p (.int .i64 k))], [], [(6, .mp (l.take k) (List.replicate k (.p (.bool true))))], 0⟩) (fun k => l.length - k) (0) ⟨by omega, rfl⟩ ⟨upds_le (by simp), rfl, by simp, by simp⟩ ?_
  rintro k ⟨hk, hall⟩
  refine AW.seqRegionO [] ?_
  refine s1 tok [3, 7, 8, 9, 10] ?_
  refine AOpsO.nil ?_
  refine AW.seq ?_
  refine AW.cond (c := .tmp 10) (by conv => lhs; simp) trivial ?_ ?_
  · intro h10
    try simp at h10
    obtain ⟨s, hs⟩ : ∃ s, l[k]? = some s := ⟨l[k], by simp [h10]⟩
    have hlt : (l.take k).length = k := by simp; omega
    have hin : ∀ i : Nat, (l.take k)[i]? = some s → (List.replicate k (V.p (.bool true)))[i]? = some (.p (.bool (decide (s ∈ l.take k)))) := by
      intro i hi
      have h1 := (List.getElem?_eq_some_iff.1 hi).1
      rw [decide_eq_true (List.mem_of_getElem? hi), List.getElem?_replicate, if_pos (by rw [hlt] at h1; exact h1)]
    refine AW.skip ?_
    refine AW.seq ?_
    refine AW.block ?_
    refine AW.seqRegionO [.str s] ?_
    refine s1 tok [3, 7, 8, 9, 11] ?_ (hv := by first | with_reducible exact True.intro | (simp [hs]; done) | omega | simp | (simp; omega) | (simp +contextual; omega))
    refine s1 tok [3, 7, 8, 9, 12] ?_ (hv := by first | with_reducible exact True.intro | (simp [hs]; done) | omega | simp | (simp; omega) | (simp +contextual; omega))
    refine s1 tok [3, 5, 7, 8, 9] ?_
    refine AOpsO.nil ?_
    refine AW.seq ?_
    refine AW.seqRegionO [.nilp, .bool (wordT s), .bool (decide (s ∈ l.take k))] ?_
    refine s1 tok [3, 5, 7, 8, 9, 13] ?_
    refine s1 tok [3, 5, 7, 8, 9, 14] ?_ (hv := by first | with_reducible exact True.intro | (((repeat' (first | with_reducible apply And.intro | intro _)) <;> first | exact (wordT_ev hG s) | exact (hin) | assumption | omega | contradiction | simp_all); done) | omega | simp | (simp; omega) | (simp +contextual; omega))
    refine s1 tok [3, 5, 7, 8, 9, 15] ?_ (hv := by first | with_reducible exact True.intro | (((repeat' (first | with_reducible apply And.intro | intro _)) <;> first | exact (wordT_ev hG s) | exact (hin) | assumption | omega | contradiction | simp_all); done) | omega | simp | (simp; omega) | (simp +contextual; omega))
    refine s1 tok [3, 5, 7, 8, 9, 16] ?_
    refine s2 tok [3, 5, 7, 8, 9, 16, 17] 16 rfl rfl ?_
    refine s2 tok [3, 5, 7, 8, 9, 16, 17, 18] 16 rfl rfl ?_
    refine s2 tok [3, 5, 7, 8, 9, 16, 19] 16 rfl rfl ?_ (hv := by first | with_reducible exact True.intro | (((repeat' (first | with_reducible apply And.intro | intro _)) <;> first | exact (wordT_ev hG s) | exact (hin) | assumption | omega | contradiction | simp_all); done) | omega | simp | (simp; omega) | (simp +contextual; omega))
    refine s1 tok [3, 5, 7, 8, 9, 20] ?_ (hv := by first | with_reducible exact True.intro | (((repeat' (first | with_reducible apply And.intro | intro _)) <;> first | exact (wordT_ev hG s) | exact (hin) | assumption | omega | contradiction | simp_all); done) | omega | simp | (simp; omega) | (simp +contextual; omega))
    refine AOpsO.nil ?_
    refine AW.cond (c := .tmp 20) (by conv => lhs; simp) trivial ?_ ?_
    · intro h20
      try simp at h20
      have hb : keysT l = false := keysT_bad hs (by simpa using h20)
      refine AW.seqRegionO [] ?_
      refine s1 tok [2] ?_
      refine AOpsO.nil ?_
      exact AW.ret ⟨.inr rfl, _, _, by (conv => lhs; simp), trivial, by simp [hb]⟩
    · intro h20
      try simp at h20
      refine AW.skip ?_
      refine AW.regionO [] ?_
      refine s1 tok [3, 5, 7, 8, 9, 21] ?_
      refine s1 tok [3, 7, 8, 9, 21, 22] ?_
      refine s1 tok [3, 7, 8, 9] ?_ (hv := by first | with_reducible exact True.intro | (exact h20.2; done) | omega | simp | (simp; omega) | (simp +contextual; omega))
      refine AOpsO.nil ?_
      refine AW.regionO [] ?_
      refine s1 tok [3, 7, 8, 23] ?_
      refine s1 tok [3, 7, 8, 9] ?_
      refine AOpsO.nil ?_
      exact ⟨k + 1, ⟨by omega, keysT_take hs hall h20.1 h20.2⟩, by omega, upds_le (by simp [show l.take (k + 1) = l.take k ++ [s] from by (rw [List.take_add_one, hs]; rfl), List.replicate_succ']), rfl, by simp [show l.take (k + 1) = l.take k ++ [s] from by (rw [List.take_add_one, hs]; rfl), List.replicate_succ'], by simp [show l.take (k + 1) = l.take k ++ [s] from by (rw [List.take_add_one, hs]; rfl), List.replicate_succ']⟩
  · intro h10
    try simp at h10
    rw [List.take_of_length_le h10] at hall
    refine AW.exit ?_
    simp
    refine AW.seqRegionO [] ?_
    refine s1 tok [2] ?_
    refine AOpsO.nil ?_
    exact AW.ret ⟨.inr rfl, _, _, by (conv => lhs; simp), trivial, by simp [hall]⟩
theorem refKeys_ev (l : List (List UInt8)) : AFn Tryz.prog G 68 [.sl 1 (l.map PD.str)] (.bool (keysT l)) := by
  refine AFn.introU tok Tryz.func68 (by kernel_rfl) rfl rfl ?_
  simp only [Tryz.f68, enumA, List.map_cons, List.map_nil]
  refine AW.seqRegionO [] ?_
  refine s1 tok [0] ?_
  refine AOpsO.nil ?_
  refine AW.seq ?_
  refine AW.seqRegionO [] ?_
  refine s1 tok [0, 3] ?_
  refine AOpsO.nil ?_
  refine AW.block ?_
  refine AW.slFactU (i := 0) rfl (by decide) ?_; intro hlen; simp at hlen
  refine AW.loop (α := Nat) (fun k => k ≤ l.length ∧ keysT (l.take k) = true) (fun k => ⟨upds 31 [(0, .p (.sl 1 (l.map PD.str))), (3, .p (.int .i64 k))], [], [], 0⟩) (fun k => l.length - k) (0) ⟨by omega, rfl⟩ ⟨upds_le (by simp), rfl, by simp, by simp⟩ ?_
  rintro k ⟨hk, hall⟩
  refine AW.seq ?_
  refine AW.seqRegionO [] ?_
  refine s1 tok [0, 3, 5] ?_
  refine s1 tok [0, 3, 5, 6] ?_
  refine s1 tok [0, 3, 5, 7] ?_
  refine s1 tok [0, 3, 8] ?_
  refine AOpsO.nil ?_
  refine AW.cond (c := .tmp 8) (by conv => lhs; simp) trivial ?_ ?_
  · intro h8
    try simp at h8
    obtain ⟨s, hs⟩ : ∃ s, l[k]? = some s := ⟨l[k], by simp [h8]⟩
    refine AW.skip ?_
    refine AW.seq ?_
    refine AW.block ?_
    refine AW.seq ?_
    refine AW.seqRegionO [.str s, .nilp, .bool (wordT s)] ?_
    refine s1 tok [0, 3, 11] ?_
    refine s1 tok [0, 3, 11, 12] ?_
    refine s1 tok [0, 3, 13] ?_ (hv := by first | with_reducible exact True.intro | (((repeat' (first | with_reducible apply And.intro | intro _)) <;> first | exact (refText_ev s) | exact (⟨_, hs, rfl⟩) | assumption | omega | contradiction | simp_all); done) | omega | simp | (simp; omega) | (simp +contextual; omega))
    refine s1 tok [0, 3, 14] ?_ (hv := by first | with_reducible exact True.intro | (((repeat' (first | with_reducible apply And.intro | intro _)) <;> first | exact (refText_ev s) | exact (⟨_, hs, rfl⟩) | assumption | omega | contradiction | simp_all); done) | omega | simp | (simp; omega) | (simp +contextual; omega))
    refine s1 tok [0, 3, 15] ?_ (hv := by first | with_reducible exact True.intro | (((repeat' (first | with_reducible apply And.intro | intro _)) <;> first | exact (refText_ev s) | exact (⟨_, hs, rfl⟩) | assumption | omega | contradiction | simp_all); done) | omega | simp | (simp; omega) | (simp +contextual; omega))
    refine s1 tok [0, 3, 16] ?_ (hv := by first | with_reducible exact True.intro | (((repeat' (first | with_reducible apply And.intro | intro _)) <;> first | exact (refText_ev s) | exact (⟨_, hs, rfl⟩) | assumption | omega | contradiction | simp_all); done) | omega | simp | (simp; omega) | (simp +contextual; omega))
    refine AOpsO.nil ?_
    refine AW.cond (c := .tmp 16) (by conv => lhs; simp) trivial ?_ ?_
    · intro h16
      try simp at h16
      have hb : keysT l = false := keysT_bad hs (.inl (by simpa using h16))
      refine AW.seqRegionO [] ?_
      refine s1 tok [2] ?_
      refine AOpsO.nil ?_
      exact AW.ret ⟨.inr rfl, _, _, by (conv => lhs; simp), trivial, by simp [hb]⟩
    · intro h16
      try simp at h16
      refine AW.skip ?_
      refine AW.seqRegionO [] ?_
      refine s1 tok [0, 3, 4] ?_
      refine AOpsO.nil ?_
      refine AW.block ?_
      refine AW.loop (α := Nat) (fun j => j ≤ k ∧ s ∉ l.take j) (fun j => ⟨upds 31 [(0, .p (.sl 1 (l.map PD.str))), (3, .p (.int .i64 k)), (4, .p (.int .i64 j))], [], [], 0⟩) (fun j => k - j) (0) ⟨by omega, by simp⟩ ⟨upds_le (by simp), rfl, by simp, by simp⟩ ?_
      rintro j ⟨hj, hno⟩
      refine AW.seq ?_
      refine AW.seqRegionO [] ?_
      refine s1 tok [0, 3, 4, 17] ?_
      refine s1 tok [0, 3, 4, 17, 18] ?_
      refine s1 tok [0, 3, 4, 19] ?_
      refine AOpsO.nil ?_
      refine AW.cond (c := .tmp 19) (by conv => lhs; simp) trivial ?_ ?_
      · intro h19
        try simp at h19
        obtain ⟨x, hx⟩ : ∃ x, l[j]? = some x := ⟨l[j], by simp [show j < l.length by omega]⟩
        refine AW.skip ?_
        refine AW.seq ?_
        refine AW.block ?_
        refine AW.seqRunDrawK tok mixed [0, 3, 4, 30] 9 [[0], [4], [22, 23], [24], [0], [3], [26, 27], [28], [25, 29]] [.str x, .str s] [] (by kernel_rfl) (by intro C; conv => lhs; simp) (by simp [hs, hx]) (by simp [Sm.sum, Sm.foot, Sm.tch, Sm.refs]; kernel_rfl) (by intro C; conv => lhs; simp) (by first | with_reducible exact True.intro | omega | simp | (simp; omega) | (simp +contextual; omega)) ?_
        refine AW.cond (c := .tmp 30) (by conv => lhs; simp) trivial ?_ ?_
        · intro h30
          try simp at h30
          have hb : keysT l = false := keysT_bad hs (.inr (by rw [← h30]; exact List.mem_of_getElem? (i := j) (by rw [List.getElem?_take]; simp [h19, hx])))
          refine AW.seqRegionO [] ?_
          refine s1 tok [2] ?_
          refine AOpsO.nil ?_
          exact AW.ret ⟨.inr rfl, _, _, by (conv => lhs; simp), trivial, by simp [hb]⟩
        · intro h30
          try simp at h30
          refine AW.skip ?_
          refine AW.regionO [] ?_
          refine s1 tok [0, 3, 20] ?_
          refine s1 tok [0, 3, 21] ?_
          refine s1 tok [0, 3, 4] ?_
          refine AOpsO.nil ?_
          exact ⟨j + 1, ⟨by omega, by rw [List.take_add_one, hx]; simp; exact ⟨hno, fun e => h30 e.symm⟩⟩, by omega, upds_le (by simp), rfl, by simp, by simp⟩
      · intro h19
        try simp at h19
        have hjk : j = k := by omega
        subst hjk
        refine AW.exit ?_
        simp
        refine AW.regionO [] ?_
        refine s1 tok [0, 9] ?_
        refine s1 tok [0, 10] ?_
        refine s1 tok [0, 3] ?_
        refine AOpsO.nil ?_
        exact ⟨j + 1, ⟨by omega, keysT_take hs hall h16 hno⟩, by omega, upds_le (by simp), rfl, by simp, by simp⟩
  · intro h8
    try simp at h8
    rw [List.take_of_length_le h8] at hall
    refine AW.exit ?_
    simp
    refine AW.seqRegionO [] ?_
    refine s1 tok [2] ?_
    refine AOpsO.nil ?_
    exact AW.ret ⟨.inr rfl, _, _, by (conv => lhs; simp), trivial, by simp [hall]⟩
end Go.Proofs.YtgoepemmcibdaaaGreatDoor
