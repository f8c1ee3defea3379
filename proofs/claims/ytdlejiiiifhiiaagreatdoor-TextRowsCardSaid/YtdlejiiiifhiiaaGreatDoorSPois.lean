import Derived.Test.YtdlejiiiifhiiaaGreatDoorSPoisL
import Derived.Test.YtdlejiiiifhiiaaGreatDoorSOne
namespace Go.Proofs.YtdlejiiiifhiiaaGreatDoor
open Sy Go
set_option maxRecDepth 100000
set_option maxHeartbeats 4000000
set_option linter.unusedSimpArgs false
set_option linter.unusedVariables false
variable {G : Glob}
def poiK (v : Val) (k : Nat) : Bool := Bool.or (decide (v.kind = 8)) ((v.kids.take k).any poiV)
theorem poiK_zero (v : Val) : poiK v 0 = decide (v.kind = 8) := by simp [poiK]
theorem poiK_succ {v x : Val} {k : Nat} (hx : v.kids[k]? = some x) : poiK v (k + 1) = Bool.or (poiK v k) (poiV x) := by
  unfold poiK; rw [List.take_add_one, hx]; simp [Bool.or_assoc]
theorem poiK_end {v : Val} {k : Nat} (h : v.kids.length ≤ k) : poiK v k = poiV v := by
  unfold poiK; rw [List.take_of_length_le h, poiV_eq v]
theorem pois_step (v : Val) (hlm : v.kids.length ≤ 1000000) (ih : ∀ k ∈ v.kids, AFn Tryz.prog G 12 [k.enc] (.bool (poiV k))) : AFn Tryz.prog G 12 [v.enc] (.bool (poiV v)) := by
  refine AFn.introU tok Tryz.func12 (by kernel_rfl) rfl rfl ?_
  simp only [Tryz.f12, enumA, List.map_cons, List.map_nil]
  refine AW.seqRegionO [] ?_
  refine s1 tok [1] ?_
  refine s1 tok [1] ?_
  refine AOpsO.nil ?_
  refine AW.seqRegionO [] ?_
  refine s1 tok [1, 5] ?_
  refine s1 tok [1, 6] ?_
  refine s1 tok [1, 7] ?_
  refine s1 tok [1, 3] ?_
  refine AOpsO.nil ?_
  refine AW.seq ?_
  refine AW.seqRegionO [] ?_
  refine s1 tok [1, 3, 4] ?_
  refine AOpsO.nil ?_
  refine AW.block ?_
  refine AW.loop (α := Nat) (fun k => k ≤ v.kids.length) (fun k => ⟨upds 25 [(1, .ptr 1 0), (3, .p (.bool (poiK v k))), (4, .p (.int .i64 k))], [], [(1, .vars 31 v.cells)], 0⟩) (fun k => v.kids.length - k) (0) (by omega) ⟨upds_le (by simp [poiK_zero]), rfl, by simp, by simp⟩ ?_
  rintro k hk
  refine AW.seq ?_
  refine AW.seqRegionO [] ?_
  refine s1 tok [1, 3, 4, 8] ?_
  refine s1 tok [1, 3, 4, 8, 9] ?_
  refine s1 tok [1, 3, 4, 8, 10] ?_
  refine s1 tok [1, 3, 4, 8, 11] ?_
  refine s1 tok [1, 3, 4, 12] ?_
  refine AOpsO.nil ?_
  refine AW.cond (c := .tmp 12) (by conv => lhs; simp) trivial ?_ ?_
  · intro h12
    try simp at h12
    obtain ⟨x, hx⟩ : ∃ x, v.kids[k]? = some x := ⟨v.kids[k], by simp [h12]⟩
    have hix := ih x (List.mem_of_getElem? hx)
    simp only [Val.enc_def] at hix
    have hst := poiK_succ hx
    refine AW.skip ?_
    refine AW.seq ?_
    refine AW.block ?_
    refine AW.regionO [x.enc, .nilp, .bool (poiV x)] ?_
    refine s1 tok [1, 4, 15] ?_
    refine s1 tok [1, 4, 16] ?_
    refine s2 tok [1, 4, 16, 17] 16 rfl rfl ?_
    refine s2 tok [1, 4, 16, 18] 16 rfl rfl ?_ (hv := by first | with_reducible exact True.intro | (first | exact hix | (simp [hx]; done) | (simp [hx]; exact hix) | (simp [hx]; exact fun h => ⟨h, hix⟩); done) | omega | simp | (simp; omega) | (simp +contextual; omega))
    refine s2 tok [1, 4, 16, 18, 19] 16 rfl rfl ?_
    refine s2 tok [1, 4, 16, 20] 16 rfl rfl ?_ (hv := by first | with_reducible exact True.intro | (first | exact hix | (simp [hx]; done) | (simp [hx]; exact hix) | (simp [hx]; exact fun h => ⟨h, hix⟩); done) | omega | simp | (simp; omega) | (simp +contextual; omega))
    refine s2 tok [1, 4, 16, 21] 16 rfl rfl ?_ (hv := by first | with_reducible exact True.intro | (first | exact hix | (simp [hx]; done) | (simp [hx]; exact hix) | (simp [hx]; exact fun h => ⟨h, hix⟩); done) | omega | simp | (simp; omega) | (simp +contextual; omega))
    refine s2 tok [1, 4, 16, 22] 16 rfl rfl ?_ (hv := by first | with_reducible exact True.intro | (first | exact hix | (simp [hx]; done) | (simp [hx]; exact hix) | (simp [hx]; exact fun h => ⟨h, hix⟩); done) | omega | simp | (simp; omega) | (simp +contextual; omega))
    refine s1 tok [1, 4, 23] ?_ (hv := by first | with_reducible exact True.intro | (first | exact hix | (simp [hx]; done) | (simp [hx]; exact hix) | (simp [hx]; exact fun h => ⟨h, hix⟩); done) | omega | simp | (simp; omega) | (simp +contextual; omega))
    refine s1 tok [1, 3, 4] ?_
    refine AOpsO.nil ?_
    refine AW.regionO [] ?_
    refine s1 tok [1, 3, 13] ?_
    refine s1 tok [1, 3, 14] ?_
    refine s1 tok [1, 3, 4] ?_
    refine AOpsO.nil ?_
    exact ⟨k + 1, by omega, by omega, upds_le (by simp [hst]), rfl, by simp [hst], by simp [hst]⟩
  · intro h12
    try simp at h12
    rw [poiK_end (by omega)]
    refine AW.exit ?_
    simp
    refine AW.seqRegionO [] ?_
    refine s1 tok [24] ?_
    refine s1 tok [2] ?_
    refine AOpsO.nil ?_
    exact AW.ret ⟨.inr rfl, _, _, by (conv => lhs; simp), trivial, by simp⟩
theorem pois_ev (v : Val) : Val.sz v ≤ 1000000 → AFn Tryz.prog G 12 [v.enc] (.bool (poiV v)) :=
  Val.induct (p := fun v => Val.sz v ≤ 1000000 → AFn Tryz.prog G 12 [v.enc] (.bool (poiV v))) (fun v ih hs => pois_step v (kids_le_sz hs) fun k hk => ih k hk (by have := Val.sz_kid hk; omega)) v
end Go.Proofs.YtdlejiiiifhiiaaGreatDoor
