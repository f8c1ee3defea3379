import Derived.Test.YtdploelkmlbhnaaDoorCore20
import Derived.Test.YtdploelkmlbhnaaDoorPathIn
import Derived.Test.YtdploelkmlbhnaaDoorPathLaw
import Derived.Test.YtdploelkmlbhnaaDoorSame
namespace Go.Proofs.YtdploelkmlbhnaaDoor
open Sy Go
set_option maxRecDepth 100000
set_option maxHeartbeats 4000000
set_option linter.unusedSimpArgs false
set_option linter.unusedVariables false
variable {G : Glob}

theorem place_kinds (l : List Step) : ∀ t ∈ placeM l, t.kind = 1 ∨ t.kind = 2 := (place_plain l).kinds
theorem any_snoc {a : List Step} {k : Nat} {t : Step} (ht : a[k]? = some t) : (a.take (k + 1)).map anyOf = (a.take k).map anyOf ++ [anyOf t] := by
  rw [List.take_add_one, ht]; simp
theorem PathLeads_ev (a b l : List Step) : AFn Tryd.prog G 4 [.sl 3 (a.map Step.enc), .sl 3 (b.map Step.enc), .sl 3 (l.map Step.enc)] (.bool true) := by
  refine AFn.introU tok Tryd.func4 (by kernel_rfl) rfl rfl ?_
  simp only [Tryd.f4, enumA, List.map_cons, List.map_nil]
  have hl := few_len l
  have hp := place_len a
  have hq := place_len b
  have hk := place_kinds a
  have hkey := few_key l
  have h1 := shown_ev (G := G)
  have h2 := place_ev (G := G) a
  have h3 := place_ev (G := G) b
  have h4 := few_ev (G := G) l
  generalize placeM a = p at *
  generalize placeM b = q at *
  generalize fewM l = m at *
  refine AW.seqRegionO [] ?_
  refine AOpsO.one tok [0, 1, 2] (by intro C; conv => lhs; simp) (by first | with_reducible exact True.intro | omega | simp | (simp; omega)) rfl ?_
  refine AOpsO.nil ?_
  refine AW.seqRegionO [.nilp, .bool true] ?_
  refine AOpsO.one tok [0, 1, 2, 17] (by intro C; conv => lhs; simp) (by first | with_reducible exact True.intro | (simp [h1]) | omega | simp | (simp; omega)) rfl ?_
  refine AOpsO.one tok [0, 1, 2, 7] (by intro C; conv => lhs; simp) (by first | with_reducible exact True.intro | (simp [h1]) | omega | simp | (simp; omega)) rfl ?_
  refine AOpsO.nil ?_
  refine AW.seqRegionO [.nilp, .sl 3 (p.map Step.enc)] ?_
  refine AOpsO.one tok [1, 2, 7, 18] (by intro C; conv => lhs; simp) (by first | with_reducible exact True.intro | (simp [h2]) | omega | simp | (simp; omega)) rfl ?_
  refine AOpsO.one tok [1, 2, 7, 19] (by intro C; conv => lhs; simp) (by first | with_reducible exact True.intro | (simp [h2]) | omega | simp | (simp; omega)) rfl ?_
  refine AOpsO.one tok [0, 1, 2, 7] (by intro C; conv => lhs; simp) (by first | with_reducible exact True.intro | (simp [h2]) | omega | simp | (simp; omega)) rfl ?_
  refine AOpsO.nil ?_
  refine AW.seqRegionO [.nilp, .sl 3 (q.map Step.enc)] ?_
  refine AOpsO.one tok [0, 2, 7, 20] (by intro C; conv => lhs; simp) (by first | with_reducible exact True.intro | (simp [h3]) | omega | simp | (simp; omega)) rfl ?_
  refine AOpsO.one tok [0, 2, 7, 21] (by intro C; conv => lhs; simp) (by first | with_reducible exact True.intro | (simp [h3]) | omega | simp | (simp; omega)) rfl ?_
  refine AOpsO.one tok [0, 1, 2, 7] (by intro C; conv => lhs; simp) (by first | with_reducible exact True.intro | (simp [h3]) | omega | simp | (simp; omega)) rfl ?_
  refine AOpsO.nil ?_
  refine AW.seqRegionO [.nilp, .sl 3 (m.map Step.enc)] ?_
  refine AOpsO.one tok [0, 1, 7, 22] (by intro C; conv => lhs; simp) (by first | with_reducible exact True.intro | (simp [h4]) | omega | simp | (simp; omega)) rfl ?_
  refine AOpsO.one tok [0, 1, 7, 23] (by intro C; conv => lhs; simp) (by first | with_reducible exact True.intro | (simp [h4]) | omega | simp | (simp; omega)) rfl ?_
  refine AOpsO.one tok [0, 1, 2, 7] (by intro C; conv => lhs; simp) (by first | with_reducible exact True.intro | (simp [h4]) | omega | simp | (simp; omega)) rfl ?_
  refine AOpsO.nil ?_
  refine AW.join (α := List Step) (fun x => x.length ≤ 6 ∧ ∀ t ∈ x, t.key.length ≤ 40) (fun x => ⟨upds 123 [(0, .p (.sl 3 (p.map Step.enc))), (1, .p (.sl 3 (q.map Step.enc))), (2, .p (.sl 3 (x.map Step.enc))), (7, .p (.bool true))], [], [], 0⟩) ?_ ?_
  ·
    refine AW.seqRegionO [] ?_
    refine AOpsO.one tok [0, 1, 2, 7, 24] (by intro C; conv => lhs; simp) (by first | with_reducible exact True.intro | omega | simp | (simp; omega)) rfl ?_
    refine AOpsO.one tok [0, 1, 2, 7, 25] (by intro C; conv => lhs; simp) (by first | with_reducible exact True.intro | omega | simp | (simp; omega)) rfl ?_
    refine AOpsO.one tok [0, 1, 2, 7, 26] (by intro C; conv => lhs; simp) (by first | with_reducible exact True.intro | omega | simp | (simp; omega)) rfl ?_
    refine AOpsO.nil ?_
    refine AW.cond (c := .tmp 26) (by conv => lhs; simp) trivial ?_ ?_
    · intro h26
      simp at h26
      refine AW.regionO [] ?_
      refine AOpsO.one tok [0, 1, 7, 27] (by intro C; conv => lhs; simp) (by first | with_reducible exact True.intro | omega | simp | (simp; omega)) rfl ?_
      refine AOpsO.one tok [0, 1, 7, 28] (by intro C; conv => lhs; simp) (by first | with_reducible exact True.intro | omega | simp | (simp; omega)) rfl ?_
      refine AOpsO.one tok [0, 1, 2, 7] (by intro C; conv => lhs; simp) (by first | with_reducible exact True.intro | omega | simp | (simp; omega)) rfl ?_
      refine AOpsO.nil ?_
      exact ⟨m.take 6, ⟨by simp; omega, fun t ht => hkey t (List.mem_of_mem_take ht)⟩, upds_le (by simp), rfl, by simp, by simp⟩
    · intro h26
      simp at h26
      refine AW.skip ?_
      exact ⟨m, ⟨by omega, hkey⟩, upds_le (by simp), rfl, by simp, by simp⟩
  ·
    rintro x ⟨hx6, hxk⟩
    refine AW.seqRegionO [.nilp, .bool (decide (p = q))] ?_
    refine AOpsO.one tok [0, 1, 2, 7, 29] (by intro C; conv => lhs; simp) (by first | with_reducible exact True.intro | (simp [refSame_ev]) | omega | simp | (simp; omega)) rfl ?_
    refine AOpsO.one tok [0, 1, 2, 7, 29, 30] (by intro C; conv => lhs; simp) (by first | with_reducible exact True.intro | (simp [refSame_ev]) | omega | simp | (simp; omega)) rfl ?_
    refine AOpsO.one tok [0, 1, 2, 7, 31] (by intro C; conv => lhs; simp) (by first | with_reducible exact True.intro | (simp [refSame_ev]) | omega | simp | (simp; omega)) rfl ?_
    refine AOpsO.one tok [0, 1, 2, 7, 8] (by intro C; conv => lhs; simp) (by first | with_reducible exact True.intro | (simp [refSame_ev]) | omega | simp | (simp; omega)) rfl ?_
    refine AOpsO.nil ?_
    refine AW.seqRegionO [(⟨5, [], 0⟩ : Step).enc] ?_
    refine AOpsO.one tok [0, 1, 2, 7, 8, 32] (by intro C; conv => lhs; simp) (by first | with_reducible exact True.intro | omega | simp | (simp; omega)) rfl ?_
    refine AOpsO.one tok [0, 1, 2, 7, 8, 33] (by intro C; conv => lhs; simp) (by first | with_reducible exact True.intro | omega | simp | (simp; omega)) rfl ?_
    refine AOpsO.one tok [0, 1, 2, 7, 8, 9] (by intro C; conv => lhs; simp) (by first | with_reducible exact True.intro | omega | simp | (simp; omega)) rfl ?_
    refine AOpsO.nil ?_
    refine AW.seqRegionO [] ?_
    refine AOpsO.one tok [0, 1, 2, 7, 8, 9, 34] (by intro C; conv => lhs; simp) (by first | with_reducible exact True.intro | omega | simp | (simp; omega)) rfl ?_
    refine AOpsO.one tok [0, 1, 2, 7, 8, 9, 10] (by intro C; conv => lhs; simp) (by first | with_reducible exact True.intro | omega | simp | (simp; omega)) rfl ?_
    refine AOpsO.nil ?_
    refine AW.seq ?_
    refine AW.seqRegionO [] ?_
    refine AOpsO.one tok [0, 1, 2, 7, 8, 9, 10, 11] (by intro C; conv => lhs; simp) (by first | with_reducible exact True.intro | omega | simp | (simp; omega)) rfl ?_
    refine AOpsO.nil ?_
    refine AW.block ?_
    refine AW.loop (α := Nat) (fun k => k ≤ p.length) (fun k => ⟨upds 123 [(0, .p (.sl 3 (p.map Step.enc))), (1, .p (.sl 3 (q.map Step.enc))), (2, .p (.sl 3 (x.map Step.enc))), (7, .p (.bool true)), (8, .p (.bool (decide (p = q)))), (9, .ms 33), (10, .ms 34), (11, .p (.int .i64 k))], [], [(34, .row 29 3 (((p.take k).map anyOf).map Step.enc)), (33, .row 29 3 [(⟨5, [], 0⟩ : Step).enc])], 0⟩) (fun k => p.length - k) (0) (by omega) ⟨upds_le (by simp), rfl, by simp, by simp⟩ ?_
    rintro k hkp
    refine AW.seq ?_
    refine AW.seqRegionO [] ?_
    refine AOpsO.one tok [0, 1, 2, 7, 8, 9, 10, 11, 35] (by intro C; conv => lhs; simp) (by first | with_reducible exact True.intro | omega | simp | (simp; omega)) rfl ?_
    refine AOpsO.one tok [0, 1, 2, 7, 8, 9, 10, 11, 35, 36] (by intro C; conv => lhs; simp) (by first | with_reducible exact True.intro | omega | simp | (simp; omega)) rfl ?_
    refine AOpsO.one tok [0, 1, 2, 7, 8, 9, 10, 11, 35, 37] (by intro C; conv => lhs; simp) (by first | with_reducible exact True.intro | omega | simp | (simp; omega)) rfl ?_
    refine AOpsO.one tok [0, 1, 2, 7, 8, 9, 10, 11, 38] (by intro C; conv => lhs; simp) (by first | with_reducible exact True.intro | omega | simp | (simp; omega)) rfl ?_
    refine AOpsO.nil ?_
    refine AW.cond (c := .tmp 38) (by conv => lhs; simp) trivial ?_ ?_
    · intro h38
      simp at h38
      obtain ⟨t, ht⟩ : ∃ t, p[k]? = some t := ⟨p[k], by simp [h38]⟩
      have hsn := any_snoc ht
      have hlk : (p.take k).length ≤ 24 := by simp; omega
      have htk := hk t (List.mem_of_getElem? ht)
      refine AW.skip ?_
      refine AW.seq ?_
      refine AW.block ?_
      refine AW.seqRegionO [] ?_
      refine AOpsO.one tok [0, 1, 2, 7, 8, 9, 10, 11, 12] (by intro C; conv => lhs; simp) (by first | with_reducible exact True.intro | omega | simp | (simp; omega)) rfl ?_
      refine AOpsO.nil ?_
      refine AW.seq ?_
      refine AW.seqRegionO [t.enc] ?_
      refine AOpsO.one tok [0, 1, 2, 7, 8, 9, 10, 11, 12, 41] (by intro C; conv => lhs; simp) (by first | with_reducible exact True.intro | (simp [ht]) | omega | simp | (simp; omega)) rfl ?_
      refine AOpsO.one tok [0, 1, 2, 7, 8, 9, 10, 11, 12, 41, 42] (by intro C; conv => lhs; simp) (by first | with_reducible exact True.intro | (simp [ht]) | omega | simp | (simp; omega)) rfl ?_
      refine AOpsO.one tok [0, 1, 2, 7, 8, 9, 10, 11, 12, 43] (by intro C; conv => lhs; simp) (by first | with_reducible exact True.intro | (simp [ht]) | omega | simp | (simp; omega)) rfl ?_
      refine AOpsO.one tok [0, 1, 2, 7, 8, 9, 10, 11, 12, 44] (by intro C; conv => lhs; simp) (by first | with_reducible exact True.intro | (simp [ht]) | omega | simp | (simp; omega)) rfl ?_
      refine AOpsO.one tok [0, 1, 2, 7, 8, 9, 10, 11, 12, 45] (by intro C; conv => lhs; simp) (by first | with_reducible exact True.intro | (simp [ht]) | omega | simp | (simp; omega)) rfl ?_
      refine AOpsO.one tok [0, 1, 2, 7, 8, 9, 10, 11, 12, 46] (by intro C; conv => lhs; simp) (by first | with_reducible exact True.intro | (simp [ht]) | omega | simp | (simp; omega)) rfl ?_
      refine AOpsO.nil ?_
      refine AW.cond (c := .tmp 46) (by conv => lhs; simp) trivial ?_ ?_
      · intro h46
        simp at h46
        refine AW.regionO [] ?_
        refine AOpsO.one tok [0, 1, 2, 7, 8, 9, 10, 11, 12] (by intro C; conv => lhs; simp) (by first | with_reducible exact True.intro | omega | simp | (simp; omega)) rfl ?_
        refine AOpsO.nil ?_
        refine AW.regionO [(anyOf t).enc] ?_
        refine AOpsO.one tok [0, 1, 2, 7, 8, 9, 11, 12, 47] (by intro C; conv => lhs; simp [anyOf, h46]) (by first | with_reducible exact True.intro | (omega) | omega | simp | (simp; omega)) rfl ?_
        refine AOpsO.one tok [0, 1, 2, 7, 8, 9, 11, 47, 48] (by intro C; conv => lhs; simp [anyOf, h46]) (by first | with_reducible exact True.intro | (omega) | omega | simp | (simp; omega)) rfl ?_
        refine AOpsO.one tok [0, 1, 2, 7, 8, 9, 11, 47, 49] (by intro C; conv => lhs; simp [anyOf, h46]) (by first | with_reducible exact True.intro | (omega) | omega | simp | (simp; omega)) rfl ?_
        refine AOpsO.one tok [0, 1, 2, 7, 8, 9, 11, 47, 50] (by intro C; conv => lhs; simp [anyOf, h46]) (by first | with_reducible exact True.intro | (omega) | omega | simp | (simp; omega)) rfl ?_
        refine AOpsO.one tok [0, 1, 2, 7, 8, 9, 11, 51] (by intro C; conv => lhs; simp [anyOf, h46]) (by first | with_reducible exact True.intro | (omega) | omega | simp | (simp; omega)) rfl ?_
        refine AOpsO.one tok [0, 1, 2, 7, 8, 9, 10, 11] (by intro C; conv => lhs; simp [anyOf, h46]) (by first | with_reducible exact True.intro | (omega) | omega | simp | (simp; omega)) rfl ?_
        refine AOpsO.nil ?_
        refine AW.regionO [] ?_
        refine AOpsO.one tok [0, 1, 2, 7, 8, 9, 10, 39] (by intro C; conv => lhs; simp) (by first | with_reducible exact True.intro | omega | simp | (simp; omega)) rfl ?_
        refine AOpsO.one tok [0, 1, 2, 7, 8, 9, 10, 40] (by intro C; conv => lhs; simp) (by first | with_reducible exact True.intro | omega | simp | (simp; omega)) rfl ?_
        refine AOpsO.one tok [0, 1, 2, 7, 8, 9, 10, 11] (by intro C; conv => lhs; simp) (by first | with_reducible exact True.intro | omega | simp | (simp; omega)) rfl ?_
        refine AOpsO.nil ?_
        exact ⟨k + 1, by omega, by omega, upds_le (by simp [hsn, anyOf, h46]), rfl, by simp [hsn, anyOf, h46], by simp [hsn, anyOf, h46]⟩
      · intro h46
        simp at h46
        refine AW.skip ?_
        refine AW.regionO [(anyOf t).enc] ?_
        refine AOpsO.one tok [0, 1, 2, 7, 8, 9, 11, 12, 47] (by intro C; conv => lhs; simp [anyOf, h46]) (by first | with_reducible exact True.intro | (omega) | omega | simp | (simp; omega)) rfl ?_
        refine AOpsO.one tok [0, 1, 2, 7, 8, 9, 11, 47, 48] (by intro C; conv => lhs; simp [anyOf, h46]) (by first | with_reducible exact True.intro | (omega) | omega | simp | (simp; omega)) rfl ?_
        refine AOpsO.one tok [0, 1, 2, 7, 8, 9, 11, 47, 49] (by intro C; conv => lhs; simp [anyOf, h46]) (by first | with_reducible exact True.intro | (omega) | omega | simp | (simp; omega)) rfl ?_
        refine AOpsO.one tok [0, 1, 2, 7, 8, 9, 11, 47, 50] (by intro C; conv => lhs; simp [anyOf, h46]) (by first | with_reducible exact True.intro | (omega) | omega | simp | (simp; omega)) rfl ?_
        refine AOpsO.one tok [0, 1, 2, 7, 8, 9, 11, 51] (by intro C; conv => lhs; simp [anyOf, h46]) (by first | with_reducible exact True.intro | (omega) | omega | simp | (simp; omega)) rfl ?_
        refine AOpsO.one tok [0, 1, 2, 7, 8, 9, 10, 11] (by intro C; conv => lhs; simp [anyOf, h46]) (by first | with_reducible exact True.intro | (omega) | omega | simp | (simp; omega)) rfl ?_
        refine AOpsO.nil ?_
        refine AW.regionO [] ?_
        refine AOpsO.one tok [0, 1, 2, 7, 8, 9, 10, 39] (by intro C; conv => lhs; simp) (by first | with_reducible exact True.intro | omega | simp | (simp; omega)) rfl ?_
        refine AOpsO.one tok [0, 1, 2, 7, 8, 9, 10, 40] (by intro C; conv => lhs; simp) (by first | with_reducible exact True.intro | omega | simp | (simp; omega)) rfl ?_
        refine AOpsO.one tok [0, 1, 2, 7, 8, 9, 10, 11] (by intro C; conv => lhs; simp) (by first | with_reducible exact True.intro | omega | simp | (simp; omega)) rfl ?_
        refine AOpsO.nil ?_
        exact ⟨k + 1, by omega, by omega, upds_le (by simp [hsn, anyOf, h46]), rfl, by simp [hsn, anyOf, h46], by simp [hsn, anyOf, h46]⟩
    · intro h38
      simp at h38
      have hpk : ∀ f : Step → PD, (p.map f).take k = p.map f := fun f => List.take_of_length_le (by simp; omega)
      have m1 := match_ev (G := G) p q (by omega) (by omega)
      have m2 := match_ev (G := G) p p (by omega) (by omega)
      have m3 := match_ev (G := G) [⟨5, [], 0⟩] p (by decide) (by omega)
      have m4 := match_ev (G := G) (p.map anyOf) p (by simp; omega) (by omega)
      rw [match_plain hk] at m1 m2
      rw [match_deep rfl] at m3
      rw [match_any hk] at m4
      simp at m2 m3 m4
      refine AW.exit ?_
      simp
      refine AW.seq ?_
      refine AW.seqRegionO [.nilp, .bool (decide (p = q)), .nilp, .bool true, .nilp, .bool true, .nilp, .bool true] ?_
      refine AOpsO.one tok [0, 1, 2, 7, 8, 9, 10, 52] (by intro C; conv => lhs; simp) (by first | with_reducible exact True.intro | (simp [m1, m2, m3, m4, hpk]) | omega | simp | (simp; omega)) rfl ?_
      refine AOpsO.one tok [0, 1, 2, 7, 8, 9, 10, 52, 53] (by intro C; conv => lhs; simp) (by first | with_reducible exact True.intro | (simp [m1, m2, m3, m4, hpk]) | omega | simp | (simp; omega)) rfl ?_
      refine AOpsO.one tok [0, 1, 2, 7, 8, 9, 10, 54] (by intro C; conv => lhs; simp) (by first | with_reducible exact True.intro | (simp [m1, m2, m3, m4, hpk]) | omega | simp | (simp; omega)) rfl ?_
      refine AOpsO.one tok [0, 1, 2, 7, 9, 10, 54, 55] (by intro C; conv => lhs; simp) (by first | with_reducible exact True.intro | (simp [m1, m2, m3, m4, hpk]) | omega | simp | (simp; omega)) rfl ?_
      refine AOpsO.one tok [0, 1, 2, 7, 9, 10, 56] (by intro C; conv => lhs; simp) (by first | with_reducible exact True.intro | (simp [m1, m2, m3, m4, hpk]) | omega | simp | (simp; omega)) rfl ?_
      refine AOpsO.one tok [0, 1, 2, 7, 9, 10, 57] (by intro C; conv => lhs; simp) (by first | with_reducible exact True.intro | (simp [m1, m2, m3, m4, hpk]) | omega | simp | (simp; omega)) rfl ?_
      refine AOpsO.oneIf tok [0, 1, 2, 7, 9, 10, 57, 58] 57 (by intro C; conv => lhs; simp) (by first | with_reducible exact True.intro | (simp [m1, m2, m3, m4, hpk]) | omega | simp | (simp; omega)) rfl rfl ?_
      refine AOpsO.oneIf tok [0, 1, 2, 7, 9, 10, 57, 58, 59] 57 (by intro C; conv => lhs; simp) (by first | with_reducible exact True.intro | (simp [m1, m2, m3, m4, hpk]) | omega | simp | (simp; omega)) rfl rfl ?_
      refine AOpsO.oneIf tok [0, 1, 2, 7, 9, 10, 57, 60] 57 (by intro C; conv => lhs; simp) (by first | with_reducible exact True.intro | (simp [m1, m2, m3, m4, hpk]) | omega | simp | (simp; omega)) rfl rfl ?_
      refine AOpsO.oneIf tok [0, 1, 2, 7, 9, 10, 57, 61] 57 (by intro C; conv => lhs; simp) (by first | with_reducible exact True.intro | (simp [m1, m2, m3, m4, hpk]) | omega | simp | (simp; omega)) rfl rfl ?_
      refine AOpsO.one tok [0, 1, 2, 7, 9, 10, 62] (by intro C; conv => lhs; simp) (by first | with_reducible exact True.intro | (simp [m1, m2, m3, m4, hpk]) | omega | simp | (simp; omega)) rfl ?_
      refine AOpsO.one tok [0, 1, 2, 7, 9, 10, 63] (by intro C; conv => lhs; simp) (by first | with_reducible exact True.intro | (simp [m1, m2, m3, m4, hpk]) | omega | simp | (simp; omega)) rfl ?_
      refine AOpsO.oneIf tok [0, 1, 2, 7, 9, 10, 63, 64] 63 (by intro C; conv => lhs; simp) (by first | with_reducible exact True.intro | (simp [m1, m2, m3, m4, hpk]) | omega | simp | (simp; omega)) rfl rfl ?_
      refine AOpsO.oneIf tok [0, 1, 2, 7, 9, 10, 63, 64, 65] 63 (by intro C; conv => lhs; simp) (by first | with_reducible exact True.intro | (simp [m1, m2, m3, m4, hpk]) | omega | simp | (simp; omega)) rfl rfl ?_
      refine AOpsO.oneIf tok [0, 1, 2, 7, 9, 10, 63, 66] 63 (by intro C; conv => lhs; simp) (by first | with_reducible exact True.intro | (simp [m1, m2, m3, m4, hpk]) | omega | simp | (simp; omega)) rfl rfl ?_
      refine AOpsO.oneIf tok [0, 1, 2, 7, 9, 10, 63, 67] 63 (by intro C; conv => lhs; simp) (by first | with_reducible exact True.intro | (simp [m1, m2, m3, m4, hpk]) | omega | simp | (simp; omega)) rfl rfl ?_
      refine AOpsO.one tok [0, 1, 2, 7, 9, 10, 68] (by intro C; conv => lhs; simp) (by first | with_reducible exact True.intro | (simp [m1, m2, m3, m4, hpk]) | omega | simp | (simp; omega)) rfl ?_
      refine AOpsO.one tok [0, 1, 2, 7, 9, 10, 69] (by intro C; conv => lhs; simp) (by first | with_reducible exact True.intro | (simp [m1, m2, m3, m4, hpk]) | omega | simp | (simp; omega)) rfl ?_
      refine AOpsO.oneIf tok [0, 1, 2, 7, 9, 69, 70] 69 (by intro C; conv => lhs; simp) (by first | with_reducible exact True.intro | (simp [m1, m2, m3, m4, hpk]) | omega | simp | (simp; omega)) rfl rfl ?_
      refine AOpsO.oneIf tok [0, 1, 2, 7, 9, 69, 70, 71] 69 (by intro C; conv => lhs; simp) (by first | with_reducible exact True.intro | (simp [m1, m2, m3, m4, hpk]) | omega | simp | (simp; omega)) rfl rfl ?_
      refine AOpsO.oneIf tok [0, 1, 2, 7, 9, 69, 72] 69 (by intro C; conv => lhs; simp) (by first | with_reducible exact True.intro | (simp [m1, m2, m3, m4, hpk]) | omega | simp | (simp; omega)) rfl rfl ?_
      refine AOpsO.oneIf tok [0, 1, 2, 7, 9, 69, 73] 69 (by intro C; conv => lhs; simp) (by first | with_reducible exact True.intro | (simp [m1, m2, m3, m4, hpk]) | omega | simp | (simp; omega)) rfl rfl ?_
      refine AOpsO.one tok [0, 1, 2, 7, 9, 74] (by intro C; conv => lhs; simp) (by first | with_reducible exact True.intro | (simp [m1, m2, m3, m4, hpk]) | omega | simp | (simp; omega)) rfl ?_
      refine AOpsO.nil ?_
      refine AW.cond (c := .tmp 74) (by conv => lhs; simp) trivial ?_ ?_
      · intro h74
        simp at h74
      · intro h74
        simp at h74
        have h5 := refMay_ev (G := G) x (fun t ht => by have := hxk t ht; omega)
        refine AW.skip ?_
        refine AW.seq ?_
        refine AW.seqRegionO [.nilp, .int .i64 (refMayL x)] ?_
        refine AOpsO.one tok [0, 1, 2, 7, 9, 75] (by intro C; conv => lhs; simp) (by first | with_reducible exact True.intro | (simp [h5]) | omega | simp | (simp; omega)) rfl ?_
        refine AOpsO.one tok [0, 1, 2, 7, 9, 76] (by intro C; conv => lhs; simp) (by first | with_reducible exact True.intro | (simp [h5]) | omega | simp | (simp; omega)) rfl ?_
        refine AOpsO.one tok [0, 1, 2, 7, 9, 77] (by intro C; conv => lhs; simp) (by first | with_reducible exact True.intro | (simp [h5]) | omega | simp | (simp; omega)) rfl ?_
        refine AOpsO.nil ?_
        refine AW.cond (c := .tmp 77) (by conv => lhs; simp) trivial ?_ ?_
        · intro h77
          simp at h77
          refine AW.seqRegionO [] ?_
          refine AOpsO.one tok [78] (by intro C; conv => lhs; simp) (by first | with_reducible exact True.intro | omega | simp | (simp; omega)) rfl ?_
          refine AOpsO.one tok [6] (by intro C; conv => lhs; simp) (by first | with_reducible exact True.intro | omega | simp | (simp; omega)) rfl ?_
          refine AOpsO.nil ?_
          exact AW.ret ⟨.inr rfl, _, _, by (conv => lhs; simp), trivial, by simp⟩
        · intro h77
          simp at h77
          refine AW.skip ?_
          refine AW.seqRegionO [] ?_
          refine AOpsO.one tok [0, 1, 2, 7, 9, 79] (by intro C; conv => lhs; simp) (by first | with_reducible exact True.intro | omega | simp | (simp; omega)) rfl ?_
          refine AOpsO.one tok [0, 1, 2, 7, 9, 79, 80] (by intro C; conv => lhs; simp) (by first | with_reducible exact True.intro | omega | simp | (simp; omega)) rfl ?_
          refine AOpsO.one tok [0, 1, 2, 7, 9, 81] (by intro C; conv => lhs; simp) (by first | with_reducible exact True.intro | omega | simp | (simp; omega)) rfl ?_
          refine AOpsO.one tok [0, 1, 2, 7, 9, 81, 82] (by intro C; conv => lhs; simp) (by first | with_reducible exact True.intro | omega | simp | (simp; omega)) rfl ?_
          refine AOpsO.one tok [0, 1, 2, 7, 9, 83] (by intro C; conv => lhs; simp) (by first | with_reducible exact True.intro | omega | simp | (simp; omega)) rfl ?_
          refine AOpsO.one tok [0, 1, 2, 7, 9, 13] (by intro C; conv => lhs; simp) (by first | with_reducible exact True.intro | omega | simp | (simp; omega)) rfl ?_
          refine AOpsO.nil ?_
          refine AW.seqRegionO [.nilp, .bool (matchM x q)] ?_
          refine AOpsO.one tok [0, 1, 2, 7, 9, 13, 84] (by intro C; conv => lhs; simp) (by first | with_reducible exact True.intro | (simp [match_ev (G := G) x q (by omega) (by omega)]) | omega | simp | (simp; omega)) rfl ?_
          refine AOpsO.one tok [0, 1, 2, 7, 9, 13, 84, 85] (by intro C; conv => lhs; simp) (by first | with_reducible exact True.intro | (simp [match_ev (G := G) x q (by omega) (by omega)]) | omega | simp | (simp; omega)) rfl ?_
          refine AOpsO.one tok [0, 1, 2, 7, 9, 13, 86] (by intro C; conv => lhs; simp) (by first | with_reducible exact True.intro | (simp [match_ev (G := G) x q (by omega) (by omega)]) | omega | simp | (simp; omega)) rfl ?_
          refine AOpsO.one tok [0, 1, 2, 7, 9, 13, 14] (by intro C; conv => lhs; simp) (by first | with_reducible exact True.intro | (simp [match_ev (G := G) x q (by omega) (by omega)]) | omega | simp | (simp; omega)) rfl ?_
          refine AOpsO.nil ?_
          refine AW.seqRegionO [] ?_
          refine AOpsO.one tok [0, 1, 2, 7, 9, 13, 14, 87] (by intro C; conv => lhs; simp) (by first | with_reducible exact True.intro | omega | simp | (simp; omega)) rfl ?_
          refine AOpsO.one tok [1, 2, 7, 9, 13, 14, 87, 88] (by intro C; conv => lhs; simp) (by first | with_reducible exact True.intro | omega | simp | (simp; omega)) rfl ?_
          refine AOpsO.one tok [1, 2, 7, 9, 13, 14, 89] (by intro C; conv => lhs; simp) (by first | with_reducible exact True.intro | omega | simp | (simp; omega)) rfl ?_
          refine AOpsO.one tok [1, 2, 7, 9, 13, 14, 89, 90] (by intro C; conv => lhs; simp) (by first | with_reducible exact True.intro | omega | simp | (simp; omega)) rfl ?_
          refine AOpsO.one tok [1, 2, 7, 9, 13, 14, 91] (by intro C; conv => lhs; simp) (by first | with_reducible exact True.intro | omega | simp | (simp; omega)) rfl ?_
          refine AOpsO.one tok [1, 2, 7, 9, 13, 14, 15] (by intro C; conv => lhs; simp) (by first | with_reducible exact True.intro | omega | simp | (simp; omega)) rfl ?_
          refine AOpsO.nil ?_
          refine AW.seqRegionO [] ?_
          refine AOpsO.one tok [1, 2, 7, 9, 13, 14, 15, 92] (by intro C; conv => lhs; simp) (by first | with_reducible exact True.intro | omega | simp | (simp; omega)) rfl ?_
          refine AOpsO.one tok [1, 2, 7, 9, 13, 14, 15, 92, 93] (by intro C; conv => lhs; simp) (by first | with_reducible exact True.intro | omega | simp | (simp; omega)) rfl ?_
          refine AOpsO.one tok [1, 2, 7, 9, 13, 14, 15, 94] (by intro C; conv => lhs; simp) (by first | with_reducible exact True.intro | omega | simp | (simp; omega)) rfl ?_
          refine AOpsO.one tok [1, 2, 7, 9, 13, 14, 15, 94, 95] (by intro C; conv => lhs; simp) (by first | with_reducible exact True.intro | omega | simp | (simp; omega)) rfl ?_
          refine AOpsO.one tok [1, 2, 7, 9, 13, 14, 15, 96] (by intro C; conv => lhs; simp) (by first | with_reducible exact True.intro | omega | simp | (simp; omega)) rfl ?_
          refine AOpsO.one tok [1, 2, 7, 9, 13, 14, 15, 16] (by intro C; conv => lhs; simp) (by first | with_reducible exact True.intro | omega | simp | (simp; omega)) rfl ?_
          refine AOpsO.nil ?_
          have m5 := match_ev (G := G) (p ++ x) (p ++ q) (by simp; omega) (by simp; omega)
          rw [match_under hk] at m5
          cases hone : matchM x q with
          | false =>
            rw [hone] at m5
            simp at m5
            refine AW.seqRun tok [.nilp, .bool false, .nilp, .bool false] (by intro C; conv => lhs; simp) (by simp [m5]) ?_
            exact AW.ret ⟨.inr rfl, _, _, by (conv => lhs; simp), trivial, by simp⟩
          | true =>
          have m6 := match_ev (G := G) (x ++ [⟨5, [], 0⟩]) q (by simp; omega) (by omega)
          have m7 := match_ev (G := G) (⟨5, [], 0⟩ :: x) (p ++ q) (by simp; omega) (by simp; omega)
          rw [match_end rfl hone] at m6
          rw [match_begin rfl p hone] at m7
          rw [hone] at m5
          simp at m5 m6 m7
          refine AW.seqRegionO [.nilp, .bool true, .nilp, .bool true, .nilp, .bool true] ?_
          refine AOpsO.one tok [1, 2, 9, 13, 14, 15, 16, 97] (by intro C; conv => lhs; simp) (by first | with_reducible exact True.intro | (simp [m5, m6, m7]; omega) | omega | simp | (simp; omega)) rfl ?_
          refine AOpsO.one tok [1, 2, 9, 13, 14, 15, 16, 98] (by intro C; conv => lhs; simp) (by first | with_reducible exact True.intro | (simp [m5, m6, m7]; omega) | omega | simp | (simp; omega)) rfl ?_
          refine AOpsO.oneIf tok [1, 2, 9, 13, 14, 16, 98, 99] 98 (by intro C; conv => lhs; simp) (by first | with_reducible exact True.intro | (simp [m5, m6, m7]; omega) | omega | simp | (simp; omega)) rfl rfl ?_
          refine AOpsO.oneIf tok [1, 2, 9, 13, 14, 16, 98, 99, 100] 98 (by intro C; conv => lhs; simp) (by first | with_reducible exact True.intro | (simp [m5, m6, m7]; omega) | omega | simp | (simp; omega)) rfl rfl ?_
          refine AOpsO.oneIf tok [1, 2, 9, 13, 14, 16, 98, 101] 98 (by intro C; conv => lhs; simp) (by first | with_reducible exact True.intro | (simp [m5, m6, m7]; omega) | omega | simp | (simp; omega)) rfl rfl ?_
          refine AOpsO.oneIf tok [1, 2, 9, 13, 14, 16, 98, 101, 102] 98 (by intro C; conv => lhs; simp) (by first | with_reducible exact True.intro | (simp [m5, m6, m7]; omega) | omega | simp | (simp; omega)) rfl rfl ?_
          refine AOpsO.oneIf tok [1, 2, 9, 13, 14, 16, 98, 103] 98 (by intro C; conv => lhs; simp) (by first | with_reducible exact True.intro | (simp [m5, m6, m7]; omega) | omega | simp | (simp; omega)) rfl rfl ?_
          refine AOpsO.one tok [1, 2, 9, 13, 14, 16, 104] (by intro C; conv => lhs; simp) (by first | with_reducible exact True.intro | (simp [m5, m6, m7]; omega) | omega | simp | (simp; omega)) rfl ?_
          refine AOpsO.one tok [1, 2, 9, 13, 14, 16, 105] (by intro C; conv => lhs; simp) (by first | with_reducible exact True.intro | (simp [m5, m6, m7]; omega) | omega | simp | (simp; omega)) rfl ?_
          refine AOpsO.oneIf tok [1, 2, 9, 13, 16, 105, 106] 105 (by intro C; conv => lhs; simp) (by first | with_reducible exact True.intro | (simp [m5, m6, m7]; omega) | omega | simp | (simp; omega)) rfl rfl ?_
          refine AOpsO.oneIf tok [1, 2, 9, 13, 16, 105, 107] 105 (by intro C; conv => lhs; simp) (by first | with_reducible exact True.intro | (simp [m5, m6, m7]; omega) | omega | simp | (simp; omega)) rfl rfl ?_
          refine AOpsO.oneIf tok [1, 2, 9, 13, 16, 105, 108] 105 (by intro C; conv => lhs; simp) (by first | with_reducible exact True.intro | (simp [m5, m6, m7]; omega) | omega | simp | (simp; omega)) rfl rfl ?_
          refine AOpsO.oneIf tok [1, 2, 9, 13, 105, 108, 109] 108 (by intro C; conv => lhs; simp) (by first | with_reducible exact True.intro | (simp [m5, m6, m7]; omega) | omega | simp | (simp; omega)) rfl rfl ?_
          refine AOpsO.oneIf tok [2, 9, 13, 105, 108, 109, 110] 108 (by intro C; conv => lhs; simp) (by first | with_reducible exact True.intro | (simp [m5, m6, m7]; omega) | omega | simp | (simp; omega)) rfl rfl ?_
          refine AOpsO.oneIf tok [2, 9, 13, 105, 108, 111] 108 (by intro C; conv => lhs; simp) (by first | with_reducible exact True.intro | (simp [m5, m6, m7]; omega) | omega | simp | (simp; omega)) rfl rfl ?_
          refine AOpsO.oneIf tok [2, 9, 13, 105, 108, 112] 108 (by intro C; conv => lhs; simp) (by first | with_reducible exact True.intro | (simp [m5, m6, m7]; omega) | omega | simp | (simp; omega)) rfl rfl ?_
          refine AOpsO.oneIf tok [2, 9, 13, 105, 108, 112, 113] 112 (by intro C; conv => lhs; simp) (by first | with_reducible exact True.intro | (simp [m5, m6, m7]; omega) | omega | simp | (simp; omega)) rfl rfl ?_
          refine AOpsO.oneIf tok [2, 13, 105, 108, 112, 113, 114] 112 (by intro C; conv => lhs; simp) (by first | with_reducible exact True.intro | (simp [m5, m6, m7]; omega) | omega | simp | (simp; omega)) rfl rfl ?_
          refine AOpsO.oneIf tok [2, 13, 105, 108, 112, 115] 112 (by intro C; conv => lhs; simp) (by first | with_reducible exact True.intro | (simp [m5, m6, m7]; omega) | omega | simp | (simp; omega)) rfl rfl ?_
          refine AOpsO.oneIf tok [13, 105, 108, 112, 115, 116] 112 (by intro C; conv => lhs; simp) (by first | with_reducible exact True.intro | (simp [m5, m6, m7]; omega) | omega | simp | (simp; omega)) rfl rfl ?_
          refine AOpsO.oneIf tok [13, 105, 108, 112, 117] 112 (by intro C; conv => lhs; simp) (by first | with_reducible exact True.intro | (simp [m5, m6, m7]; omega) | omega | simp | (simp; omega)) rfl rfl ?_
          refine AOpsO.oneIf tok [105, 108, 112, 117, 118] 112 (by intro C; conv => lhs; simp) (by first | with_reducible exact True.intro | (simp [m5, m6, m7]; omega) | omega | simp | (simp; omega)) rfl rfl ?_
          refine AOpsO.oneIf tok [105, 108, 112, 119] 112 (by intro C; conv => lhs; simp) (by first | with_reducible exact True.intro | (simp [m5, m6, m7]; omega) | omega | simp | (simp; omega)) rfl rfl ?_
          refine AOpsO.oneIf tok [105, 108, 120] 108 (by intro C; conv => lhs; simp) (by first | with_reducible exact True.intro | (simp [m5, m6, m7]; omega) | omega | simp | (simp; omega)) rfl rfl ?_
          refine AOpsO.oneIf tok [105, 121] 105 (by intro C; conv => lhs; simp) (by first | with_reducible exact True.intro | (simp [m5, m6, m7]; omega) | omega | simp | (simp; omega)) rfl rfl ?_
          refine AOpsO.one tok [122] (by intro C; conv => lhs; simp) (by first | with_reducible exact True.intro | (simp [m5, m6, m7]; omega) | omega | simp | (simp; omega)) rfl ?_
          refine AOpsO.one tok [6] (by intro C; conv => lhs; simp) (by first | with_reducible exact True.intro | (simp [m5, m6, m7]; omega) | omega | simp | (simp; omega)) rfl ?_
          refine AOpsO.nil ?_
          exact AW.ret ⟨.inr rfl, _, _, by (conv => lhs; simp), trivial, by simp⟩
end Go.Proofs.YtdploelkmlbhnaaDoor
