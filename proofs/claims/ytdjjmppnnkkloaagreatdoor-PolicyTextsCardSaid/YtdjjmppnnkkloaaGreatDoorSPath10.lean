import Derived.Test.YtdjjmppnnkkloaaGreatDoorSPath9
import Derived.Test.YtdjjmppnnkkloaaGreatDoorSPath5
import Derived.Test.YtdjjmppnnkkloaaGreatDoorSRValid
namespace Go.Proofs.YtdjjmppnnkkloaaGreatDoor
open Sy Go
set_option maxRecDepth 100000
set_option linter.unusedSimpArgs false
set_option linter.unusedVariables false
variable {G : Glob}

def rmKey (t : Step) : Bool := if t.kind = 1 then decide (t.key.length ≤ 24) && validM t.key else decide (t.key = [])
def rmN (t : Step) : Bool := if t.kind = 2 then decide (0 ≤ t.n) && decide (t.n ≤ 9999) else decide (t.n = 0)
def refMayM (t : Step) : Bool := decide (1 ≤ t.kind) && decide (t.kind ≤ 5) && rmKey t && rmN t
def mayS1 (t : Step) : St := ⟨[.dead, .ptr 1 0, .dead, .p (.bool (rmKey t))] ++ List.replicate 44 .dead, [], [(1, .vars 57 [.p (.int .i64 t.kind), .p (.str t.key), .p (.int .i64 t.n)])], 0⟩
def mayS2 (t : Step) : St := ⟨[.dead, .ptr 1 0, .dead, .p (.bool (rmKey t)), .p (.bool (rmN t))] ++ List.replicate 43 .dead, [], [(1, .vars 57 [.p (.int .i64 t.kind), .p (.str t.key), .p (.int .i64 t.n)])], 0⟩
theorem refMay1_ev (t : Step) (hk : t.key.length ≤ 1000000) : AFn Tryz.prog G 65 [t.enc] (.bool (refMayM t)) := by
  refine AFn.intro tok Tryz.func65 (by kernel_rfl) rfl ?_
  simp only [Tryz.f65, St.start]
  have hv := refValid_ev (G := G) t.key (by omega)
  refine AW.seqRun tok [] (by intro C; conv => lhs; simp) (by simp) ?_ -- r0 {}
  refine AW.seqRun tok [] (by intro C; conv => lhs; simp) trivial ?_ -- r1 {}
  refine AW.join (α := Unit) (fun _ => True) (fun _ => mayS1 t) ?_ ?_
  · refine AW.seqRun tok [] (by intro C; conv => lhs; simp) trivial ?_ -- r2 {}
    refine AW.cond (c := .tmp 10) (by conv => lhs; simp) trivial ?_ ?_
    · intro h1
      simp at h1
      refine AW.run tok [.tup [.str t.key], .bool (validM t.key)] (by intro C; conv => lhs; simp) (by simp +contextual [hv]) ?_ -- r3
      exact ⟨(), trivial, by simp [mayS1, rmKey, h1]; congr 1; exact decide_eq_decide.2 (by omega), rfl, by simp [mayS1], by simp [mayS1]⟩
    · intro h1
      simp at h1
      refine AW.skip ?_
      exact ⟨(), trivial, by simp [mayS1, rmKey, h1], rfl, by simp [mayS1], by simp [mayS1]⟩
  · intro _ _
    simp only [mayS1]
    refine AW.seqRun tok [] (by intro C; conv => lhs; simp) trivial ?_ -- r4 {}
    refine AW.join (α := Unit) (fun _ => True) (fun _ => mayS2 t) ?_ ?_
    · refine AW.seqRun tok [] (by intro C; conv => lhs; simp) trivial ?_ -- r5 {}
      refine AW.cond (c := .tmp 25) (by conv => lhs; simp) trivial ?_ ?_
      · intro h2
        simp at h2
        refine AW.run tok [] (by intro C; conv => lhs; simp) (by simp +contextual) ?_ -- r6 {}
        exact ⟨(), trivial, by simp [mayS2, rmN, h2], rfl, by simp [mayS2], by simp [mayS2]⟩
      · intro h2
        simp at h2
        refine AW.skip ?_
        exact ⟨(), trivial, by simp [mayS2, rmN, h2], rfl, by simp [mayS2], by simp [mayS2]⟩
    · intro _ _
      simp only [mayS2]
      refine AW.seqRun tok [] (by intro C; conv => lhs; simp) (by simp +contextual) ?_ -- r7 {}
      exact AW.ret ⟨.inr rfl, _, _, by (conv => lhs; simp), trivial, by simp [refMayM]⟩
def refMayL (l : List Step) : Int := if 8 < l.length then 3 else if l.all refMayM then 0 else 21
theorem refMay_ev (l : List Step) (hk : ∀ t ∈ l, t.key.length ≤ 1000) : AFn Tryz.prog G 24 [.sl 3 (l.map Step.enc)] (.int .i64 (refMayL l)) := by
  refine AFn.intro tok Tryz.func24 (by kernel_rfl) rfl ?_
  simp only [Tryz.f24, St.start]
  refine AW.seqRun tok [] (by intro C; conv => lhs; simp) trivial ?_ -- r0 {}
  refine AW.seq ?_
  refine AW.seqRun tok [] (by intro C; conv => lhs; simp) trivial ?_ -- r1 {}
  refine AW.cond (c := .tmp 6) (by conv => lhs; simp) trivial ?_ ?_
  · intro h1
    simp at h1
    refine AW.seqRun tok [] (by intro C; conv => lhs; simp) trivial ?_ -- r2 {}
    exact AW.ret ⟨.inr rfl, _, _, by (conv => lhs; simp), trivial, by simp [refMayL, show 8 < l.length by omega]⟩
  · intro h1
    simp at h1
    have h8 : ¬ 8 < l.length := by omega
    refine AW.skip ?_
    refine AW.seq ?_
    refine AW.seqRun tok [] (by intro C; conv => lhs; simp) trivial ?_ -- r3 {}
    refine AW.block ?_
    -- LOOP
    refine AW.loop (α := Nat) (fun a => a ≤ l.length ∧ (l.take a).all refMayM = true) (fun a => ⟨[.p (.sl 3 (l.map Step.enc)), .dead, .dead, .p (.int .i64 a)] ++ List.replicate 15 .dead, [], [], 0⟩) (fun a => l.length - a) 0 ⟨by omega, rfl⟩ ⟨by simp, rfl, by simp, by simp⟩ ?_
    rintro a ⟨hI, hall⟩
    refine AW.seq ?_
    refine AW.seqRun tok [] (by intro C; conv => lhs; simp) trivial ?_ -- r4 {}
    refine AW.cond (c := .tmp 10) (by conv => lhs; simp) trivial ?_ ?_
    · intro h2
      simp at h2
      obtain ⟨t, ht⟩ : ∃ t, l[a]? = some t := ⟨l[a], by simp [h2]⟩
      have hM := refMay1_ev (G := G) t (Nat.le_trans (hk t (List.mem_of_getElem? ht)) (by decide))
      simp at hM
      refine AW.skip ?_
      refine AW.seq ?_
      refine AW.block ?_
      refine AW.seqRun tok [t.enc, .tup [t.enc], .bool (refMayM t)] (by intro C; conv => lhs; simp) (by simp [ht, hM]) ?_ -- r6
      refine AW.cond (c := .tmp 18) (by conv => lhs; simp) trivial ?_ ?_
      · intro h3
        simp at h3
        refine AW.seqRun tok [] (by intro C; conv => lhs; simp) trivial ?_ -- r7 {}
        have hno : l.all refMayM = false := by
          rw [List.all_eq_false]
          exact ⟨t, List.mem_of_getElem? ht, by simp [h3]⟩
        exact AW.ret ⟨.inr rfl, _, _, by (conv => lhs; simp), trivial, by simp only [refMayL, hno]; simp [h8]⟩
      · intro h3
        simp at h3
        refine AW.skip ?_
        refine AW.run tok [] (by intro C; conv => lhs; simp) (by omega) ?_ -- r5 {}
        exact ⟨a + 1, ⟨by omega, by rw [List.take_add_one, ht, List.all_append, hall]; simp [h3]⟩, by omega, by simp, rfl, by simp, by simp⟩ -- END OF ROUND
    · intro h2
      simp at h2
      rw [List.take_of_length_le h2] at hall
      refine AW.exit ?_ -- exit 0
      simp
      refine AW.seqRun tok [] (by intro C; conv => lhs; simp) trivial ?_ -- r8 {}
      exact AW.ret ⟨.inr rfl, _, _, by (conv => lhs; simp), trivial, by simp only [refMayL, hall]; simp [h8]⟩
theorem few_len (l : List Step) : (fewM l).length ≤ 12 := by simp [fewM]; omega
theorem few_key (l : List Step) : ∀ t ∈ fewM l, t.key.length ≤ 40 := by
  intro t ht
  obtain ⟨x, _, rfl⟩ := List.mem_map.1 ht
  unfold few1; split
  · simp; omega
  · omega
theorem place_len (l : List Step) : (placeM l).length ≤ 24 := by
  have h0 : ∀ t, (place1 t).length ≤ 2 := by intro t; simp only [place1, List.length_append]; split <;> split <;> simp
  have : ∀ m : List Step, (m.flatMap place1).length ≤ 2 * m.length := by
    intro m
    induction m with
    | nil => simp
    | cons x m ih => have := h0 x; simp only [List.flatMap_cons, List.length_append, List.length_cons]; omega
  have h2 := this (l.take 12)
  have : (l.take 12).length ≤ 12 := by simp; omega
  simp only [placeM]; omega
end Go.Proofs.YtdjjmppnnkkloaaGreatDoor
