import Derived.Test.YtdjjmppnnkkloaaDoorSPath1
namespace Go.Proofs.YtdjjmppnnkkloaaDoor
open Sy Go
set_option maxRecDepth 100000
set_option linter.unusedSimpArgs false
set_option linter.unusedVariables false
variable {G : Glob}

def deepAt (l : List Step) (i : Nat) : Bool := match l[i]? with
  | some t => decide (t.kind = 5)
  | none => false
def sprF (l : List Step) (F : Nat → Bool) : Nat → Bool
  | 0 => F 0
  | i + 1 => F (i + 1) || (sprF l F i && deepAt l i)
def sprG (l : List Step) (F : Nat → Bool) (k : Nat) (i : Nat) : Bool := if i ≤ k then sprF l F i else F i

theorem sprG_zero (l : List Step) (F : Nat → Bool) (n : Nat) : rowP n (sprG l F 0) = rowP n F := rowP_congr fun i _ => by
  simp only [sprG]; split
  · rename_i h; have : i = 0 := by omega
    subst this; rfl
  · rfl
theorem sprG_step {l : List Step} {F : Nat → Bool} {n a : Nat} {t : Step} (ht : l[a]? = some t) :
    rowP n (fun k => if k = a + 1 then sprG l F a (a + 1) || (sprG l F a a && decide (t.kind = 5)) else sprG l F a k) = rowP n (sprG l F (a + 1)) := rowP_congr fun i _ => by
  by_cases h : i = a + 1
  · subst h; simp [sprG, sprF, deepAt, ht, show ¬ a + 1 ≤ a by omega]
  · simp only [h, if_false, sprG]
    by_cases h2 : i ≤ a
    · simp [h2, show i ≤ a + 1 by omega]
    · simp [h2, show ¬ i ≤ a + 1 by omega]
theorem sprG_end (l : List Step) (F : Nat → Bool) (a : Nat) (h : l.length ≤ a) : rowP (l.length + 1) (sprG l F a) = rowP (l.length + 1) (sprF l F) := rowP_congr fun i hi => by
  simp [sprG, show i ≤ a by omega]

def sprS (i j : Nat) (l : List Step) (F : Nat → Bool) (k : Nat) : St := ⟨[.ms i, .ptr j 0, .dead, .dead, .dead, .dead, .p (.sl 3 (l.map Step.enc)), .p (.int .i64 l.length), .p (.int .i64 k)] ++ List.replicate 26 .dead, [i, j],
  [(i, .row 4 1 (rowP (l.length + 1) (sprG l F k))), (j, .vars 22 [.p (.sl 3 (l.map Step.enc))])], 1000⟩
theorem spread_ev (i j : Nat) (l : List Step) (F : Nat → Bool) (hij : i = 15 ∧ j = 2 ∨ i = 31 ∧ j = 2) : AX Tryd.prog G 17 [.ms i, .ptr j 0] [(i, .row 4 1 (rowP (l.length + 1) F)), (j, .vars 22 [.p (.sl 3 (l.map Step.enc))])] (.ms i) [i, j]
    [(i, .row 4 1 (rowP (l.length + 1) (sprF l F))), (j, .vars 22 [.p (.sl 3 (l.map Step.enc))])] := by
  refine AX.intro tok 1000 Tryd.func17 (by kernel_rfl) rfl ?_
  simp only [Tryd.f17, St.startX]
  rcases hij with ⟨rfl, rfl⟩ | ⟨rfl, rfl⟩
  all_goals
    refine AW.seqRun tok [] (by intro C; conv => lhs; simp) trivial ?_ -- r0 {}
    refine AW.seq ?_
    refine AW.seqRun tok [] (by intro C; conv => lhs; simp) trivial ?_ -- r1 {}
    refine AW.slFact (i := 6) rfl ?_
    intro hlen
    refine AW.block ?_
    -- LOOP
    refine AW.loop (α := Nat) (fun a => a ≤ l.length) (fun a => sprS _ _ l F a) (fun a => l.length - a) 0 (by omega) ⟨by simp [sprS], rfl, by simp [sprS, sprG_zero], by simp [sprS]⟩ ?_
    intro a hI
    simp only [sprS]
    refine AW.seqRun tok [] (by intro C; conv => lhs; simp) trivial ?_ -- r2 {}
    refine AW.seq ?_
    refine AW.cond (c := .tmp 9) (by conv => lhs; simp) trivial ?_ ?_
    · intro h1
      simp at h1
      obtain ⟨t, ht⟩ : ∃ t, l[a]? = some t := ⟨l[a], by simp [h1]⟩
      refine AW.skip ?_
      refine AW.seq ?_
      refine AW.block ?_
      refine AW.seqRun tok [t.enc] (by intro C; conv => lhs; simp) (by simp [ht]) ?_ -- r3 {t11:index; t12:load}
      refine AW.run tok [.bool (sprG l F a (a + 1)), .bool (sprG l F a a), .bool (sprG l F a (a + 1)), .bool (sprG l F a (a + 1) || (sprG l F a a && decide (t.kind = 5)))] (by intro C; conv => lhs; simp) (by simp +contextual [h1, show a < l.length + 1 by omega]; simp at hlen; omega) ?_ -- r4 {t19:index; t20:load; t24:index; t25:load; t32:index; storerow e0 e1}
      refine AW.run tok [] (by intro C; conv => lhs; simp) (by simp at hlen; omega) ?_ -- r5 {}
      exact ⟨a + 1, by omega, by omega, by simp [sprS], rfl, by simp [sprS, sprG_step ht], by simp [sprS]⟩ -- END OF ROUND
    · intro h1
      simp at h1
      refine AW.exit ?_ -- exit 0
      simp
      refine AW.seqRun tok [] (by intro C; conv => lhs; simp) trivial ?_ -- r6 {}
      exact AW.ret ⟨.inr rfl, _, _, by (conv => lhs; simp), trivial, by simp, by simp, by simp [sprG_end l F a (by omega)], by simp⟩
end Go.Proofs.YtdjjmppnnkkloaaDoor
