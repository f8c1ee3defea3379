import Derived.Test.YtdjjmppnnkkloaaGreatDoorSPath3
namespace Go.Proofs.YtdjjmppnnkkloaaGreatDoor
open Sy Go
set_option maxRecDepth 100000
set_option linter.unusedSimpArgs false
set_option linter.unusedVariables false
variable {G : Glob}
def addL (l : List Step) (x : Step) (N : Nat → Bool) : Nat → Bool
 | 0 => false
 | q + 1 => match l[q]? with
  | some t => !decide (t.kind = 5) && (N q && ledM t x)
  | none => false
def nxG (l : List Step) (x : Step) (N : Nat → Bool) (i p : Nat) : Bool := (decide (p < i) && (deepAt l p && N p)) || (decide (p ≤ i) && addL l x N p)
def nxF (l : List Step) (x : Step) (N : Nat → Bool) (p : Nat) : Bool := (deepAt l p && N p) || addL l x N p
def goRow (l : List Step) : List Step → (Nat → Bool) → (Nat → Bool)
 | [], N => N
 | x :: tw, N => goRow l tw (sprF l (nxF l x N))
theorem goRow_snoc (l : List Step) (x : Step) : ∀ (tw : List Step) (N : Nat → Bool), goRow l (tw ++ [x]) N = sprF l (nxF l x (goRow l tw N))
 | [], N => rfl
 | y :: tw, N => goRow_snoc l x tw _
def matchM (l tw : List Step) : Bool := goRow l tw (sprF l row0) l.length
theorem nxG_zero (l : List Step) (x : Step) (N : Nat → Bool) (n : Nat) : rowP n (nxG l x N 0) = rowP n fun _ => false := rowP_congr fun p _ => by
 rcases p with _ | p <;> simp [nxG, addL]
theorem nxG_end (l : List Step) (x : Step) (N : Nat → Bool) {i : Nat} (h : l.length ≤ i) : rowP (l.length + 1) (nxG l x N i) = rowP (l.length + 1) (nxF l x N) := rowP_congr fun p hp => by
 by_cases h2 : p < i
 ·simp [nxG, nxF, h2, show p ≤ i by omega]
 ·have : p = l.length := by omega
  subst this
  simp [nxG, nxF, deepAt, show l.length ≤ i by omega]
theorem nxG_deep {l : List Step} {x t : Step} {N : Nat → Bool} {i n : Nat} (ht : l[i]? = some t) (h : t.kind = 5) : rowP n (fun p => if p = i then nxG l x N i i || N i else nxG l x N i p) = rowP n (nxG l x N (i + 1)) := rowP_congr fun p _ => by
 by_cases h1 : p = i
 ·subst h1; simp [nxG, deepAt, ht, h, Bool.or_comm]
 ·by_cases h2 : p < i
  ·simp [h1, nxG, h2, show p < i + 1 by omega, show p ≤ i by omega, show p ≤ i + 1 by omega]
  ·by_cases h3 : p = i + 1
   ·subst h3; simp [nxG, addL, ht, h, show ¬ i + 1 < i by omega, show ¬ i + 1 ≤ i by omega]
   ·simp [h1, nxG, h2, show ¬ p < i + 1 by omega, show ¬ p ≤ i by omega, show ¬ p ≤ i + 1 by omega]
theorem nxG_lead {l : List Step} {x t : Step} {N : Nat → Bool} {i n : Nat} (ht : l[i]? = some t) (h : ¬ t.kind = 5) : rowP n (fun p => if p = i + 1 then nxG l x N i (i + 1) || (N i && ledM t x) else nxG l x N i p) = rowP n (nxG l x N (i + 1)) := rowP_congr fun p _ => by
 by_cases h3 : p = i + 1
 ·subst h3; simp [nxG, addL, ht, h, show ¬ i + 1 < i by omega, show ¬ i + 1 ≤ i by omega]
 ·by_cases h1 : p = i
  ·subst h1; simp [nxG, deepAt, ht, h]
  ·by_cases h2 : p < i
   ·simp [h1, h3, nxG, h2, show p < i + 1 by omega, show p ≤ i by omega, show p ≤ i + 1 by omega]
   ·simp [h1, h3, nxG, h2, show ¬ p < i + 1 by omega, show ¬ p ≤ i by omega, show ¬ p ≤ i + 1 by omega]
def mS1 (l tw : List Step) (a : Nat) (N : Nat → Bool) : St := ⟨[.p (.sl 3 (l.map Step.enc)), .p (.sl 3 (tw.map Step.enc)), .ptr 2 0, .dead, .dead, .ms 15, .func (.func 95) [] [.ptr 2 0]] ++ List.replicate 15 .dead ++
  [.p (.sl 3 (tw.map Step.enc)), .p (.int .i64 tw.length), .p (.int .i64 a)] ++ List.replicate 60 .dead, [], [(15, .row 4 1 (rowP (l.length + 1) N)), (2, .vars 52 [.p (.sl 3 (l.map Step.enc))])], 0⟩
def mS2 (l tw : List Step) (a : Nat) (x : Step) (N : Nat → Bool) (i : Nat) : St := ⟨[.p (.sl 3 (l.map Step.enc)), .p (.sl 3 (tw.map Step.enc)), .ptr 2 0, .dead, .dead, .ms 15, .func (.func 95) [] [.ptr 2 0], .dead, .ptr 8 0, .ms 31] ++ List.replicate 12 .dead ++
  [.p (.sl 3 (tw.map Step.enc)), .p (.int .i64 tw.length), .p (.int .i64 a)] ++ List.replicate 7 .dead ++ [.p (.sl 3 (l.map Step.enc)), .p (.int .i64 l.length), .p (.int .i64 i)] ++ List.replicate 50 .dead, [],
  [(31, .row 4 1 (rowP (l.length + 1) (nxG l x N i))), (8, .vars 57 [.p (.int .i64 x.kind), .p (.str x.key), .p (.int .i64 x.n)]), (15, .row 4 1 (rowP (l.length + 1) N)), (2, .vars 52 [.p (.sl 3 (l.map Step.enc))])], 0⟩
theorem match_ev (l tw : List Step) (hl : l.length ≤ 1000) (hto : tw.length ≤ 1000) : AFn Tryz.prog G 64 [.sl 3 (l.map Step.enc), .sl 3 (tw.map Step.enc)] (.bool (matchM l tw)) := by
 refine AFn.intro tok Tryz.func64 (by kernel_rfl) rfl ?_
 simp only [Tryz.f64, St.start]
 refine AW.seqRun tok [] (by intro C; conv => lhs; simp) (by simp) ?_
 refine AW.seqRun tok [.bool false] (by intro C; conv => lhs; simp) (by omega) ?_
 refine AW.seqRun tok [.bool false, .bool true] (by intro C; conv => lhs; simp) (by simp) ?_
 refine AW.seqRun tok [] (by intro C; conv => lhs; simp) trivial ?_
 refine AW.seqRunX tok 2 [] [] rfl rfl (by intro C; conv => lhs; simp) trivial (y_cx rfl (spread_ev 15 2 l row0 (.inl ⟨rfl, rfl⟩)) (by simp [rep_row]; rfl)) (by intro C; conv => lhs; simp) trivial ?_
 refine AW.seq ?_
 refine AW.seqRun tok [] (by intro C; conv => lhs; simp) trivial ?_
 refine AW.block ?_
 refine AW.loop (α := Nat) (fun a => a ≤ tw.length) (fun a => mS1 l tw a (goRow l (tw.take a) (sprF l row0))) (fun a => tw.length - a) 0 (by omega) ⟨by simp [mS1], rfl, by simp [mS1, goRow], by simp [mS1]⟩ ?_
 intro a hI
 simp only [mS1]
 refine AW.seqRun tok [] (by intro C; conv => lhs; simp) trivial ?_
 refine AW.seq ?_
 refine AW.cond (c := .tmp 25) (by conv => lhs; simp) trivial ?_ ?_
 ·intro h1
  simp at h1
  obtain ⟨x, hx⟩ : ∃ x, tw[a]? = some x := ⟨tw[a], by simp [h1]⟩
  have hnext : goRow l (tw.take (a + 1)) (sprF l row0) = sprF l (nxF l x (goRow l (tw.take a) (sprF l row0))) := by
   rw [List.take_add_one, hx]; exact goRow_snoc l x _ _
  generalize goRow l (tw.take a) (sprF l row0) = N at *
  refine AW.skip ?_
  refine AW.seq ?_
  refine AW.block ?_
  refine AW.seqRun tok [x.enc] (by intro C; conv => lhs; simp) (by simp [hx]) ?_
  refine AW.seqRun tok [.bool false] (by intro C; conv => lhs; simp) (by omega) ?_
  refine AW.seq ?_
  refine AW.seqRun tok [] (by intro C; conv => lhs; simp) trivial ?_
  refine AW.block ?_
  refine AW.loop (α := Nat) (fun i => i ≤ l.length) (fun i => mS2 l tw a x N i) (fun i => l.length - i) 0 (by omega) ⟨by simp [mS2], rfl, by simp [mS2, rep_row, nxG_zero], by simp [mS2]⟩ ?_
  intro i hi
  simp only [mS2]
  refine AW.seqRun tok [] (by intro C; conv => lhs; simp) trivial ?_
  refine AW.seq ?_
  refine AW.cond (c := .tmp 35) (by conv => lhs; simp) trivial ?_ ?_
  ·intro h2
   simp at h2
   obtain ⟨t, ht⟩ : ∃ t, l[i]? = some t := ⟨l[i], by simp [h2]⟩
   refine AW.skip ?_
   refine AW.seq ?_
   refine AW.block ?_
   refine AW.seqRun tok [t.enc] (by intro C; conv => lhs; simp) (by simp [ht]) ?_
   refine AW.seq ?_
   refine AW.seqRun tok [] (by intro C; conv => lhs; simp) trivial ?_
   refine AW.cond (c := .tmp 41) (by conv => lhs; simp) trivial ?_ ?_
   ·intro h3
    simp at h3
    refine AW.seqRun tok [.bool (nxG l x N i i), .bool (N i), .bool (nxG l x N i i), .bool (nxG l x N i i || N i)] (by intro C; conv => lhs; simp) (by simp +contextual [show i < l.length + 1 by omega]) ?_
    refine AW.exit ?_
    simp
    refine AW.run tok [] (by intro C; conv => lhs; simp) (by omega) ?_
    exact ⟨i + 1, by omega, by omega, by simp [mS2], rfl, by simp [mS2, nxG_deep ht h3], by simp [mS2]⟩
   ·intro h3
    simp at h3
    refine AW.skip ?_
    refine AW.run tok [.bool (nxG l x N i (i + 1)), .bool (N i), .tup [t.enc, x.enc], .bool (ledM t x), .bool (nxG l x N i (i + 1)), .bool (nxG l x N i (i + 1) || (N i && ledM t x))] (by intro C; conv => lhs; simp) (by have := leads_ev (G := G) t x; simp +contextual [show i < l.length + 1 by omega, h2] at this ⊢; exact ⟨by omega, by omega, fun _ _ => this, by omega⟩) ?_
    refine AW.run tok [] (by intro C; conv => lhs; simp) (by omega) ?_
    exact ⟨i + 1, by omega, by omega, by simp [mS2], rfl, by simp [mS2, nxG_lead ht h3], by simp [mS2]⟩
  ·intro h2
   simp at h2
   rw [nxG_end l x N h2]
   refine AW.exit ?_
   simp
   refine AW.runX tok 2 [] [] rfl rfl (by intro C; conv => lhs; simp) trivial (y_cx rfl (spread_ev 31 2 l (nxF l x N) (.inr ⟨rfl, rfl⟩)) (by simp)) (by intro C; conv => lhs; simp) trivial ?_
   refine AW.take 31 15 ?_
   refine AW.run tok [] (by intro C; conv => lhs; simp) (by omega) ?_
   exact ⟨a + 1, by omega, by omega, by simp [mS1], rfl, by simp [mS1, hnext], by simp [mS1]⟩
 ·intro h1
  simp at h1
  refine AW.exit ?_
  simp
  refine AW.seqRun tok [.bool (matchM l tw)] (by intro C; conv => lhs; simp) (by simp [matchM, List.take_of_length_le h1]) ?_
  exact AW.ret ⟨.inr rfl, _, _, by (conv => lhs; simp), trivial, by simp⟩
end Go.Proofs.YtdjjmppnnkkloaaGreatDoor
