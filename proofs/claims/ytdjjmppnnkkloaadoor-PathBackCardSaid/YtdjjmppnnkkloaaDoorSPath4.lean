import Derived.Test.YtdjjmppnnkkloaaDoorSPath3
namespace Go.Proofs.YtdjjmppnnkkloaaDoor
open Sy Go
set_option maxRecDepth 100000
set_option linter.unusedSimpArgs false
set_option linter.unusedVariables false
variable {G : Glob}

def addL (l : List Step) (x : Step) (N : Nat → Bool) : Nat → Bool
  | 0 => false
  | q + 1 => match l[q]? with
    | some t => !decide (t.kind = 5) && (N q && oneM t x)
    | none => false
def nxG (l : List Step) (x : Step) (N : Nat → Bool) (i p : Nat) : Bool := (decide (p < i) && (deepAt l p && N p)) || (decide (p ≤ i) && addL l x N p)
def nxF (l : List Step) (x : Step) (N : Nat → Bool) (p : Nat) : Bool := (deepAt l p && N p) || addL l x N p
def goRow (l : List Step) : List Step → (Nat → Bool) → (Nat → Bool)
  | [], N => N
  | x :: to, N => goRow l to (sprF l (nxF l x N))
theorem goRow_snoc (l : List Step) (x : Step) : ∀ (to : List Step) (N : Nat → Bool), goRow l (to ++ [x]) N = sprF l (nxF l x (goRow l to N))
  | [], N => rfl
  | y :: to, N => goRow_snoc l x to _
def matchM (l to : List Step) : Bool := goRow l to (sprF l row0) l.length

theorem nxG_zero (l : List Step) (x : Step) (N : Nat → Bool) (n : Nat) : rowP n (nxG l x N 0) = rowP n fun _ => false := rowP_congr fun p _ => by
  rcases p with _ | p <;> simp [nxG, addL]
theorem nxG_end (l : List Step) (x : Step) (N : Nat → Bool) {i : Nat} (h : l.length ≤ i) : rowP (l.length + 1) (nxG l x N i) = rowP (l.length + 1) (nxF l x N) := rowP_congr fun p hp => by
  by_cases h2 : p < i
  · simp [nxG, nxF, h2, show p ≤ i by omega]
  · have : p = l.length := by omega
    subst this
    simp [nxG, nxF, deepAt, show l.length ≤ i by omega]
theorem nxG_deep {l : List Step} {x t : Step} {N : Nat → Bool} {i n : Nat} (ht : l[i]? = some t) (h : t.kind = 5) : rowP n (fun p => if p = i then nxG l x N i i || N i else nxG l x N i p) = rowP n (nxG l x N (i + 1)) := rowP_congr fun p _ => by
  by_cases h1 : p = i
  · subst h1; simp [nxG, deepAt, ht, h, Bool.or_comm]
  · by_cases h2 : p < i
    · simp [h1, nxG, h2, show p < i + 1 by omega, show p ≤ i by omega, show p ≤ i + 1 by omega]
    · by_cases h3 : p = i + 1
      · subst h3; simp [nxG, addL, ht, h, show ¬ i + 1 < i by omega, show ¬ i + 1 ≤ i by omega]
      · simp [h1, nxG, h2, show ¬ p < i + 1 by omega, show ¬ p ≤ i by omega, show ¬ p ≤ i + 1 by omega]
theorem nxG_lead {l : List Step} {x t : Step} {N : Nat → Bool} {i n : Nat} (ht : l[i]? = some t) (h : ¬ t.kind = 5) : rowP n (fun p => if p = i + 1 then nxG l x N i (i + 1) || (N i && oneM t x) else nxG l x N i p) = rowP n (nxG l x N (i + 1)) := rowP_congr fun p _ => by
  by_cases h3 : p = i + 1
  · subst h3; simp [nxG, addL, ht, h, show ¬ i + 1 < i by omega, show ¬ i + 1 ≤ i by omega]
  · by_cases h1 : p = i
    · subst h1; simp [nxG, deepAt, ht, h]
    · by_cases h2 : p < i
      · simp [h1, h3, nxG, h2, show p < i + 1 by omega, show p ≤ i by omega, show p ≤ i + 1 by omega]
      · simp [h1, h3, nxG, h2, show ¬ p < i + 1 by omega, show ¬ p ≤ i by omega, show ¬ p ≤ i + 1 by omega]

def mS1 (l to : List Step) (a : Nat) (N : Nat → Bool) : St := ⟨[.p (.sl 3 (l.map Step.enc)), .p (.sl 3 (to.map Step.enc)), .ptr 2 0, .dead, .dead, .ms 15, .func (.func 17) [] [.ptr 2 0]] ++ List.replicate 15 .dead ++
    [.p (.sl 3 (to.map Step.enc)), .p (.int .i64 to.length), .p (.int .i64 a)] ++ List.replicate 60 .dead, [], [(15, .row 4 1 (rowP (l.length + 1) N)), (2, .vars 22 [.p (.sl 3 (l.map Step.enc))])], 0⟩
def mS2 (l to : List Step) (a : Nat) (x : Step) (N : Nat → Bool) (i : Nat) : St := ⟨[.p (.sl 3 (l.map Step.enc)), .p (.sl 3 (to.map Step.enc)), .ptr 2 0, .dead, .dead, .ms 15, .func (.func 17) [] [.ptr 2 0], .dead, .ptr 8 0, .ms 31] ++ List.replicate 12 .dead ++
    [.p (.sl 3 (to.map Step.enc)), .p (.int .i64 to.length), .p (.int .i64 a)] ++ List.replicate 7 .dead ++ [.p (.sl 3 (l.map Step.enc)), .p (.int .i64 l.length), .p (.int .i64 i)] ++ List.replicate 50 .dead, [],
    [(31, .row 4 1 (rowP (l.length + 1) (nxG l x N i))), (8, .vars 33 [.p (.int .i64 x.kind), .p (.str x.key), .p (.int .i64 x.n)]), (15, .row 4 1 (rowP (l.length + 1) N)), (2, .vars 22 [.p (.sl 3 (l.map Step.enc))])], 0⟩

theorem match_ev (l to : List Step) (hl : l.length ≤ 1000) (hto : to.length ≤ 1000) : AFn Tryd.prog G 12 [.sl 3 (l.map Step.enc), .sl 3 (to.map Step.enc)] (.bool (matchM l to)) := by
  refine AFn.intro tok Tryd.func12 (by kernel_rfl) rfl ?_
  simp only [Tryd.f12, St.start]
  refine AW.seqRun tok [] (by intro C; conv => lhs; simp) (by simp) ?_ -- r0 {}
  refine AW.seqRun tok [.bool false] (by intro C; conv => lhs; simp) (by omega) ?_ -- r1 {t15:makeSlice}
  refine AW.seqRun tok [.bool false, .bool true] (by intro C; conv => lhs; simp) (by simp) ?_ -- r2 {t17:index; storerow e0 e1}
  refine AW.seqRun tok [] (by intro C; conv => lhs; simp) trivial ?_ -- r3 {}
  refine AW.seqRunX tok 2 [] [] rfl rfl (by intro C; conv => lhs; simp) trivial (y_cx rfl (spread_ev 15 2 l row0 (.inl ⟨rfl, rfl⟩)) (by simp [rep_row]; rfl)) (by intro C; conv => lhs; simp) trivial ?_
  refine AW.seq ?_
  refine AW.seqRun tok [] (by intro C; conv => lhs; simp) trivial ?_ -- r5 {}
  refine AW.block ?_
  -- LOOP
  refine AW.loop (α := Nat) (fun a => a ≤ to.length) (fun a => mS1 l to a (goRow l (to.take a) (sprF l row0))) (fun a => to.length - a) 0 (by omega) ⟨by simp [mS1], rfl, by simp [mS1, goRow], by simp [mS1]⟩ ?_
  intro a hI
  simp only [mS1]
  refine AW.seqRun tok [] (by intro C; conv => lhs; simp) trivial ?_ -- r6 {}
  refine AW.seq ?_
  refine AW.cond (c := .tmp 25) (by conv => lhs; simp) trivial ?_ ?_
  · intro h1
    simp at h1
    obtain ⟨x, hx⟩ : ∃ x, to[a]? = some x := ⟨to[a], by simp [h1]⟩
    have hnext : goRow l (to.take (a + 1)) (sprF l row0) = sprF l (nxF l x (goRow l (to.take a) (sprF l row0))) := by
      rw [List.take_add_one, hx]; exact goRow_snoc l x _ _
    generalize goRow l (to.take a) (sprF l row0) = N at *
    refine AW.skip ?_
    refine AW.seq ?_
    refine AW.block ?_
    refine AW.seqRun tok [x.enc] (by intro C; conv => lhs; simp) (by simp [hx]) ?_ -- r7 {t26:index; t27:load}
    refine AW.seqRun tok [.bool false] (by intro C; conv => lhs; simp) (by omega) ?_ -- r8 {t31:makeSlice}
    refine AW.seq ?_
    refine AW.seqRun tok [] (by intro C; conv => lhs; simp) trivial ?_ -- r9 {}
    refine AW.block ?_
    -- LOOP
    refine AW.loop (α := Nat) (fun i => i ≤ l.length) (fun i => mS2 l to a x N i) (fun i => l.length - i) 0 (by omega) ⟨by simp [mS2], rfl, by simp [mS2, rep_row, nxG_zero], by simp [mS2]⟩ ?_
    intro i hi
    simp only [mS2]
    refine AW.seqRun tok [] (by intro C; conv => lhs; simp) trivial ?_ -- r10 {}
    refine AW.seq ?_
    refine AW.cond (c := .tmp 35) (by conv => lhs; simp) trivial ?_ ?_
    · intro h2
      simp at h2
      obtain ⟨t, ht⟩ : ∃ t, l[i]? = some t := ⟨l[i], by simp [h2]⟩
      refine AW.skip ?_
      refine AW.seq ?_
      refine AW.block ?_
      refine AW.seqRun tok [t.enc] (by intro C; conv => lhs; simp) (by simp [ht]) ?_ -- r11 {t37:index; t38:load}
      refine AW.seq ?_
      refine AW.seqRun tok [] (by intro C; conv => lhs; simp) trivial ?_ -- r12 {}
      refine AW.cond (c := .tmp 41) (by conv => lhs; simp) trivial ?_ ?_
      · intro h3
        simp at h3
        refine AW.seqRun tok [.bool (nxG l x N i i), .bool (N i), .bool (nxG l x N i i), .bool (nxG l x N i i || N i)] (by intro C; conv => lhs; simp) (by simp +contextual [show i < l.length + 1 by omega]) ?_ -- r13 {t46:index; t47:load; t51:index; t52:load; t54:index; storerow e0 e1}
        refine AW.exit ?_ -- exit 3
        simp
        refine AW.run tok [] (by intro C; conv => lhs; simp) (by omega) ?_ -- r15 {}
        exact ⟨i + 1, by omega, by omega, by simp [mS2], rfl, by simp [mS2, nxG_deep ht h3], by simp [mS2]⟩ -- END OF ROUND
      · intro h3
        simp at h3
        refine AW.skip ?_
        refine AW.run tok [.bool (nxG l x N i (i + 1)), .bool (N i), .tup [t.enc, x.enc], .bool (oneM t x), .bool (nxG l x N i (i + 1)), .bool (nxG l x N i (i + 1) || (N i && oneM t x))] (by intro C; conv => lhs; simp) (by have := leads_ev (G := G) t x; simp +contextual [show i < l.length + 1 by omega, h2] at this ⊢; exact ⟨by omega, by omega, fun _ _ => this, by omega⟩) ?_ -- r14 {t61:index; t62:load; t66:index; t67:load; t71:CALL call f22(t69, t70) args,res; t74:index; storerow e0 e1}
        refine AW.run tok [] (by intro C; conv => lhs; simp) (by omega) ?_ -- r15 {}
        exact ⟨i + 1, by omega, by omega, by simp [mS2], rfl, by simp [mS2, nxG_lead ht h3], by simp [mS2]⟩ -- END OF ROUND
    · intro h2
      simp at h2
      rw [nxG_end l x N h2]
      refine AW.exit ?_ -- exit 2
      simp
      refine AW.runX tok 2 [] [] rfl rfl (by intro C; conv => lhs; simp) trivial (y_cx rfl (spread_ev 31 2 l (nxF l x N) (.inr ⟨rfl, rfl⟩)) (by simp)) (by intro C; conv => lhs; simp) trivial ?_ -- r16 {t78:CALL call t76(t77) args,res}
      refine AW.take 31 15 ?_
      refine AW.run tok [] (by intro C; conv => lhs; simp) (by omega) ?_ -- r17 {}
      exact ⟨a + 1, by omega, by omega, by simp [mS1], rfl, by simp [mS1, hnext], by simp [mS1]⟩ -- END OF ROUND
  · intro h1
    simp at h1
    refine AW.exit ?_ -- exit 0
    simp
    refine AW.seqRun tok [.bool (matchM l to)] (by intro C; conv => lhs; simp) (by simp [matchM, List.take_of_length_le h1]) ?_ -- r18 {t83:index; t84:load}
    exact AW.ret ⟨.inr rfl, _, _, by (conv => lhs; simp), trivial, by simp⟩
end Go.Proofs.YtdjjmppnnkkloaaDoor
