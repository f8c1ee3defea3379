import Derived.Test.YtdjjmppnnkkloaaDoorM4
namespace Go.Proofs.YtdjjmppnnkkloaaDoor
open Sy Go
set_option maxRecDepth 100000
set_option linter.unusedSimpArgs false
set_option linter.unusedVariables false
structure Step where
  kind : Int
  key : List UInt8
  n : Int
  deriving DecidableEq
@[simp] def Step.enc (t : Step) : PD := .agg [.int .i64 t.kind, .str t.key, .int .i64 t.n]
variable {G : Glob}

@[simp] def keyM (s : List UInt8) : Step := ⟨1, s, 0⟩
@[simp] theorem key_ev (s : List UInt8) : AFn Tryd.prog G 10 [.str s] (.agg [.int .i64 1, .str s, .int .i64 0]) := by
  refine AFn.intro tok Tryd.func10 (by kernel_rfl) rfl ?_
  simp only [Tryd.f10, St.start]
  refine AW.seqRun tok [] (by intro C; conv => lhs; simp) (by simp) ?_ -- r0 {}
  refine AW.seqRun tok [] (by intro C; conv => lhs; simp) (by simp) ?_ -- r1 {}
  exact AW.ret ⟨.inr rfl, _, _, by (conv => lhs; simp), trivial, by simp⟩
@[simp] def atM (n : Int) : Step := ⟨2, [], n⟩
@[simp] theorem at_ev (n : Int) : AFn Tryd.prog G 11 [.int .i64 n] (.agg [.int .i64 2, .str [], .int .i64 n]) := by
  refine AFn.intro tok Tryd.func11 (by kernel_rfl) rfl ?_
  simp only [Tryd.f11, St.start]
  refine AW.seqRun tok [] (by intro C; conv => lhs; simp) (by simp) ?_ -- r0 {}
  refine AW.seqRun tok [] (by intro C; conv => lhs; simp) (by simp) ?_ -- r1 {}
  exact AW.ret ⟨.inr rfl, _, _, by (conv => lhs; simp), trivial, by simp⟩
def oneM (t x : Step) : Bool := if t.kind = 3 then x.kind = 1 else if t.kind = 4 then x.kind = 2 else t.kind = x.kind ∧ t.key = x.key ∧ t.n = x.n
theorem leads_ev (t x : Step) : AFn Tryd.prog G 18 [t.enc, x.enc] (.bool (oneM t x)) := by
  refine AFn.intro tok Tryd.func18 (by kernel_rfl) rfl ?_
  simp only [Tryd.f18, St.start]
  refine AW.seqRun tok [] (by intro C; conv => lhs; simp) (by simp) ?_ -- r0 {}
  refine AW.seq ?_
  refine AW.seqRun tok [] (by intro C; conv => lhs; simp) trivial ?_ -- r1 {}
  refine AW.block ?_
  refine AW.seqRun tok [] (by intro C; conv => lhs; simp) trivial ?_ -- r2 {}
  refine AW.cond (c := .tmp 7) (by conv => lhs; simp) trivial ?_ ?_
  · intro h1
    simp at h1
    refine AW.seqRun tok [] (by intro C; conv => lhs; simp) trivial ?_ -- r3 {}
    exact AW.ret ⟨.inr rfl, _, _, by (conv => lhs; simp), trivial, by simp [oneM, h1]⟩
  · intro h1
    simp at h1
    refine AW.seqRun tok [] (by intro C; conv => lhs; simp) trivial ?_ -- r4 {}
    refine AW.cond (c := .tmp 12) (by conv => lhs; simp) trivial ?_ ?_
    · intro h2
      simp at h2
      refine AW.seqRun tok [] (by intro C; conv => lhs; simp) trivial ?_ -- r5 {}
      exact AW.ret ⟨.inr rfl, _, _, by (conv => lhs; simp), trivial, by simp [oneM, h1, h2]⟩
    · intro h2
      simp at h2
      refine AW.skip ?_
      refine AW.seqRun tok [] (by intro C; conv => lhs; simp) trivial ?_ -- r6 {}
      exact AW.ret ⟨.inr rfl, _, _, by (conv => lhs; simp), trivial, by simp [oneM, h1, h2]⟩

def few1 (t : Step) : Step := if t.key.length > 40 then { t with key := t.key.take 40 } else t
def fewM (l : List Step) : List Step := (l.take 12).map few1
def loopS (l : List Step) (k : Nat) (out : List Step) : St := ⟨[.p (.sl 3 (l.map Step.enc)), .dead, .dead, .ms 6, .p (.int .i64 k)] ++ List.replicate 29 .dead, [], [(6, .row 33 3 (out.map Step.enc))], 0⟩
theorem few_ev (l : List Step) : AFn Tryd.prog G 5 [.sl 3 (l.map Step.enc)] (.sl 3 ((fewM l).map Step.enc)) := by
  refine AFn.intro tok Tryd.func5 (by kernel_rfl) rfl ?_
  simp only [Tryd.f5, St.start]
  refine AW.seqRun tok [] (by intro C; conv => lhs; simp) trivial ?_
  refine AW.seqRun tok [] (by intro C; conv => lhs; simp) (by simp) ?_
  refine AW.seq ?_
  refine AW.seqRun tok [] (by intro C; conv => lhs; simp) (by simp) ?_
  refine AW.block ?_
  refine AW.loop (α := Nat) (fun k => k ≤ l.length ∧ k ≤ 12) (fun a => loopS l a ((fewM l).take a)) (fun a => l.length - a) 0 (by omega) ?_ ?_
  · refine ⟨by simp [loopS], rfl, by simp [loopS], by simp [loopS]⟩
  rintro k ⟨hk, hk2⟩
  simp only [loopS]
  refine AW.seq (AW.seq (AW.run tok [] (by intro C; conv => lhs; simp) trivial ?_))
  refine AW.cond (c := .tmp 14) (by conv => lhs; simp) trivial ?_ ?_
  · intro h
    simp at h
    obtain ⟨t, ht⟩ : ∃ t, l[k]? = some t := ⟨l[k], by simp [h.1]⟩
    have hst : (fewM l).take (k + 1) = (fewM l).take k ++ [few1 t] := by
      have : (fewM l)[k]? = some (few1 t) := by simp [fewM, List.getElem?_take, show k < 12 by omega, ht]
      rw [List.take_add_one, this]; rfl
    refine AW.skip (AW.seq (AW.block ?_))
    refine AW.seqRun tok [Step.enc t] (by intro C; conv => lhs; simp) (by simp [ht]) ?_
    refine AW.seq (AW.seqRun tok [] (by intro C; conv => lhs; simp) trivial ?_)
    refine AW.cond (c := .tmp 24) (by conv => lhs; simp) trivial ?_ ?_
    · intro h2
      simp at h2
      refine AW.run tok [] (by intro C; conv => lhs; simp) (by omega) ?_
      refine AW.run tok [.agg [.int .i64 t.kind, .str (t.key.take 40), .int .i64 t.n]] (by intro C; conv => lhs; simp) (by simp_all <;> omega) ?_
      refine AW.run tok [] (by intro C; conv => lhs; simp) (by omega) ?_
      refine ⟨k + 1, by omega, by omega, ?_⟩
      refine ⟨by simp [loopS], rfl, ?_, by simp [loopS]⟩
      have hlt : 40 < t.key.length := by omega
      simp [loopS, hst, few1, hlt]
    · intro h2
      simp at h2
      refine AW.skip ?_
      refine AW.run tok [Step.enc t] (by intro C; conv => lhs; simp) (by simp_all <;> omega) ?_
      refine AW.run tok [] (by intro C; conv => lhs; simp) (by omega) ?_
      refine ⟨k + 1, by omega, by omega, ?_⟩
      refine ⟨by simp [loopS], rfl, ?_, by simp [loopS]⟩
      have hlt : ¬ 40 < t.key.length := by omega
      simp [loopS, hst, few1, hlt]
  · intro h
    simp at h
    refine AW.exit ?_
    simp
    refine AW.seqRun tok [] (by intro C; conv => lhs; simp) trivial ?_
    refine AW.ret ⟨.inr rfl, ?_⟩
    have hk3 : (fewM l).take k = fewM l := by
      apply List.take_of_length_le; simp [fewM]; omega
    rw [← List.map_take, hk3]
    exact ⟨_, _, by (conv => lhs; simp), trivial, by simp⟩

def place1 (t : Step) : List Step := (if t.kind = 1 then [keyM t.key] else []) ++ (if t.kind = 2 ∧ 0 ≤ t.n then [atM t.n] else [])
def placeM (l : List Step) : List Step := (l.take 12).flatMap place1
def placeS (l : List Step) (k : Nat) (out : List Step) : St := ⟨[.p (.sl 3 (l.map Step.enc)), .dead, .dead, .ms 6, .p (.int .i64 k)] ++ List.replicate 40 .dead, [], [(6, .row 33 3 (out.map Step.enc))], 0⟩
end Go.Proofs.YtdjjmppnnkkloaaDoor
