import Derived.Test.YtdjjmppnnkkloaaGreatDoorK1
import Derived.Test.YtdjjmppnnkkloaaGreatDoorK2
namespace Go.Proofs.YtdjjmppnnkkloaaGreatDoor
open Sy Go
set_option maxRecDepth 100000
set_option linter.unusedSimpArgs false
set_option linter.unusedVariables false
variable {G : Glob}

/-- What the parser meets, step by step. -/
def ParseOK (G : Glob) : List UInt8 → List Step → Prop
  | rest, [] => rest = []
  | rest, t :: ts => rest ≠ [] ∧ AFn Tryz.prog G 104 [.str rest] t.enc ∧ AFn Tryz.prog G 105 [t.enc] (.bool true) ∧ ∃ w, AFn Tryz.prog G 85 [t.enc] (.str w) ∧ hasPre rest w = true ∧ ParseOK G (rest.drop w.length) ts
def pS (rest : List UInt8) (l : List Step) : St := ⟨[.dead, .dead, .nilsl, .p (.int .i64 0), .p (.str rest), .p (.bool true), .ms 33] ++ List.replicate 35 .dead, [], [(33, .row 57 3 (l.map Step.enc))], 0⟩
theorem pathParse_ev (rest : List UInt8) (ts : List Step) (h : ParseOK G rest ts) (hts : ts.length ≤ 8) : AFn Tryz.prog G 72 [.str (36 :: rest)] (.tup [.sl 3 (ts.map Step.enc), .int .i64 0]) := by
  refine AFn.intro tok Tryz.func72 (by kernel_rfl) rfl ?_
  simp only [Tryz.f72, St.start]
  have hp36 : hasPre (36 :: rest) [36] = true := by simp [hasPre]
  have hc36 : cutPre (36 :: rest) [36] = rest := by simp [cutPre, hp36]
  refine AW.seqRun tok [] (by intro C; conv => lhs; simp) trivial ?_ -- r0 {}
  refine AW.seqRun tok [.tup [.str (36 :: rest), .str [36]], .tup [.str rest, .bool true]] (by intro C; conv => lhs; simp) (by have := CutPrefix_ev (G := G) (36 :: rest) [36]; rw [hp36, hc36] at this; simpa using this) ?_ -- r1
  refine AW.seqRun tok [] (by intro C; conv => lhs; simp) trivial ?_ -- r2 {}
  refine AW.begin (d := 6) (id := 33) 57 3 rfl (by simp) ?_
  simp
  refine AW.seq ?_
  refine AW.block ?_
  -- LOOP
  refine AW.loop (α := List UInt8 × List Step × List Step) (fun a => ParseOK G a.1 a.2.2 ∧ a.2.1 ++ a.2.2 = ts) (fun a => pS a.1 a.2.1) (fun a => a.2.2.length) (rest, [], ts) ⟨h, rfl⟩ ⟨by simp [pS], rfl, by simp [pS], by simp [pS]⟩ ?_
  rintro ⟨r, done, todo⟩ ⟨hI, hall⟩
  simp only at hI hall
  simp only [pS]
  refine AW.seq ?_
  refine AW.seqRun tok [] (by intro C; conv => lhs; simp) (by simp) ?_ -- r3 {}
  refine AW.cond (c := .tmp 17) (by conv => lhs; simp) trivial ?_ ?_
  · intro h1
    cases todo with
    | nil => simp [ParseOK] at hI; simp [hI] at h1
    | cons t todo =>
    obtain ⟨hne, hg, hs, w, hw, hpre, hrest⟩ := hI
    have hcut : cutPre r w = r.drop w.length := by simp [cutPre, hpre]
    have hC := CutPrefix_ev (G := G) r w
    rw [hpre, hcut] at hC
    simp at hg hs hw
    have hlen : done.length ≤ 8 := by rw [← hall] at hts; simp at hts; omega
    refine AW.skip ?_
    refine AW.block ?_
    refine AW.seqRun tok [.tup [.str r], t.enc] (by intro C; conv => lhs; simp) (by simp [hg]) ?_ -- r4 {t19:CALL call f26(t18) args,res}
    refine AW.seqRun tok [.tup [t.enc], .bool true] (by intro C; conv => lhs; simp) (by simp [hs]) ?_ -- r5 {t21:CALL call f24(t20) args,res}
    refine AW.seqRun tok [] (by intro C; conv => lhs; simp) trivial ?_ -- r6 {}
    refine AW.cond (c := .tmp 22) (by conv => lhs; simp) trivial ?_ ?_
    · intro h2
      refine AW.seqRun tok [.tup [t.enc], .str w, .tup [.str r, .str w], .tup [.str (r.drop w.length), .bool true]] (by intro C; conv => lhs; simp) (by simp [hw, hC]) ?_ -- r7
      refine AW.run tok [t.enc] (by intro C; conv => lhs; simp) (by omega) ?_ -- r8 {t32:buildSlice}
      exact ⟨(r.drop w.length, done ++ [t], todo), ⟨hrest, by simpa using hall⟩, by simp, by simp [pS], rfl, by simp [pS], by simp [pS]⟩ -- END OF ROUND
    · intro h2
      simp at h2
  · intro h1
    simp at h1
    have htodo : todo = [] := by
      cases todo with
      | nil => rfl
      | cons t todo => exact (hI.1 h1).elim
    subst htodo
    simp at hall
    subst hall
    refine AW.exit ?_ -- exit 0
    simp
    refine AW.seq ?_
    refine AW.block ?_
    refine AW.seqRun tok [] (by intro C; conv => lhs; simp) trivial ?_ -- r9 {}
    refine AW.cond (c := .tmp 34) (by conv => lhs; simp) trivial ?_ ?_
    · intro h2
      simp at h2
    · intro h2
      refine AW.seqRun tok [] (by intro C; conv => lhs; simp) trivial ?_ -- r11 {}
      refine AW.cond (c := .tmp 37) (by conv => lhs; simp) trivial ?_ ?_
      · intro h3
        simp at h3
        omega
      · intro h3
        refine AW.skip ?_
        refine AW.seqRun tok [] (by intro C; conv => lhs; simp) trivial ?_ -- r13 {}
        exact AW.ret ⟨.inr rfl, _, _, by (conv => lhs; simp), trivial, by simp⟩

/-- What the printer writes, step by step. -/
def PrintOK (G : Glob) : List Step → List UInt8 → Prop
  | [], s => s = []
  | t :: ts, s => ∃ w r, s = w ++ r ∧ w.length ≤ 1000 ∧ AFn Tryz.prog G 85 [t.enc] (.str w) ∧ PrintOK G ts r
def prS (all : List Step) (a : Nat) (out : List UInt8) : St := ⟨[.dead, .dead, .dead, .p (.str (36 :: out)), .dead, .dead, .p (.sl 3 (all.map Step.enc)), .p (.int .i64 all.length), .p (.int .i64 a)] ++ List.replicate 9 .dead, [], [], 0⟩
theorem Print_ev (l : List Step) (s : List UInt8) (h : PrintOK G l s) (hl : l.length ≤ 100) : AFn Tryz.prog G 50 [.sl 3 (l.map Step.enc)] (.str (36 :: s)) := by
  refine AFn.intro tok Tryz.func50 (by kernel_rfl) rfl ?_
  simp only [Tryz.f50, St.start]
  refine AW.seqRun tok [] (by intro C; conv => lhs; simp) trivial ?_ -- r0 {}
  refine AW.seqRun tok [] (by intro C; conv => lhs; simp) trivial ?_ -- r1 {}
  refine AW.seq ?_
  refine AW.seqRun tok [] (by intro C; conv => lhs; simp) trivial ?_ -- r2 {}
  refine AW.block ?_
  -- LOOP
  refine AW.loop (α := List UInt8 × List UInt8 × List Step × List Step) (fun a => PrintOK G a.2.2.2 a.2.1 ∧ a.1 ++ a.2.1 = s ∧ a.2.2.1 ++ a.2.2.2 = l ∧ a.1.length ≤ 1000 * a.2.2.1.length) (fun a => prS l a.2.2.1.length a.1) (fun a => a.2.2.2.length)
    ([], s, [], l) ⟨h, rfl, rfl, by simp⟩ ⟨by simp [prS], rfl, by simp [prS], by simp [prS]⟩ ?_
  rintro ⟨out, rs, done, todo⟩ ⟨hI, hs, hall, hlen⟩
  simp only at hI hs hall hlen
  simp only [prS]
  refine AW.seqRun tok [] (by intro C; conv => lhs; simp) trivial ?_ -- r3 {}
  refine AW.seq ?_
  refine AW.cond (c := .tmp 9) (by conv => lhs; simp) trivial ?_ ?_
  · intro h1
    simp at h1
    cases todo with
    | nil => subst hall; simp at h1
    | cons t todo =>
    obtain ⟨w, r, rfl, hwl, hw, hrest⟩ := hI
    have hget : l[done.length]? = some t := by rw [← hall]; simp
    have hdl : done.length ≤ 100 := by omega
    simp at hw
    refine AW.skip ?_
    refine AW.seq ?_
    refine AW.block ?_
    refine AW.seqRun tok [t.enc] (by intro C; conv => lhs; simp) (by simp [hget]) ?_ -- r4 {t10:index; t11:load}
    refine AW.run tok [.tup [t.enc], .str w] (by intro C; conv => lhs; simp) (by simp [hw]; omega) ?_ -- r5 {t14:CALL call f27(t13) args,res}
    refine AW.run tok [] (by intro C; conv => lhs; simp) (by omega) ?_ -- r6 {}
    exact ⟨(out ++ w, r, done ++ [t], todo), ⟨hrest, by simpa using hs, by simpa using hall, by simp; omega⟩, by simp, by simp [prS], rfl, by simp [prS], by simp [prS]⟩ -- END OF ROUND
  · intro h1
    simp at h1
    have htodo : todo = [] := by
      cases todo with
      | nil => rfl
      | cons t todo => rw [← hall] at h1; simp at h1; omega
    subst htodo
    simp [PrintOK] at hI
    subst hI
    simp at hs
    subst hs
    refine AW.exit ?_ -- exit 0
    simp
    refine AW.seqRun tok [] (by intro C; conv => lhs; simp) trivial ?_ -- r7 {}
    exact AW.ret ⟨.inr rfl, _, _, by (conv => lhs; simp), trivial, by simp⟩
end Go.Proofs.YtdjjmppnnkkloaaGreatDoor
