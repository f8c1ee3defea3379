import Derived.Test.YtdjjmppnnkkloaaDoorSPath1
import Derived.Test.YtdjjmppnnkkloaaDoorSStr3
namespace Go.Proofs.YtdjjmppnnkkloaaDoor
open Sy Go
set_option maxRecDepth 100000
set_option linter.unusedSimpArgs false
set_option linter.unusedVariables false
variable {G : Glob}

theorem shortValid_ev (s : List UInt8) (hs : s.length ≤ 8) (ha : ∀ b ∈ s, b.toNat < 128) : AFn Tryd.prog G 26 [.str s] (.bool true) := by
  refine AFn.intro tok Tryd.func26 (by kernel_rfl) rfl ?_
  simp only [Tryd.f26, St.start]
  refine AW.seqRun tok [] (by intro C; conv => lhs; simp) trivial ?_ -- r0 {}
  refine AW.seq ?_
  refine AW.block ?_
  -- LOOP
  refine AW.loop (α := List UInt8) (fun r => r.length ≤ 8 ∧ ∀ b ∈ r, b.toNat < 128) (fun r => ⟨[.p (.str r), .dead, .p (.bool false)] ++ List.replicate 166 .dead, [], [], 0⟩) (fun r => r.length) s ⟨hs, ha⟩ ⟨by simp, rfl, by simp, by simp⟩ ?_
  rintro r ⟨hr, hra⟩
  refine AW.seq ?_
  refine AW.seqRun tok [] (by intro C; conv => lhs; simp) trivial ?_ -- r1 {}
  refine AW.cond (c := .tmp 9) (by conv => lhs; simp) trivial ?_ ?_
  · intro h1
    simp at h1
    obtain ⟨b, r, rfl⟩ : ∃ b r', r = b :: r' := by
      cases r with
      | nil => simp at h1
      | cons b r => exact ⟨b, r, rfl⟩
    have hb := hra b (by simp)
    simp at hr
    refine AW.skip ?_
    refine AW.block ?_
    refine AW.seqRun tok [.int .u8 b.toNat] (by intro C; conv => lhs; simp) (by simp) ?_ -- r2 {t11:sidx}
    refine AW.seq ?_
    refine AW.seqRun tok [] (by intro C; conv => lhs; simp) trivial ?_ -- r3 {}
    refine AW.cond (c := .tmp 13) (by conv => lhs; simp) trivial ?_ ?_
    · intro h2
      simp at h2
      refine AW.seqRun tok [] (by intro C; conv => lhs; simp) (by omega) ?_ -- r4 {}
      refine AW.seq ?_
      refine AW.seqRun tok [.tup [.str r], .int .u64 0] (by intro C; conv => lhs; simp) (by omega) ?_ -- r5 {t21:CALL call f49(t20) args,res}
      refine AW.cond (c := .tmp 24) (by conv => lhs; simp) trivial ?_ ?_
      · intro h3
        simp at h3
        omega
      · intro h3
        refine AW.skip ?_
        refine AW.exit ?_ -- exit 1
        simp
        exact ⟨r, ⟨by omega, fun b hb => hra b (by simp [hb])⟩, by simp, by simp, rfl, by simp, by simp⟩ -- END OF ROUND
    · intro h2
      simp at h2
      omega
  · intro h1
    simp at h1
    subst h1
    refine AW.exit ?_ -- exit 0
    simp
    refine AW.seqRun tok [] (by intro C; conv => lhs; simp) trivial ?_
    exact AW.ret ⟨.inr rfl, _, _, by (conv => lhs; simp), trivial, by simp⟩
theorem shortValid2_ev (s : List UInt8) (hs : s.length ≤ 8) (ha : ∀ b ∈ s, b.toNat < 128) : AFn Tryd.prog G 19 [.str s] (.bool true) := by
  refine AFn.intro tok Tryd.func19 (by kernel_rfl) rfl ?_
  simp only [Tryd.f19, St.start]
  refine AW.seqRun tok [] (by intro C; conv => lhs; simp) trivial ?_ -- r0 {}
  refine AW.seqRun tok [.tup [.str s], .bool true] (by intro C; conv => lhs; simp) (by simp [shortValid_ev s hs ha]) ?_
  exact AW.ret ⟨.inr rfl, _, _, by (conv => lhs; simp), trivial, by simp⟩

def stepM (t : Step) (v : Bool) : Bool :=
  if t.kind = 1 then decide (t.key.length ≤ 24) && v && decide (t.n = 0)
  else if t.kind = 2 then decide (0 ≤ t.n) && decide (t.n ≤ 9999) && decide (t.key = [])
  else if 3 ≤ t.kind ∧ t.kind ≤ 5 then decide (t.key = []) && decide (t.n = 0)
  else false

theorem step_ev (t : Step) (v : Bool) (hv : t.kind = 1 → t.key.length ≤ 24 → AFn Tryd.prog G 19 [.str t.key] (.bool v)) : AFn Tryd.prog G 13 [t.enc] (.bool (stepM t v)) := by
  refine AFn.intro tok Tryd.func13 (by kernel_rfl) rfl ?_
  simp only [Tryd.f13, St.start]
  refine AW.seqRun tok [] (by intro C; conv => lhs; simp) (by simp) ?_ -- r0 {}
  refine AW.seqRun tok [] (by intro C; conv => lhs; simp) (by simp) ?_ -- r1 {}
  refine AW.seq ?_
  refine AW.seqRun tok [] (by intro C; conv => lhs; simp) trivial ?_ -- r2 {}
  refine AW.block ?_
  refine AW.seqRun tok [] (by intro C; conv => lhs; simp) trivial ?_ -- r4 {}
  refine AW.cond (c := .tmp 7) (by conv => lhs; simp) trivial ?_ ?_
  · intro h1
    simp at h1
    refine AW.seq ?_
    refine AW.seqRun tok [.tup [.str t.key], .bool v] (by intro C; conv => lhs; simp) (by exact fun h => ⟨h, hv h1 (by omega)⟩) ?_ -- r5 {t16:CALL call f29(t15) args,res}
    refine AW.cond (c := .tmp 18) (by conv => lhs; simp) trivial ?_ ?_
    · intro h2
      simp at h2
      refine AW.seqRun tok [] (by intro C; conv => lhs; simp) trivial ?_ -- r6 {}
      exact AW.ret ⟨.inr rfl, _, _, by (conv => lhs; simp), trivial, by simp [stepM, h1]; exact fun a b => h2.elim (fun h => by omega) fun h => by rw [b] at h; cases h⟩
    · intro h2
      simp at h2
      refine AW.skip ?_
      refine AW.run tok [] (by intro C; conv => lhs; simp) (by simp) ?_ -- r7 {}
      refine AW.seqRun tok [] (by intro C; conv => lhs; simp) (by simp) ?_ -- r15 {}
      exact AW.ret ⟨.inr rfl, _, _, by (conv => lhs; simp), trivial, by simp [stepM, h1, h2] <;> omega⟩
  · intro h1
    simp at h1
    refine AW.seqRun tok [] (by intro C; conv => lhs; simp) trivial ?_ -- r8 {}
    refine AW.cond (c := .tmp 20) (by conv => lhs; simp) trivial ?_ ?_
    · intro h2
      simp at h2
      refine AW.seq ?_
      refine AW.seqRun tok [] (by intro C; conv => lhs; simp) (by simp +contextual) ?_ -- r9 {}
      refine AW.cond (c := .tmp 29) (by conv => lhs; simp) trivial ?_ ?_
      · intro h3
        simp at h3
        refine AW.seqRun tok [] (by intro C; conv => lhs; simp) trivial ?_ -- r10 {}
        exact AW.ret ⟨.inr rfl, _, _, by (conv => lhs; simp), trivial, by simp [stepM, h2] <;> omega⟩
      · intro h3
        simp at h3
        refine AW.skip ?_
        refine AW.run tok [] (by intro C; conv => lhs; simp) (by simp) ?_ -- r11 {}
        refine AW.seqRun tok [] (by intro C; conv => lhs; simp) (by simp) ?_ -- r15 {}
        exact AW.ret ⟨.inr rfl, _, _, by (conv => lhs; simp), trivial, by simp [stepM, h2, h3] <;> omega⟩
    · intro h2
      simp at h2
      refine AW.seq ?_
      refine AW.seqRun tok [] (by intro C; conv => lhs; simp) trivial ?_ -- r12 {}
      refine AW.cond (c := .tmp 31) (by conv => lhs; simp) trivial ?_ ?_
      · intro h3
        simp at h3
        refine AW.skip ?_
        refine AW.cond (c := .tmp 31) (by conv => lhs; simp) trivial ?_ ?_
        · intro h4
          refine AW.skip ?_
          refine AW.seqRun tok [] (by intro C; conv => lhs; simp) (by simp) ?_ -- r15 {}
          exact AW.ret ⟨.inr rfl, _, _, by (conv => lhs; simp), trivial, by simp [stepM, h3]⟩
        · intro h4
          simp [h3] at h4
      · intro h3
        simp at h3
        refine AW.seqRun tok [] (by intro C; conv => lhs; simp) trivial ?_ -- r13 {}
        refine AW.cond (c := .tmp 31) (by conv => lhs; simp) trivial ?_ ?_
        · intro h4
          simp at h4
          refine AW.skip ?_
          refine AW.cond (c := .tmp 31) (by conv => lhs; simp) trivial ?_ ?_
          · intro h5
            refine AW.skip ?_
            refine AW.seqRun tok [] (by intro C; conv => lhs; simp) (by simp) ?_ -- r15 {}
            exact AW.ret ⟨.inr rfl, _, _, by (conv => lhs; simp), trivial, by simp [stepM, h4]⟩
          · intro h5
            simp [h4] at h5
        · intro h4
          simp at h4
          refine AW.run tok [] (by intro C; conv => lhs; simp) trivial ?_ -- r14 {}
          refine AW.cond (c := .tmp 31) (by conv => lhs; simp) trivial ?_ ?_
          · intro h5
            simp at h5
            refine AW.skip ?_
            refine AW.seqRun tok [] (by intro C; conv => lhs; simp) (by simp) ?_ -- r15 {}
            exact AW.ret ⟨.inr rfl, _, _, by (conv => lhs; simp), trivial, by simp [stepM, h5]⟩
          · intro h5
            simp at h5
            refine AW.seqRun tok [] (by intro C; conv => lhs; simp) trivial ?_ -- r3 {}
            exact AW.ret ⟨.inr rfl, _, _, by (conv => lhs; simp), trivial, by simp [stepM, h1, h2, show ¬ (3 ≤ t.kind ∧ t.kind ≤ 5) by omega]⟩

/-- A step's text, where no key is quoted, and no number written. -/
theorem written_ev (t : Step) (h1 : t.kind = 1 → mayNameM t.key = true) (h2 : t.kind ≠ 2) (hl : t.key.length ≤ 100) :
    AFn Tryd.prog G 16 [t.enc] (.str (if t.kind = 1 then 46 :: t.key else if t.kind = 3 then [46, 42] else if t.kind = 4 then [91, 42, 93] else [42, 42])) := by
  refine AFn.intro tok Tryd.func16 (by kernel_rfl) rfl ?_
  simp only [Tryd.f16, St.start]
  have hM := MayName_ev (G := G) t.key
  refine AW.seqRun tok [] (by intro C; conv => lhs; simp) (by simp) ?_ -- r0 {}
  refine AW.seq ?_
  refine AW.block ?_
  refine AW.seqRun tok [.tup [.str t.key], .bool (mayNameM t.key)] (by intro C; conv => lhs; simp) (by simp +contextual [hM]) ?_ -- r1 {t10:CALL call f33(t9) args,res}
  refine AW.cond (c := .tmp 3) (by conv => lhs; simp) trivial ?_ ?_
  · intro h3
    simp at h3
    refine AW.seqRun tok [] (by intro C; conv => lhs; simp) (by omega) ?_ -- r2 {}
    exact AW.ret ⟨.inr rfl, _, _, by (conv => lhs; simp), trivial, by simp [h3]⟩
  · intro h3
    have h3' : t.kind ≠ 1 := fun h => by simp [h, h1 h] at h3
    refine AW.seqRun tok [] (by intro C; conv => lhs; simp) trivial ?_ -- r3
    refine AW.cond (c := .tmp 15) (by conv => lhs; simp) trivial ?_ ?_
    · intro h4; simp [h3'] at h4
    · intro _
      refine AW.seqRun tok [] (by intro C; conv => lhs; simp) trivial ?_ -- r5
      refine AW.cond (c := .tmp 24) (by conv => lhs; simp) trivial ?_ ?_
      · intro h4; simp [h2] at h4
      · intro _
        refine AW.seqRun tok [] (by intro C; conv => lhs; simp) trivial ?_ -- r7
        refine AW.cond (c := .tmp 33) (by conv => lhs; simp) trivial ?_ ?_
        · intro h5
          simp at h5
          refine AW.seqRun tok [] (by intro C; conv => lhs; simp) trivial ?_ -- r8
          exact AW.ret ⟨.inr rfl, _, _, by (conv => lhs; simp), trivial, by simp [h5]⟩
        · intro h5
          simp at h5
          refine AW.seqRun tok [] (by intro C; conv => lhs; simp) trivial ?_ -- r9
          refine AW.cond (c := .tmp 37) (by conv => lhs; simp) trivial ?_ ?_
          · intro h6
            simp at h6
            refine AW.seqRun tok [] (by intro C; conv => lhs; simp) trivial ?_ -- r10
            exact AW.ret ⟨.inr rfl, _, _, by (conv => lhs; simp), trivial, by simp [h6]⟩
          · intro h6
            simp at h6
            refine AW.skip ?_
            refine AW.seqRun tok [] (by intro C; conv => lhs; simp) trivial ?_ -- r11
            exact AW.ret ⟨.inr rfl, _, _, by (conv => lhs; simp), trivial, by simp [h3', h5, h6]⟩
end Go.Proofs.YtdjjmppnnkkloaaDoor
