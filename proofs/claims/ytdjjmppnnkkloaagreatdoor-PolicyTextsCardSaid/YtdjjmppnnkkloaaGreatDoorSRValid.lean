import Derived.Test.YtdjjmppnnkkloaaGreatDoorSRune
namespace Go.Proofs.YtdjjmppnnkkloaaGreatDoor
open Sy Go
set_option maxRecDepth 100000
set_option linter.unusedSimpArgs false
set_option linter.unusedVariables false
variable {G : Glob}
theorem runeM_len (s : List UInt8) (i : Nat) (hi : i < s.length) : 0 ≤ (runeM s i).2 ∧ (i : Int) + (runeM s i).2 ≤ s.length ∧ (runeM s i).2 ≤ 4 := by
  unfold runeM
  split
  · simp; omega
  · rename_i b hb
    split
    · simp; omega
    · have h4 : (rcase b.toNat).1 ≤ 4 := by
        unfold rcase; split
        · simp
        · split
          · simp
          · split <;> simp
      generalize rcase b.toNat = x at h4
      unfold rtail
      split
      · simp; omega
      · rename_i h
        have h' : i + x.1 ≤ s.length := by omega
        unfold rfin
        split
        · simp; omega
        · split
          · simp; omega
          · simp only; omega
def vloop (s : List UInt8) : Nat → Nat → Bool
  | 0, _ => true
  | f + 1, i => if i < s.length then (if (runeM s i).2 = 0 then false else vloop s f (i + (runeM s i).2.toNat)) else true
def validM (s : List UInt8) : Bool := vloop s (s.length + 1) 0
def vS (s : List UInt8) (i : Nat) : St := ⟨[.p (.str s), .dead, .p (.bool false), .p (.int .i64 i)] ++ List.replicate 17 .dead, [], [], 0⟩
theorem refValid_ev (s : List UInt8) (hs : s.length ≤ 1000000000) : AFn Tryz.prog G 42 [.str s] (.bool (validM s)) := by
  refine AFn.intro tok Tryz.func42 (by kernel_rfl) rfl ?_
  simp only [Tryz.f42, St.start]
  refine AW.seqRun tok [] (by intro C; conv => lhs; simp) trivial ?_ -- r0 {}
  refine AW.seqRun tok [] (by intro C; conv => lhs; simp) trivial ?_ -- r1 {}
  refine AW.seq ?_
  refine AW.block ?_
  -- LOOP
  refine AW.loop (α := Nat × Nat) (fun a => validM s = vloop s a.2 a.1 ∧ a.1 ≤ s.length ∧ s.length + 1 ≤ a.2 + a.1) (fun a => vS s a.1) (fun a => s.length - a.1) (0, s.length + 1) ⟨rfl, by simp, by simp⟩ ⟨by simp [vS], rfl, by simp [vS], by simp [vS]⟩ ?_
  rintro ⟨i, f⟩ ⟨hI, hi, hf⟩
  simp only at hI hi hf
  simp only [vS]
  refine AW.seq ?_
  refine AW.seqRun tok [] (by intro C; conv => lhs; simp) trivial ?_ -- r2 {}
  refine AW.cond (c := .tmp 9) (by conv => lhs; simp) trivial ?_ ?_
  · intro h1
    simp at h1
    obtain ⟨f, rfl⟩ : ∃ f', f = f' + 1 := ⟨f - 1, by omega⟩
    have hl := runeM_len s i h1
    have hR := Rune_ev (G := G) s i h1 hs
    simp only [vloop, h1, if_true] at hI
    refine AW.skip ?_
    refine AW.block ?_
    refine AW.seqRun tok [.tup [.str s, .int .i64 i], .tup [.int .i64 (runeM s i).1, .int .i64 (runeM s i).2]] (by intro C; conv => lhs; simp) (by simp [hR]) ?_ -- r3
    refine AW.seq ?_
    refine AW.seqRun tok [] (by intro C; conv => lhs; simp) trivial ?_ -- r4 {}
    refine AW.cond (c := .tmp 17) (by conv => lhs; simp) trivial ?_ ?_
    · intro h2
      simp at h2
      refine AW.seqRun tok [] (by intro C; conv => lhs; simp) trivial ?_ -- r5 {}
      exact AW.ret ⟨.inr rfl, _, _, by (conv => lhs; simp), trivial, by rw [hI]; simp [h2]⟩
    · intro h2
      simp at h2
      rw [if_neg h2] at hI
      refine AW.skip ?_
      refine AW.run tok [] (by intro C; conv => lhs; simp) (by omega) ?_ -- r6 {}
      exact ⟨(i + (runeM s i).2.toNat, f), ⟨hI, by simp; omega, by simp; omega⟩, by simp; omega, by simp [vS]; omega, rfl, by simp [vS], by simp [vS]⟩ -- END OF ROUND
  · intro h1
    simp at h1
    refine AW.exit ?_ -- exit 0
    simp
    refine AW.seqRun tok [] (by intro C; conv => lhs; simp) trivial ?_ -- r7 {}
    exact AW.ret ⟨.inr rfl, _, _, by (conv => lhs; simp), trivial, by
      rw [hI]
      cases f with
      | zero => simp [vloop]
      | succ f => simp only [vloop]; rw [if_neg (by omega)]; simp⟩
end Go.Proofs.YtdjjmppnnkkloaaGreatDoor
