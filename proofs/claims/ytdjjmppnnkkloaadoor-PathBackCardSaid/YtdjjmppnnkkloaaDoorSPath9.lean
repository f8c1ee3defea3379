import Derived.Test.YtdjjmppnnkkloaaDoorSPath8
namespace Go.Proofs.YtdjjmppnnkkloaaDoor
open Sy Go
set_option maxRecDepth 100000
set_option linter.unusedSimpArgs false
set_option linter.unusedVariables false
variable {G : Glob}

def shA : List Step := [⟨5, [], 0⟩, ⟨1, [105, 100], 0⟩]
def shB : List Step := [⟨1, [97], 0⟩, ⟨4, [], 0⟩]
def shP : List Step := [⟨1, [97], 0⟩, ⟨2, [], 2⟩, ⟨1, [105, 100], 0⟩]
theorem key_step (k : List UInt8) (h : k.length ≤ 8) (ha : ∀ b ∈ k, b.toNat < 128) : AFn Tryd.prog G 13 [(⟨1, k, 0⟩ : Step).enc] (.bool true) := by
  have := step_ev (G := G) ⟨1, k, 0⟩ true fun _ _ => shortValid2_ev k h ha
  simpa [stepM, show k.length ≤ 24 by omega] using this
theorem deep_step : AFn Tryd.prog G 13 [(⟨5, [], 0⟩ : Step).enc] (.bool true) := by
  have := step_ev (G := G) ⟨5, [], 0⟩ true fun h => by simp at h
  simpa [stepM] using this
theorem any_step : AFn Tryd.prog G 13 [(⟨4, [], 0⟩ : Step).enc] (.bool true) := by
  have := step_ev (G := G) ⟨4, [], 0⟩ true fun h => by simp at h
  simpa [stepM] using this
theorem key_written (k : List UInt8) (h : mayNameM k = true) (hk : k.length ≤ 100) : AFn Tryd.prog G 16 [(⟨1, k, 0⟩ : Step).enc] (.str (46 :: k)) := by
  have := written_ev (G := G) ⟨1, k, 0⟩ (fun _ => h) (by simp) hk
  simpa using this
theorem deep_written : AFn Tryd.prog G 16 [(⟨5, [], 0⟩ : Step).enc] (.str [42, 42]) := by
  have := written_ev (G := G) ⟨5, [], 0⟩ (fun h => by simp at h) (by simp) (by simp)
  simpa using this
theorem any_written : AFn Tryd.prog G 16 [(⟨4, [], 0⟩ : Step).enc] (.str [91, 42, 93]) := by
  have := written_ev (G := G) ⟨4, [], 0⟩ (fun h => by simp at h) (by simp) (by simp)
  simpa using this
theorem guess_to {s : List UInt8} {t : Step} (hq : hasPre s [91] = true → hasPre s [91, 42] = true) (h : guessM s = t) : AFn Tryd.prog G 15 [.str s] t.enc := h ▸ guess_ev s hq
theorem parseA : AFn Tryd.prog G 7 [.str [36, 42, 42, 46, 105, 100]] (.tup [.sl 3 (shA.map Step.enc), .int .i64 0]) := by
  refine Parse_ev [42, 42, 46, 105, 100] shA ?_ (by simp [shA])
  refine ⟨by simp, guess_to (by decide) (by rfl), deep_step, _, deep_written, by decide, ?_⟩
  refine ⟨by simp, guess_to (by decide) (by rfl), key_step _ (by decide) (by decide), _, key_written _ (by decide) (by decide), by decide, ?_⟩
  rfl
theorem parseB : AFn Tryd.prog G 7 [.str [36, 46, 97, 91, 42, 93]] (.tup [.sl 3 (shB.map Step.enc), .int .i64 0]) := by
  refine Parse_ev [46, 97, 91, 42, 93] shB ?_ (by simp [shB])
  refine ⟨by simp, guess_to (by decide) (by rfl), key_step _ (by decide) (by decide), _, key_written _ (by decide) (by decide), by decide, ?_⟩
  refine ⟨by simp, guess_to (by decide) (by rfl), any_step, _, any_written, by decide, ?_⟩
  rfl
theorem printB : AFn Tryd.prog G 8 [.sl 3 (shB.map Step.enc)] (.str [36, 46, 97, 91, 42, 93]) := by
  refine Print_ev shB [46, 97, 91, 42, 93] ?_ (by simp [shB])
  exact ⟨[46, 97], [91, 42, 93], rfl, by decide, key_written _ (by decide) (by decide), [91, 42, 93], [], rfl, by decide, any_written, rfl⟩
theorem shown_ev : AFn Tryd.prog G 4 [] (.bool true) := by
  refine AFn.intro tok Tryd.func4 (by kernel_rfl) rfl ?_
  simp only [Tryd.f4, St.start]
  have hA := parseA (G := G)
  have hB := parseB (G := G)
  have hP := printB (G := G)
  have m1 := match_ev (G := G) shA shP (by decide) (by decide)
  have m2 := match_ev (G := G) shB shP (by decide) (by decide)
  have m3 := match_ev (G := G) shB (shP.take 2) (by decide) (by decide)
  rw [show matchM shA shP = true by decide] at m1
  rw [show matchM shB shP = false by decide] at m2
  rw [show matchM shB (shP.take 2) = true by decide] at m3
  simp [shA, shB, shP] at hA hB hP m1 m2 m3
  refine AW.seqRun tok [] (by intro C; conv => lhs; simp) trivial ?_ -- r0 {}
  refine AW.seqRun tok [.tup [.str [36, 42, 42, 46, 105, 100]], .tup [.sl 3 (shA.map Step.enc), .int .i64 0]] (by intro C; conv => lhs; simp [shA]) (by simp [hA]) ?_ -- r1
  refine AW.seqRun tok [.tup [.str [36, 46, 97, 91, 42, 93]], .tup [.sl 3 (shB.map Step.enc), .int .i64 0]] (by intro C; conv => lhs; simp [shB]) (by simp [hB]) ?_ -- r2
  refine AW.seqRun tok [.tup [.str [97]], (keyM [97]).enc, .tup [.int .i64 2], (atM 2).enc, .tup [.str [105, 100]], (keyM [105, 100]).enc, (keyM [97]).enc, (atM 2).enc, (keyM [105, 100]).enc] (by intro C; conv => lhs; simp) (by simp) ?_ -- r3
  refine AW.seqRun tok [.tup [.sl 3 (shA.map Step.enc), .sl 3 (shP.map Step.enc)], .bool true, .tup [.sl 3 (shB.map Step.enc), .sl 3 (shP.map Step.enc)], .bool false, .tup [.sl 3 (shB.map Step.enc), .sl 3 ((shP.take 2).map Step.enc)], .bool true,
    .tup [.sl 3 (shB.map Step.enc)], .str [36, 46, 97, 91, 42, 93]] (by intro C; conv => lhs; simp [shA, shB, shP]) (by simp [hP, m1, m2, m3]) ?_ -- r4
  exact AW.ret ⟨.inr rfl, _, _, by (conv => lhs; simp), trivial, by simp⟩
end Go.Proofs.YtdjjmppnnkkloaaDoor
