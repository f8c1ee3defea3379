import Derived.Test.YtdjjmppnnkkloaaGreatDoorSPath8
namespace Go.Proofs.YtdjjmppnnkkloaaGreatDoor
open Sy Go
set_option maxRecDepth 100000
set_option linter.unusedSimpArgs false
set_option linter.unusedVariables false
variable {G : Glob}

def shA : List Step := [⟨5, [], 0⟩, ⟨1, [105, 100], 0⟩]
def shB : List Step := [⟨1, [97], 0⟩, ⟨4, [], 0⟩]
def shP : List Step := [⟨1, [97], 0⟩, ⟨2, [], 2⟩, ⟨1, [105, 100], 0⟩]
theorem key_step (k : List UInt8) (h : k.length ≤ 8) (ha : ∀ b ∈ k, b.toNat < 128) : AFn Tryz.prog G 105 [(⟨1, k, 0⟩ : Step).enc] (.bool true) := by
  have := step_ev (G := G) ⟨1, k, 0⟩ true fun _ _ => shortValid2_ev k h ha
  simpa [stepM, show k.length ≤ 24 by omega] using this
theorem pathDeep_step : AFn Tryz.prog G 105 [(⟨5, [], 0⟩ : Step).enc] (.bool true) := by
  have := step_ev (G := G) ⟨5, [], 0⟩ true fun h => by simp at h
  simpa [stepM] using this
theorem any_step : AFn Tryz.prog G 105 [(⟨4, [], 0⟩ : Step).enc] (.bool true) := by
  have := step_ev (G := G) ⟨4, [], 0⟩ true fun h => by simp at h
  simpa [stepM] using this
theorem key_written (k : List UInt8) (h : mayNameM k = true) (hk : k.length ≤ 100) : AFn Tryz.prog G 85 [(⟨1, k, 0⟩ : Step).enc] (.str (46 :: k)) := by
  have := written_ev (G := G) ⟨1, k, 0⟩ (fun _ => h) (by simp) hk
  simpa using this
theorem deep_written : AFn Tryz.prog G 85 [(⟨5, [], 0⟩ : Step).enc] (.str [42, 42]) := by
  have := written_ev (G := G) ⟨5, [], 0⟩ (fun h => by simp at h) (by simp) (by simp)
  simpa using this
theorem any_written : AFn Tryz.prog G 85 [(⟨4, [], 0⟩ : Step).enc] (.str [91, 42, 93]) := by
  have := written_ev (G := G) ⟨4, [], 0⟩ (fun h => by simp at h) (by simp) (by simp)
  simpa using this
theorem guess_to {s : List UInt8} {t : Step} (hq : hasPre s [91] = true → hasPre s [91, 42] = true) (h : guessM s = t) : AFn Tryz.prog G 104 [.str s] t.enc := h ▸ guess_ev s hq
theorem parseA : AFn Tryz.prog G 72 [.str [36, 42, 42, 46, 105, 100]] (.tup [.sl 3 (shA.map Step.enc), .int .i64 0]) := by
  refine pathParse_ev [42, 42, 46, 105, 100] shA ?_ (by simp [shA])
  refine ⟨by simp, guess_to (by decide) (by rfl), pathDeep_step, _, deep_written, by decide, ?_⟩
  refine ⟨by simp, guess_to (by decide) (by rfl), key_step _ (by decide) (by decide), _, key_written _ (by decide) (by decide), by decide, ?_⟩
  rfl
theorem parseB : AFn Tryz.prog G 72 [.str [36, 46, 97, 91, 42, 93]] (.tup [.sl 3 (shB.map Step.enc), .int .i64 0]) := by
  refine pathParse_ev [46, 97, 91, 42, 93] shB ?_ (by simp [shB])
  refine ⟨by simp, guess_to (by decide) (by rfl), key_step _ (by decide) (by decide), _, key_written _ (by decide) (by decide), by decide, ?_⟩
  refine ⟨by simp, guess_to (by decide) (by rfl), any_step, _, any_written, by decide, ?_⟩
  rfl
theorem printB : AFn Tryz.prog G 50 [.sl 3 (shB.map Step.enc)] (.str [36, 46, 97, 91, 42, 93]) := by
  refine Print_ev shB [46, 97, 91, 42, 93] ?_ (by simp [shB])
  exact ⟨[46, 97], [91, 42, 93], rfl, by decide, key_written _ (by decide) (by decide), [91, 42, 93], [], rfl, by decide, any_written, rfl⟩
end Go.Proofs.YtdjjmppnnkkloaaGreatDoor
