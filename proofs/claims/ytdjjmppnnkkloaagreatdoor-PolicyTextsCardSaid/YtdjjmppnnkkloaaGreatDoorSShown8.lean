import Derived.Test.YtdjjmppnnkkloaaGreatDoorSPolParse
namespace Go.Proofs.YtdjjmppnnkkloaaGreatDoor
open Sy Go
set_option maxRecDepth 100000
set_option maxHeartbeats 4000000
set_option linter.unusedSimpArgs false
set_option linter.unusedVariables false
variable {G : Glob}
def shTxt : List UInt8 := [99, 97, 116, 115, 32, 97, 32, 98, 10, 109, 97, 114, 107, 32, 98, 32, 36, 46, 107, 10, 116, 111, 107, 101, 110, 32, 34, 35, 34, 10, 102, 117, 101, 108, 32, 57, 10, 113, 117, 111, 116, 97, 32, 51, 10]
def shPol : Pol := ⟨[[97], [98]], [⟨[⟨1, [107], 0⟩], 2⟩], [35], 9, 3⟩
theorem sh8_read : readP shTxt = (shPol, true) := by decide +kernel
theorem sh8_print : polPrint shPol = shTxt := by decide +kernel
theorem sh8_may : polMay shPol = 0 := by decide +kernel
theorem sh8_parse : polParse shTxt = (shPol, 0) := by
  unfold polParse
  rw [sh8_read]
  exact if_pos ⟨rfl, sh8_may, sh8_print⟩
theorem shown8_ev (hG : U8 G) (hP : PW G) (hE : PE G) : AFn Tryz.prog G 9 [] (.bool true) := by
  refine AFn.introU tok Tryz.func9 (by kernel_rfl) rfl rfl ?_
  simp only [Tryz.f9, enumA, List.map_cons, List.map_nil]
  have h := polParse_ev hG hP hE shTxt (by decide)
  rw [sh8_parse] at h
  simp only [shTxt, shPol, Pol.enc, Mk.enc, Step.enc, List.map_cons, List.map_nil] at h
  refine rgn [] [[44]] ?_
  refine op1 tok ?_
  refine runEnd ?_
  refine rgn [.nilp, .tup [.agg [.sl 1 [.str [97], .str [98]], .sl 2 [.agg [.sl 3 [.agg [.int .i64 1, .str [107], .int .i64 0]], .int .u64 2]], .str [35], .int .i64 9, .int .i64 3], .int .i64 0]] [[], [], [], [], [], [], [1, 2]] ?_
  iterate 7 refine op1 tok ?_ (hv := by first | with_reducible exact True.intro | (exact h; done) | omega | simp | (simp; omega) | (simp +contextual; omega))
  refine runEnd ?_
  refine rgn [.agg [.sl 3 [.agg [.int .i64 1, .str [107], .int .i64 0]], .int .u64 2]] [[], [], [], [], [1, 9, 11], [], [], [1, 14], [], [], [], [], [1, 15, 19], [], [], [], [1, 21, 23], [], [], [], [1, 21, 27], [], [], [], [1, 29, 31], [], [], [1, 34], [], [], [], [1, 38], [], [], [], [39, 42], [], [0]] ?_
  iterate 38 first | refine op1 tok ?_ | refine op2 tok ?_
  refine runEnd ?_
  exact AW.ret ⟨.inr rfl, _, _, by (conv => lhs; simp), trivial, by simp⟩
end Go.Proofs.YtdjjmppnnkkloaaGreatDoor
