import Derived.Test.YtdojfdaglbphlaaGreatDoorSTwo2
import Derived.Test.YtdojfdaglbphlaaGreatDoorK2
namespace Go.Proofs.YtdojfdaglbphlaaGreatDoor
open Sy Go
set_option maxRecDepth 100000
set_option maxHeartbeats 4000000
set_option linter.unusedSimpArgs false
set_option linter.unusedVariables false
variable {G : Glob}
def nV (c : UInt8) : Val := .mk 4 0 ⟨false, [c], 0⟩ [] [] [] 0
def oV (ks : List (List UInt8)) (vs : List Val) : Val := .mk 7 0 dc0 [] ks vs 0
def lV (vs : List Val) : Val := .mk 6 0 dc0 [] [] vs 0
def sA : List UInt8 := [123, 34, 97, 34, 58, 49, 125]
def sB : List UInt8 := [123, 34, 98, 34, 58, 50, 44, 34, 97, 34, 58, 51, 125]
def sC : List UInt8 := [91, 49, 44, 50, 44, 49, 93]
def sD : List UInt8 := [91, 49, 93]
theorem sA_one : (oneM sA).1 = oV [[97]] [nV 49] := by kernel_rfl
theorem sB_one : (oneM sB).1 = oV [[98], [97]] [nV 50, nV 51] := by kernel_rfl
theorem sC_one : (oneM sC).1 = lV [nV 49, nV 50, nV 49] := by kernel_rfl
theorem sD_one : (oneM sD).1 = lV [nV 49] := by kernel_rfl
theorem s_plus : plusO (oV [[97]] [nV 49]) (oV [[98], [97]] [nV 50, nV 51]) (orM 0 0) = oV [[97], [98]] [nV 51, nV 50] := by kernel_rfl
theorem s_less : lessV (lV [nV 49, nV 50, nV 49]) (lV [nV 49]) (orM (deepV (lV [nV 49, nV 50, nV 49])) (deepV (lV [nV 49]))) = lV [nV 50] := by kernel_rfl
theorem s_print1 : printT (oV [[97], [98]] [nV 51, nV 50]) = [123, 34, 97, 34, 58, 51, 44, 34, 98, 34, 58, 50, 125] := by kernel_rfl
theorem s_print2 : printT (lV [nV 50]) = [91, 50, 93] := by kernel_rfl
theorem nV_may {c : UInt8} (h : dcMay ⟨false, [c], 0⟩ = true) : mayT (nV c) = true :=
 mayT_intro (v := nV c) (by show (1 : Int) ≤ 4 ∧ (4 : Int) ≤ 8 ∧ 0 ≤ 200; decide) (by show (4 : Int) = 8 ↔ (0 : Int) ≠ 0; decide) (fun _ => h) (fun h => absurd rfl h) (fun h => absurd (show (4 : Int) = 5 from h) (by decide)) (fun _ => rfl) (fun h => absurd (show (4 : Int) = 7 from h) (by decide)) (fun _ => rfl) (.inl rfl) (by intro k hk; cases hk)
theorem wa : wordT [97] = true := by unfold wordT; rw [Lib.validD_cons _ _ (by decide)]; rfl
theorem wb : wordT [98] = true := by unfold wordT; rw [Lib.validD_cons _ _ (by decide)]; rfl
theorem n49 : mayT (nV 49) = true := nV_may (by decide +kernel)
theorem n50 : mayT (nV 50) = true := nV_may (by decide +kernel)
theorem n51 : mayT (nV 51) = true := nV_may (by decide +kernel)
theorem lV_may {vs : List Val} (hl : vs.length ≤ 200) (h : ∀ v ∈ vs, mayT v = true) : mayT (lV vs) = true :=
 mayT_intro (v := lV vs) ⟨show (1 : Int) ≤ 6 by decide, show (6 : Int) ≤ 8 by decide, hl⟩ (by show (6 : Int) = 8 ↔ (0 : Int) ≠ 0; decide) (fun h => absurd (show (6 : Int) = 4 from h) (by decide)) (fun _ => rfl) (fun h => absurd (show (6 : Int) = 5 from h) (by decide)) (fun _ => rfl) (fun h => absurd (show (6 : Int) = 7 from h) (by decide)) (fun _ => rfl) (.inr (.inl rfl)) h
theorem oV_may {ks : List (List UInt8)} {vs : List Val} (hl : vs.length ≤ 200) (hk : ks.length = vs.length) (hw : keysT ks = true) (h : ∀ v ∈ vs, mayT v = true) : mayT (oV ks vs) = true :=
 mayT_intro (v := oV ks vs) ⟨show (1 : Int) ≤ 7 by decide, show (7 : Int) ≤ 8 by decide, hl⟩ (by show (7 : Int) = 8 ↔ (0 : Int) ≠ 0; decide) (fun h => absurd (show (7 : Int) = 4 from h) (by decide)) (fun _ => rfl) (fun h => absurd (show (7 : Int) = 5 from h) (by decide)) (fun _ => rfl) (fun _ => ⟨hk, hw⟩) (fun h => absurd rfl h) (.inr (.inr rfl)) h
theorem mA : mayT (oV [[97]] [nV 49]) = true := oV_may (by decide) rfl (by simp [keysT, wa]) (by intro v hv; rw [List.mem_singleton.1 hv]; exact n49)
theorem mB : mayT (oV [[98], [97]] [nV 50, nV 51]) = true := oV_may (by decide) rfl (by simp [keysT, wa, wb]) (by
 intro v hv
 simp only [List.mem_cons, List.not_mem_nil, or_false] at hv
 rcases hv with rfl | rfl
 ·exact n50
 ·exact n51)
theorem mR : mayT (oV [[97], [98]] [nV 51, nV 50]) = true := oV_may (by decide) rfl (by simp [keysT, wa, wb]) (by
 intro v hv
 simp only [List.mem_cons, List.not_mem_nil, or_false] at hv
 rcases hv with rfl | rfl
 ·exact n51
 ·exact n50)
theorem mC : mayT (lV [nV 49, nV 50, nV 49]) = true := lV_may (by decide) (by
 intro v hv
 simp only [List.mem_cons, List.not_mem_nil, or_false] at hv
 rcases hv with rfl | rfl | rfl
 ·exact n49
 ·exact n50
 ·exact n49)
theorem mD : mayT (lV [nV 49]) = true := lV_may (by decide) (by intro v hv; rw [List.mem_singleton.1 hv]; exact n49)
theorem mS : mayT (lV [nV 50]) = true := lV_may (by decide) (by intro v hv; rw [List.mem_singleton.1 hv]; exact n50)
theorem shown14_ev  : AFn Tryz.prog G 9 [] (.bool true) := by
 refine AFn.introU tok Tryz.func9 (by kernel_rfl) rfl rfl ?_
 simp only [Tryz.f9, enumA, List.map_cons, List.map_nil]
 have dA := doc_ev (G := G) sA (by decide)
 have dB := doc_ev (G := G) sB (by decide)
 have dC := doc_ev (G := G) sC (by decide)
 have dD := doc_ev (G := G) sD (by decide)
 rw [sA_one] at dA
 rw [sB_one] at dB
 rw [sC_one] at dC
 rw [sD_one] at dD
 have hp := twoPlusO_ev (G := G) _ _ mA mB rfl rfl rfl rfl
 have hl := twoMinusL_ev (G := G) _ _ mC mD rfl rfl
 rw [s_less] at hl
 have e0 : orM (oV [[97]] [nV 49]).mask (oV [[98], [97]] [nV 50, nV 51]).mask = orM 0 0 := rfl
 rw [e0, s_plus] at hp
 have p1 := print5_all (G := G) _ mR (by decide +kernel) (by simp [oV, nV, codeAll, codeAllL]) (fun h => absurd h (by decide +kernel))
 have p2 := print5_all (G := G) _ mS (by decide +kernel) (by simp [lV, nV, codeAll, codeAllL]) (fun h => absurd h (by decide +kernel))
 rw [s_print1] at p1
 rw [s_print2] at p2
 unfold sA at dA
 unfold sB at dB
 unfold sC at dC
 unfold sD at dD
 generalize oV [[97]] [nV 49] = A at *
 generalize oV [[98], [97]] [nV 50, nV 51] = B at *
 generalize oV [[97], [98]] [nV 51, nV 50] = R at *
 generalize lV [nV 49, nV 50, nV 49] = C at *
 generalize lV [nV 49] = D at *
 generalize lV [nV 50] = S at *
 simp only [Val.enc_def] at dA dB dC dD hp hl p1 p2
 refine rgn [] [[17]] ?_
 refine op1 tok ?_
 refine runEnd ?_
 refine rgn [.nilp, A.enc, .nilp, B.enc, .nilp, R.enc] [[], [], [], [], [1]] ?_
 iterate 5 refine op1 tok ?_ (hv := by first | with_reducible exact True.intro | (first | exact dA | exact dB | exact hp; done) | omega | simp | (simp; omega) | (simp +contextual; omega))
 refine runEnd ?_
 refine rgn [.nilp, C.enc, .nilp, D.enc, .nilp, S.enc] [[], [], [], [], [1, 2]] ?_
 iterate 5 refine op1 tok ?_ (hv := by first | with_reducible exact True.intro | (first | exact dC | exact dD | exact hl; done) | omega | simp | (simp; omega) | (simp +contextual; omega))
 refine runEnd ?_
 refine rgn [.nilp, .str [123, 34, 97, 34, 58, 51, 44, 34, 98, 34, 58, 50, 125], .nilp, .str [91, 50, 93]] [[], [], [], [2, 12], [], [], [], [16], [0]] ?_
 iterate 4 refine op1 tok ?_ (hv := by first | with_reducible exact True.intro | (first | exact p1 | exact p2; done) | omega | simp | (simp; omega) | (simp +contextual; omega))
 iterate 3 refine op2 tok ?_ (hv := by first | with_reducible exact True.intro | (first | exact p1 | exact p2; done) | omega | simp | (simp; omega) | (simp +contextual; omega))
 iterate 2 refine op1 tok ?_ (hv := by first | with_reducible exact True.intro | (first | exact p1 | exact p2; done) | omega | simp | (simp; omega) | (simp +contextual; omega))
 refine runEnd ?_
 exact AW.ret ⟨.inr rfl, _, _, by (conv => lhs; simp), trivial, by simp⟩
end Go.Proofs.YtdojfdaglbphlaaGreatDoor
