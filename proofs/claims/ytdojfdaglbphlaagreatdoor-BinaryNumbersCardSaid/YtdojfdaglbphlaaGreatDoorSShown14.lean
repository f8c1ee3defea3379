import Derived.Test.YtdojfdaglbphlaaGreatDoorSTwo2
import Derived.Test.YtdojfdaglbphlaaGreatDoorK2
namespace Go.Proofs.YtdojfdaglbphlaaGreatDoor
open Sy Go
set_option maxRecDepth 100000
set_option maxHeartbeats 4000000
set_option linter.unusedSimpArgs false
set_option linter.unusedVariables false
variable {G : qS}
def nV (c : UInt8) : Val := .mk 4 0 ⟨false, [c], 0⟩ [] [] [] 0
def oV (ks : List (List UInt8)) (vs : List Val) : Val := .mk 7 0 dc0 [] ks vs 0
def lV (vs : List Val) : Val := .mk 6 0 dc0 [] [] vs 0
def sA : List UInt8 := [123, 34, 97, 34, 58, 49, 125]
def sB : List UInt8 := [123, 34, 98, 34, 58, 50, 44, 34, 97, 34, 58, 51, 125]
def sC : List UInt8 := [91, 49, 44, 50, 44, 49, 93]
def sD : List UInt8 := [91, 49, 93]
theorem sA_one : (qLK sA).1 = oV [[97]] [nV 49] := by kernel_rfl
theorem sB_one : (qLK sB).1 = oV [[98], [97]] [nV 50, nV 51] := by kernel_rfl
theorem sC_one : (qLK sC).1 = lV [nV 49, nV 50, nV 49] := by kernel_rfl
theorem sD_one : (qLK sD).1 = lV [nV 49] := by kernel_rfl
theorem s_plus : qUG (oV [[97]] [nV 49]) (oV [[98], [97]] [nV 50, nV 51]) (orM 0 0) = oV [[97], [98]] [nV 51, nV 50] := by kernel_rfl
theorem s_less : qPI (lV [nV 49, nV 50, nV 49]) (lV [nV 49]) (orM (zD (lV [nV 49, nV 50, nV 49])) (zD (lV [nV 49]))) = lV [nV 50] := by kernel_rfl
theorem s_print1 : zI (oV [[97], [98]] [nV 51, nV 50]) = [123, 34, 97, 34, 58, 51, 44, 34, 98, 34, 58, 50, 125] := by kernel_rfl
theorem s_print2 : zI (lV [nV 50]) = [91, 50, 93] := by kernel_rfl
theorem qXO {c : UInt8} (h : zC ⟨false, [c], 0⟩ = true) : zL (nV c) = true :=
 qFN (v := nV c) (by show (1 : Int) ≤ 4 ∧ (4 : Int) ≤ 8 ∧ 0 ≤ 200; decide) (by show (4 : Int) = 8 ↔ (0 : Int) ≠ 0; decide) (fun _ => h) (fun h => absurd rfl h) (fun h => absurd (show (4 : Int) = 5 from h) (by decide)) (fun _ => rfl) (fun h => absurd (show (4 : Int) = 7 from h) (by decide)) (fun _ => rfl) (.inl rfl) (by intro k hk; cases hk)
theorem wa : qCS [97] = true := by unfold qCS; rw [Lib.validD_cons _ _ (by decide)]; rfl
theorem wb : qCS [98] = true := by unfold qCS; rw [Lib.validD_cons _ _ (by decide)]; rfl
theorem n49 : zL (nV 49) = true := qXO (by decide +kernel)
theorem n50 : zL (nV 50) = true := qXO (by decide +kernel)
theorem n51 : zL (nV 51) = true := qXO (by decide +kernel)
theorem qXU {vs : List Val} (hl : vs.length ≤ 200) (h : ∀ v ∈ vs, zL v = true) : zL (lV vs) = true :=
 qFN (v := lV vs) ⟨show (1 : Int) ≤ 6 by decide, show (6 : Int) ≤ 8 by decide, hl⟩ (by show (6 : Int) = 8 ↔ (0 : Int) ≠ 0; decide) (fun h => absurd (show (6 : Int) = 4 from h) (by decide)) (fun _ => rfl) (fun h => absurd (show (6 : Int) = 5 from h) (by decide)) (fun _ => rfl) (fun h => absurd (show (6 : Int) = 7 from h) (by decide)) (fun _ => rfl) (.inr (.inl rfl)) h
theorem qXJ {ks : List (List UInt8)} {vs : List Val} (hl : vs.length ≤ 200) (hk : ks.length = vs.length) (hw : qEZ ks = true) (h : ∀ v ∈ vs, zL v = true) : zL (oV ks vs) = true :=
 qFN (v := oV ks vs) ⟨show (1 : Int) ≤ 7 by decide, show (7 : Int) ≤ 8 by decide, hl⟩ (by show (7 : Int) = 8 ↔ (0 : Int) ≠ 0; decide) (fun h => absurd (show (7 : Int) = 4 from h) (by decide)) (fun _ => rfl) (fun h => absurd (show (7 : Int) = 5 from h) (by decide)) (fun _ => rfl) (fun _ => ⟨hk, hw⟩) (fun h => absurd rfl h) (.inr (.inr rfl)) h
theorem mA : zL (oV [[97]] [nV 49]) = true := qXJ (by decide) rfl (by simp [qEZ, wa]) (by intro v hv; rw [List.mem_singleton.1 hv]; exact n49)
theorem mB : zL (oV [[98], [97]] [nV 50, nV 51]) = true := qXJ (by decide) rfl (by simp [qEZ, wa, wb]) (by
 intro v hv
 simp only [List.mem_cons, List.not_mem_nil, or_false] at hv
 rcases hv with rfl | rfl
 ·exact n50
 ·exact n51)
theorem mR : zL (oV [[97], [98]] [nV 51, nV 50]) = true := qXJ (by decide) rfl (by simp [qEZ, wa, wb]) (by
 intro v hv
 simp only [List.mem_cons, List.not_mem_nil, or_false] at hv
 rcases hv with rfl | rfl
 ·exact n51
 ·exact n50)
theorem mC : zL (lV [nV 49, nV 50, nV 49]) = true := qXU (by decide) (by
 intro v hv
 simp only [List.mem_cons, List.not_mem_nil, or_false] at hv
 rcases hv with rfl | rfl | rfl
 ·exact n49
 ·exact n50
 ·exact n49)
theorem mD : zL (lV [nV 49]) = true := qXU (by decide) (by intro v hv; rw [List.mem_singleton.1 hv]; exact n49)
theorem mS : zL (lV [nV 50]) = true := qXU (by decide) (by intro v hv; rw [List.mem_singleton.1 hv]; exact n50)
theorem qXA  : AFn Tryz.prog G 9 [] (.bool true) := by
 refine AFn.introU tok Tryz.func9 (by kernel_rfl) rfl rfl ?_
 simp only [Tryz.f9, qK, List.map_cons, List.map_nil]
 have dA := qSB (G := G) sA (by decide)
 have dB := qSB (G := G) sB (by decide)
 have dC := qSB (G := G) sC (by decide)
 have dD := qSB (G := G) sD (by decide)
 rw [sA_one] at dA
 rw [sB_one] at dB
 rw [sC_one] at dC
 rw [sD_one] at dD
 have hp := qTG (G := G) _ _ mA mB rfl rfl rfl rfl
 have hl := qGD (G := G) _ _ mC mD rfl rfl
 rw [s_less] at hl
 have e0 : orM (oV [[97]] [nV 49]).mask (oV [[98], [97]] [nV 50, nV 51]).mask = orM 0 0 := rfl
 rw [e0, s_plus] at hp
 have p1 := qLI (G := G) _ mR (by decide +kernel) (by simp [oV, nV, vX, uU]) (fun h => absurd h (by decide +kernel))
 have p2 := qLI (G := G) _ mS (by decide +kernel) (by simp [lV, nV, vX, uU]) (fun h => absurd h (by decide +kernel))
 rw [s_print1] at p1
 rw [s_print2] at p2
 unfold sA at dA
 unfold sB at dB
 unfold sC at dC
 unfold sD at dD
 generalize oV [[97]] [nV 49] = A at *
 generalize oV [[98], [97]] [nV 50, nV 51] = B at *
 generalize oV [[97], [98]] [nV 51, nV 50] = R at *
 generalize lV [nV 49, nV 50, nV 49] = C at *
 generalize lV [nV 49] = D at *
 generalize lV [nV 50] = S at *
 simp only [Val.enc_def] at dA dB dC dD hp hl p1 p2
 refine rgn [] [[17]] ?_
 refine op1 tok ?_
 refine qA ?_
 refine rgn [.nilp, A.enc, .nilp, B.enc, .nilp, R.enc] [[], [], [], [], [1]] ?_
 iterate 5 refine op1 tok ?_ (hv := by first | with_reducible exact True.intro | (first | exact dA | exact dB | exact hp; done) | omega | simp | (simp +contextual; omega))
 refine qA ?_
 refine rgn [.nilp, C.enc, .nilp, D.enc, .nilp, S.enc] [[], [], [], [], [1, 2]] ?_
 iterate 5 refine op1 tok ?_ (hv := by first | with_reducible exact True.intro | (first | exact dC | exact dD | exact hl; done) | omega | simp | (simp +contextual; omega))
 refine qA ?_
 refine rgn [.nilp, .str [123, 34, 97, 34, 58, 51, 44, 34, 98, 34, 58, 50, 125], .nilp, .str [91, 50, 93]] [[], [], [], [2, 12], [], [], [], [16], [0]] ?_
 iterate 4 refine op1 tok ?_ (hv := by first | with_reducible exact True.intro | (first | exact p1 | exact p2; done) | omega | simp | (simp +contextual; omega))
 iterate 3 refine op2 tok ?_ (hv := by first | with_reducible exact True.intro | (first | exact p1 | exact p2; done) | omega | simp | (simp +contextual; omega))
 iterate 2 refine op1 tok ?_ (hv := by first | with_reducible exact True.intro | (first | exact p1 | exact p2; done) | omega | simp | (simp +contextual; omega))
 refine qA ?_
 exact AW.ret ⟨.inr rfl, _, _, by (conv => lhs; simp), trivial, by simp⟩
end Go.Proofs.YtdojfdaglbphlaaGreatDoor
