import Derived.Test.YtdojfdaglbphlaaGreatDoorSTwo2
import Derived.Test.YtdojfdaglbphlaaGreatDoorSUnqP
import Derived.Test.YtdojfdaglbphlaaGreatDoorK3
namespace Go.Proofs.YtdojfdaglbphlaaGreatDoor
open Sy Go
set_option maxRecDepth 100000
set_option maxHeartbeats 4000000
set_option linter.unusedSimpArgs false
set_option linter.unusedVariables false
variable {G : qQ}
def nV (c : UInt8) : Val := .mk 4 0 ⟨false, [c], 0⟩ [] [] [] 0
def oV (ks : List (List UInt8)) (vs : List Val) : Val := .mk 7 0 dc0 [] ks vs 0
def lV (vs : List Val) : Val := .mk 6 0 dc0 [] [] vs 0
def sA : List UInt8 := [123, 34, 97, 34, 58, 49, 125]
def sB : List UInt8 := [123, 34, 98, 34, 58, 50, 44, 34, 97, 34, 58, 51, 125]
def sC : List UInt8 := [91, 49, 44, 50, 44, 49, 93]
def sD : List UInt8 := [91, 49, 93]
theorem zRE : (qPX sA).1 = oV [[97]] [nV 49] := by kernel_rfl
theorem zRD : (qPX sB).1 = oV [[98], [97]] [nV 50, nV 51] := by kernel_rfl
theorem zRC : (qPX sC).1 = lV [nV 49, nV 50, nV 49] := by kernel_rfl
theorem zRB : (qPX sD).1 = lV [nV 49] := by kernel_rfl
theorem zQZ : qXQ (oV [[97]] [nV 49]) (oV [[98], [97]] [nV 50, nV 51]) (orM 0 0) = oV [[97], [98]] [nV 51, nV 50] := by kernel_rfl
theorem zRA : qFB (lV [nV 49, nV 50, nV 49]) (lV [nV 49]) (orM (qZ (lV [nV 49, nV 50, nV 49])) (qZ (lV [nV 49]))) = lV [nV 50] := by kernel_rfl
theorem zJO : zQ (oV [[97], [98]] [nV 51, nV 50]) = [123, 34, 97, 34, 58, 51, 44, 34, 98, 34, 58, 50, 125] := by kernel_rfl
theorem zJN : zQ (lV [nV 50]) = [91, 50, 93] := by kernel_rfl
theorem zBX {c : UInt8} (h : zP ⟨false, [c], 0⟩ = true) : qT (nV c) = true :=
 jF (v := nV c) (by show (1 : Int) ≤ 4 ∧ (4 : Int) ≤ 8 ∧ 0 ≤ 200; decide) (by show (4 : Int) = 8 ↔ (0 : Int) ≠ 0; decide) (fun _ => h) (fun h => absurd rfl h) (fun h => absurd (show (4 : Int) = 5 from h) (by decide)) (fun _ => rfl) (fun h => absurd (show (4 : Int) = 7 from h) (by decide)) (fun _ => rfl) (.inl rfl) (by intro k hk; cases hk)
theorem wa : jN [97] = true := by unfold jN; rw [Lib.validD_cons _ _ (by decide)]; rfl
theorem wb : jN [98] = true := by unfold jN; rw [Lib.validD_cons _ _ (by decide)]; rfl
theorem n49 : qT (nV 49) = true := zBX (by decide +kernel)
theorem n50 : qT (nV 50) = true := zBX (by decide +kernel)
theorem n51 : qT (nV 51) = true := zBX (by decide +kernel)
theorem zCB {vs : List Val} (hl : vs.length ≤ 200) (h : ∀ v ∈ vs, qT v = true) : qT (lV vs) = true :=
 jF (v := lV vs) ⟨show (1 : Int) ≤ 6 by decide, show (6 : Int) ≤ 8 by decide, hl⟩ (by show (6 : Int) = 8 ↔ (0 : Int) ≠ 0; decide) (fun h => absurd (show (6 : Int) = 4 from h) (by decide)) (fun _ => rfl) (fun h => absurd (show (6 : Int) = 5 from h) (by decide)) (fun _ => rfl) (fun h => absurd (show (6 : Int) = 7 from h) (by decide)) (fun _ => rfl) (.inr (.inl rfl)) h
theorem zBR {ks : List (List UInt8)} {vs : List Val} (hl : vs.length ≤ 200) (hk : ks.length = vs.length) (hw : qBO ks = true) (h : ∀ v ∈ vs, qT v = true) : qT (oV ks vs) = true :=
 jF (v := oV ks vs) ⟨show (1 : Int) ≤ 7 by decide, show (7 : Int) ≤ 8 by decide, hl⟩ (by show (7 : Int) = 8 ↔ (0 : Int) ≠ 0; decide) (fun h => absurd (show (7 : Int) = 4 from h) (by decide)) (fun _ => rfl) (fun h => absurd (show (7 : Int) = 5 from h) (by decide)) (fun _ => rfl) (fun _ => ⟨hk, hw⟩) (fun h => absurd rfl h) (.inr (.inr rfl)) h
theorem mA : qT (oV [[97]] [nV 49]) = true := zBR (by decide) rfl (by simp [qBO, wa]) (by intro v hv; rw [List.mem_singleton.1 hv]; exact n49)
theorem mB : qT (oV [[98], [97]] [nV 50, nV 51]) = true := zBR (by decide) rfl (by simp [qBO, wa, wb]) (by
 intro v hv
 simp only [List.mem_cons, List.not_mem_nil, or_false] at hv
 rcases hv with rfl | rfl
 ·exact n50
 ·exact n51)
theorem mR : qT (oV [[97], [98]] [nV 51, nV 50]) = true := zBR (by decide) rfl (by simp [qBO, wa, wb]) (by
 intro v hv
 simp only [List.mem_cons, List.not_mem_nil, or_false] at hv
 rcases hv with rfl | rfl
 ·exact n51
 ·exact n50)
theorem mC : qT (lV [nV 49, nV 50, nV 49]) = true := zCB (by decide) (by
 intro v hv
 simp only [List.mem_cons, List.not_mem_nil, or_false] at hv
 rcases hv with rfl | rfl | rfl
 ·exact n49
 ·exact n50
 ·exact n49)
theorem mD : qT (lV [nV 49]) = true := zCB (by decide) (by intro v hv; rw [List.mem_singleton.1 hv]; exact n49)
theorem mS : qT (lV [nV 50]) = true := zCB (by decide) (by intro v hv; rw [List.mem_singleton.1 hv]; exact n50)
theorem qUH {s : List UInt8} (hs : s.length ≤ 1000) (h : s.all (fun b => b != 92) = true) : qPM G s := fun k => qWM (G := G) (s.drop k) (by simp; omega) fun b hb => by
 have := List.all_eq_true.1 h b (List.mem_of_mem_drop hb)
 simpa using this
def zWJ (s : List UInt8) : Bool := (List.range (s.length + 1)).all fun k => decide (xQ ((s.drop k).takeWhile yS) = wG ((s.drop k).takeWhile yS))
theorem qUI {s : List UInt8} (hs : s.length ≤ 1000) (h : zWJ s = true) : qTH G s := fun k => by
 have hle := (List.takeWhile_sublist yS (l := s.drop k)).length_le
 rw [List.length_drop] at hle
 have hp := zAH (G := G) ((s.drop k).takeWhile yS) (by omega)
 have e : xQ ((s.drop k).takeWhile yS) = wG ((s.drop k).takeWhile yS) := by
  unfold zWJ at h
  rw [List.all_eq_true] at h
  by_cases hk : k ≤ s.length
  ·exact of_decide_eq_true (h k (List.mem_range.2 (by omega)))
  ·have := h s.length (List.mem_range.2 (by omega))
   rw [List.drop_of_length_le (Nat.le_refl _)] at this
   rw [List.drop_of_length_le (by omega)]
   exact of_decide_eq_true this
 rwa [e] at hp
theorem zBE  : AFn Tryz.prog G 9 [] (.bool true) := by
 refine AFn.introU tok Tryz.func9 (by kernel_rfl) rfl rfl ?_
 simp only [Tryz.f9, qJ, List.map_cons, List.map_nil]
 have dA := qVD (G := G) sA (by decide) (qUH (by decide) (by decide)) (qUI (by decide) (by decide +kernel))
 have dB := qVD (G := G) sB (by decide) (qUH (by decide) (by decide)) (qUI (by decide) (by decide +kernel))
 have dC := qVD (G := G) sC (by decide) (qUH (by decide) (by decide)) (qUI (by decide) (by decide +kernel))
 have dD := qVD (G := G) sD (by decide) (qUH (by decide) (by decide)) (qUI (by decide) (by decide +kernel))
 rw [zRE] at dA
 rw [zRD] at dB
 rw [zRC] at dC
 rw [zRB] at dD
 have hp := qWO (G := G) _ _ mA mB rfl rfl rfl rfl
 have hl := qHO (G := G) _ _ mC mD rfl rfl
 rw [zRA] at hl
 have e0 : orM (oV [[97]] [nV 49]).mask (oV [[98], [97]] [nV 50, nV 51]).mask = orM 0 0 := rfl
 rw [e0, zQZ] at hp
 have p1 := qNM (G := G) _ mR (by decide +kernel) (by simp [oV, nV, qAF, qBB]) (fun h => absurd h (by decide +kernel))
 have p2 := qNM (G := G) _ mS (by decide +kernel) (by simp [lV, nV, qAF, qBB]) (fun h => absurd h (by decide +kernel))
 rw [zJO] at p1
 rw [zJN] at p2
 unfold sA at dA
 unfold sB at dB
 unfold sC at dC
 unfold sD at dD
 generalize oV [[97]] [nV 49] = A at *
 generalize oV [[98], [97]] [nV 50, nV 51] = B at *
 generalize oV [[97], [98]] [nV 51, nV 50] = R at *
 generalize lV [nV 49, nV 50, nV 49] = C at *
 generalize lV [nV 49] = D at *
 generalize lV [nV 50] = S at *
 simp only [Val.enc_def] at dA dB dC dD hp hl p1 p2
 refine rgn [] [[17]] ?_
 refine op1 tok ?_
 refine qA ?_
 refine rgn [.nilp, A.enc, .nilp, B.enc, .nilp, R.enc] [[], [], [], [], [1]] ?_
 iterate 5 refine op1 tok ?_ (hv := by first | with_reducible exact True.intro | (first | exact dA | exact dB | exact hp; done) | omega | simp | (simp +contextual; omega))
 refine qA ?_
 refine rgn [.nilp, C.enc, .nilp, D.enc, .nilp, S.enc] [[], [], [], [], [1, 2]] ?_
 iterate 5 refine op1 tok ?_ (hv := by first | with_reducible exact True.intro | (first | exact dC | exact dD | exact hl; done) | omega | simp | (simp +contextual; omega))
 refine qA ?_
 refine rgn [.nilp, .str [123, 34, 97, 34, 58, 51, 44, 34, 98, 34, 58, 50, 125], .nilp, .str [91, 50, 93]] [[], [], [], [2, 12], [], [], [], [16], [0]] ?_
 iterate 4 refine op1 tok ?_ (hv := by first | with_reducible exact True.intro | (first | exact p1 | exact p2; done) | omega | simp | (simp +contextual; omega))
 iterate 3 refine op2 tok ?_ (hv := by first | with_reducible exact True.intro | (first | exact p1 | exact p2; done) | omega | simp | (simp +contextual; omega))
 iterate 2 refine op1 tok ?_ (hv := by first | with_reducible exact True.intro | (first | exact p1 | exact p2; done) | omega | simp | (simp +contextual; omega))
 refine qA ?_
 exact AW.ret qI
end Go.Proofs.YtdojfdaglbphlaaGreatDoor
