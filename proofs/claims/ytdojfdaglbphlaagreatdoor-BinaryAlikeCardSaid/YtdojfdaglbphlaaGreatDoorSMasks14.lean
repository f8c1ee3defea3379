import Derived.Test.YtdojfdaglbphlaaGreatDoorSTwoLaw
import Derived.Test.YtdojfdaglbphlaaGreatDoorSShown14
import Derived.Test.YtdojfdaglbphlaaGreatDoorK2
import Derived.Test.YtdojfdaglbphlaaGreatDoorK4
import Derived.Test.YtdojfdaglbphlaaGreatDoorSRefDeep
import Derived.Test.YtdojfdaglbphlaaGreatDoorSRefSB
import Derived.Test.YtdojfdaglbphlaaGreatDoorSRefMay
namespace Go.Proofs.YtdojfdaglbphlaaGreatDoor
open Sy Go
set_option maxRecDepth 100000
set_option maxHeartbeats 4000000
set_option linter.unusedSimpArgs false
set_option linter.unusedVariables false
variable {G : qV}
def zLX : List (List UInt8) := [[43], [45], [42], [47], [37], [61, 61], [33, 61], [60], [60, 61], [62], [62, 61], [97, 110, 100], [111, 114]]
def opN (n : Nat) : List UInt8 := zLX.getD (n % 13) []
theorem zPV (n : Nat) : zLX[n % 13]? = some (opN n) := by
 unfold opN
 have : n % 13 < zLX.length := Nat.mod_lt _ (by decide)
 rw [List.getD_eq_getElem?_getD, List.getElem?_eq_getElem this]; rfl
theorem zRM (n : Nat) (hn : n < 256) : AFn Tryz.prog G 13 [.int .u8 n] (.str (opN n)) := by
 refine AFn.introU tok Tryz.func13 (by kernel_rfl) rfl rfl ?_
 simp only [Tryz.f13, qI, List.map_cons, List.map_nil]
 have hg := zPV n
 have w1 : IntKind.i64.wrap (n : Int) = n := by simp [IntKind.wrap, IntKind.bits, IntKind.signed]; omega
 have w2 : (n : Int).tmod 13 = ((n % 13 : Nat) : Int) := (Int.ofNat_tmod n 13).symm
 have h13 : n % 13 < 13 := Nat.mod_lt _ (by decide)
 have hg' : (zLX.map PD.str)[n % 13]? = some (.str (opN n)) := by rw [List.getElem?_map, hg]; rfl
 generalize n % 13 = k at *
 simp only [zLX, List.map_cons, List.map_nil] at hg'
 refine rgn [] [[0]] ?_
 refine op1 tok ?_
 refine qA ?_
 refine rgn [.str [43], .str [45], .str [42], .str [47], .str [37], .str [61, 61], .str [33, 61], .str [60], .str [60, 61], .str [62], .str [62, 61], .str [97, 110, 100], .str [111, 114], .str (opN n)] [[], [], [], [], [7], [], [2]] ?_
 iterate 7 refine op1 tok ?_ (h := by intro C; conv => lhs; simp [w1, w2]) (hv := by first | with_reducible exact True.intro | (first | exact hg' | (simp; done) | (simp; omega) | (simp [w1, w2]; done) | (simp [w1, w2]; omega); done) | omega | simp | (simp +contextual; omega))
 refine qA ?_
 exact AW.ret qJ
theorem qQW (l m : List Item) (n : Nat) (hl : ∀ x ∈ l, x.keys.length ≤ 140737488351232) (hm : ∀ x ∈ m, x.keys.length ≤ 140737488351232) (il : ∀ x ∈ l, InM x.mask) (im : ∀ x ∈ m, InM x.mask) (hn : n < 256) : AFn Tryz.prog G 4 [.sl 6 (l.map Item.enc), .sl 6 (m.map Item.enc), .int .u8 n] (.bool true) := by
 refine AFn.introU tok Tryz.func4 (by kernel_rfl) rfl rfl ?_
 simp only [Tryz.f4, qI, List.map_cons, List.map_nil]
 have hsh := qOB (G := G)
 have hbl := qDO (G := G) l hl
 have hbm := qDO (G := G) m hm
 have ma := qAS l
 have mb := qAS m
 have ia := qDF il
 have ib := qDF im
 have hop := zRM (G := G) n hn
 generalize xH l = a at *
 generalize xH m = b at *
 generalize opN n = op at *
 have h2 := qVD (G := G) op a b ma mb
 have ba := qHU (G := G) a ma
 have bb := qHU (G := G) b mb
 have h3 := qVD (G := G) op (qK a) (qK b) (by rw [qGB]; exact ma) (by rw [qGB]; exact mb)
 rw [← zMK op ma mb] at h3
 obtain ⟨b1, b2⟩ := qWF op ma mb ia ib
 have hx := qWE op ma mb
 have da := qHT (G := G) a ma
 have db := qHT (G := G) b mb
 have dx := qHT (G := G) (uA op a b) hx
 have bx := qHU (G := G) (uA op a b) hx
 have sx := zCS (G := G) (qK (uA op a b)) (by rw [qGB]; exact hx) (qK (uA op a b))
 rw [zHP] at sx
 have mx := zCT (G := G) (uA op a b)
 rw [hx] at mx
 have e1 : zRA (uA op a b).mask (orM a.mask b.mask) = orM a.mask b.mask := b1.and (qZG _ _)
 have e2 : yI (qM (uA op a b)) (orM (qM a) (qM b)) = 0 := b2.sub
 generalize uA op a b = x at *
 generalize qK x = y at *
 generalize qK a = a0 at *
 generalize qK b = b0 at *
 simp only [Val.enc_def, Item.enc] at hbl hbm h2 ba bb h3 da db dx bx sx mx
 refine rgn [] [[0, 1, 2]] ?_
 refine op1 tok ?_
 refine qA ?_
 refine rgn [.nilp, .bool true] [[], [0, 1, 2, 7]] ?_
 iterate 2 refine op1 tok ?_ (hv := by first | with_reducible exact True.intro | (exact hsh; done) | omega | simp | (simp +contextual; omega))
 refine qA ?_
 refine rgn [.nilp, a.enc] [[], [], [], [1, 2, 7, 8]] ?_
 iterate 4 refine op1 tok ?_ (hv := by first | with_reducible exact True.intro | ((simp at hbl ⊢; exact hbl); done) | omega | simp | (simp +contextual; omega))
 refine qA ?_
 refine rgn [.nilp, b.enc] [[], [], [], [2, 7, 8, 9]] ?_
 iterate 4 refine op1 tok ?_ (hv := by first | with_reducible exact True.intro | ((simp at hbm ⊢; exact hbm); done) | omega | simp | (simp +contextual; omega))
 refine qA ?_
 refine AW.seqDrawS tok mixed 6 [[2], [21], [8], [9], [22, 23, 24], []] [.nilp, .str op, .nilp, x.enc] [] (by kernel_rfl) ?_
 iterate 6 refine d1 ?_ (hv := by first | with_reducible exact True.intro | (first | exact hop | exact h2; done) | omega | simp | (simp +contextual; omega))
 refine DGo.nil (by kernel_rfl) ⟨by kernel_rfl, ?_⟩
 refine qC.run [[2, 7, 8, 9, 10]] ?_
 refine op1 tok ?_
 refine qA ?_
 refine AW.seqDrawS tok mixed 8 [[2], [26], [8], [28], [9], [30], [27, 29, 31], []] [.nilp, .str op, .nilp, a0.enc, .nilp, b0.enc, .nilp, y.enc] [] (by kernel_rfl) ?_
 iterate 8 refine d1 ?_ (hv := by first | with_reducible exact True.intro | (first | exact hop | exact ba | exact bb | exact h3; done) | omega | simp | (simp +contextual; omega))
 refine DGo.nil (by kernel_rfl) ⟨by kernel_rfl, ?_⟩
 refine qC.run [[7, 8, 9, 10, 11]] ?_
 refine op1 tok ?_
 refine qA ?_
 refine rgn [] [[], [], [], [], [7, 8, 9, 10, 11, 37], [7, 8, 9, 10, 11, 12]] ?_
 iterate 6 refine op1 tok ?_ (h := by intro C; conv => lhs; simp [wI])
 refine qA ?_
 refine AW.seqDrawS tok mixed 5 [[8], [38], [9], [40], [39, 41]] [.nilp, .int .u64 (qM a), .nilp, .int .u64 (qM b)] [] (by kernel_rfl) ?_
 iterate 5 refine d1 ?_ (h := by intro C; conv => lhs; simp [wI]) (hv := by first | with_reducible exact True.intro | (first | exact da | exact db; done) | omega | simp | (simp +contextual; omega))
 refine DGo.nil (by kernel_rfl) ⟨by kernel_rfl, ?_⟩
 refine qC.run [[7, 10, 11, 12, 13]] ?_
 refine op1 tok ?_ (h := by intro C; conv => lhs; simp [wI])
 refine qA ?_
 refine AW.seqDrawS tok mixed 4 [[10], [43], [11], [44, 45]] [.nilp, y.enc, .nilp, .bool true] [] (by kernel_rfl) ?_
 iterate 4 refine d1 ?_ (hv := by first | with_reducible exact True.intro | (first | exact bx | exact sx; done) | omega | simp | (simp +contextual; omega))
 refine DGo.nil (by kernel_rfl) ⟨by kernel_rfl, ?_⟩
 refine qC.run [[7, 10, 12, 13, 14]] ?_
 refine op1 tok ?_
 refine qA ?_
 refine rgn [.nilp, .bool true] [[], [], [7, 10, 12, 13, 14, 15]] ?_
 iterate 3 refine op1 tok ?_ (hv := by first | with_reducible exact True.intro | (exact mx; done) | omega | simp | (simp +contextual; omega))
 refine qA ?_
 refine rgn [.nilp, .int .u64 (qM x)] [[], [], [], [], [], [10, 12, 13, 14, 15, 50, 54], [], [], [10, 13, 14, 15, 57], [], [], [], [14, 15, 58, 60, 61], [], [], [14, 15, 64], [], [], [15, 67], [], [], [70], [6]] ?_
 iterate 23 first | refine op1 tok ?_ (h := by intro C; conv => lhs; simp [zBN, qNT, e1, e2]) (hv := by first | with_reducible exact True.intro | (first | exact fun _ => dx | exact dx | (simp; done); done) | omega | simp | (simp +contextual; omega)) | refine op2 tok ?_ (h := by intro C; conv => lhs; simp [zBN, qNT, e1, e2]) (hv := by first | with_reducible exact True.intro | (first | exact fun _ => dx | exact dx | (simp; done); done) | omega | simp | (simp +contextual; omega))
 refine qA ?_
 exact AW.ret qJ
end Go.Proofs.YtdojfdaglbphlaaGreatDoor
