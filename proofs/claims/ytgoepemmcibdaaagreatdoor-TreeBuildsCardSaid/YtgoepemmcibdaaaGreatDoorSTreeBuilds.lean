import Derived.Test.YtgoepemmcibdaaaGreatDoorSTreeRest
import Derived.Test.YtgoepemmcibdaaaGreatDoorSRefRest
import Derived.Test.YtgoepemmcibdaaaGreatDoorSTreeLaw2
import Derived.Test.YtgoepemmcibdaaaGreatDoorSShown4
import Derived.Test.YtgoepemmcibdaaaGreatDoorM3
namespace Go.Proofs.YtgoepemmcibdaaaGreatDoor
open Sy Go
set_option maxRecDepth 100000
set_option maxHeartbeats 4000000
set_option linter.unusedSimpArgs false
set_option linter.unusedVariables false
variable {G : Glob}
def list2 (m : Int) (a b : Val) : Val := .mk 6 m dc0 [] [] [a, b] 0
def obj2 (m : Int) (s t : List UInt8) (a b : Val) : Val := .mk 7 m dc0 [] [s, t] [a, b] 0
theorem valid_x : Lib.validD [120] = true := by rw [valid_eq]; decide +kernel
theorem valid_y : Lib.validD [121] = true := by rw [valid_eq]; decide +kernel
theorem list1_may {a : Val} (ha : mayT a = true) : mayT (listV [a]) = true := by
  refine mayT_intro ?_ ?_ ?_ ?_ ?_ ?_ ?_ ?_ ?_ ?_ <;> simp [listV, dc0, ha]
theorem list2_may {m : Int} {a b : Val} (ha : mayT a = true) (hb : mayT b = true) : mayT (list2 m a b) = true := by
  refine mayT_intro ?_ ?_ ?_ ?_ ?_ ?_ ?_ ?_ ?_ ?_ <;> simp [list2, ha, hb]
theorem obj2_may {m : Int} {s t : List UInt8} {a b : Val} (hs : wordT s = true) (ht : wordT t = true) (hn : s ≠ t) (ha : mayT a = true) (hb : mayT b = true) : mayT (obj2 m s t a b) = true := by
  refine mayT_intro ?_ ?_ ?_ ?_ ?_ ?_ ?_ ?_ ?_ ?_ <;> simp [obj2, ha, hb, keysT, hs, ht, hn]
theorem word_x : wordT [120] = true := by simp [wordT, valid_x]
theorem word_y : wordT [121] = true := by simp [wordT, valid_y]
theorem cmp_list1 {a b : Val} (ha : mayT a = true) (hb : mayT b = true) : cmpT (listV [a]) (listV [b]) = cmpT a b := by
  have e : Val.sz (listV [a]) = 1 + Val.sz a := by rw [sz_eq]; simp [listV]
  have h : ∀ f, cmpF (f + 1) (listV [a]) (listV [b]) = cmpF f a b := fun f => by
    rw [cmpF_succ]
    have : cmpI (listV [a]).kind (listV [b]).kind = 0 := cmpI_self _
    rw [if_neg (by omega)]
    show cmpL (cmpF f) [a] [b] = _
    simp only [cmpL]
    split <;> omega
  rw [show cmpT (listV [a]) (listV [b]) = cmpF (Val.sz (listV [a]) + 1) (listV [a]) (listV [b]) from rfl, h, ← cmpT_fuel ha hb (by omega)]
theorem sort_xy : sortK [[121], [120]] = [[120], [121]] ∧ sortK [[120], [121]] = [[120], [121]] := by
  have h : ([120] : List UInt8) < [121] := by decide
  constructor
  · simp [sortK, List.mergeSort, List.MergeSort.Internal.splitInTwo, List.merge]; exact h
  · simp [sortK, List.mergeSort, List.MergeSort.Internal.splitInTwo, List.merge]; exact fun h2 => (by decide : ¬ ([121] : List UInt8) < [120]) h2
theorem kid_obj2 {m : Int} {s t : List UInt8} {a b : Val} (hn : s ≠ t) : kidOf (obj2 m s t a b) s = a ∧ kidOf (obj2 m s t a b) t = b := by
  unfold kidOf
  have h1 : List.idxOf s [s, t] = 0 := by simp [List.idxOf_cons]
  have h2 : List.idxOf t [s, t] = 1 := by simp [List.idxOf_cons, show (s == t) = false by simpa using hn]
  exact ⟨by show [a, b].getD (List.idxOf s [s, t]) nullV = a; rw [h1]; rfl, by show [a, b].getD (List.idxOf t [s, t]) nullV = b; rw [h2]; rfl⟩
theorem cmpL_refl {α : Type} {p : α → α → Int} {l : List α} (h : ∀ x ∈ l, p x x = 0) : cmpL p l l = 0 := by
  induction l with
  | nil => rfl
  | cons x l ih => simp only [cmpL]; rw [if_neg (by have := h x (by simp); omega)]; exact ih fun y hy => h y (by simp [hy])
theorem cmp_obj2 {m n : Int} {a b : Val} (ha : mayT a = true) (hb : mayT b = true) : cmpT (obj2 m [121] [120] a b) (obj2 n [120] [121] b a) = 0 := by
  have h : ∀ f, cmpF (f + 1) (obj2 m [121] [120] a b) (obj2 n [120] [121] b a) = 0 := fun f => by
    rw [cmpF_succ]
    have : cmpI (obj2 m [121] [120] a b).kind (obj2 n [120] [121] b a).kind = 0 := cmpI_self _
    rw [if_neg (by omega)]
    have k1 := kid_obj2 (m := m) (s := [121]) (t := [120]) (a := a) (b := b) (by decide)
    have k2 := kid_obj2 (m := n) (s := [120]) (t := [121]) (a := b) (b := a) (by decide)
    have e1 : kidsS (obj2 m [121] [120] a b) = [b, a] := by
      show (sortK [[121], [120]]).map _ = _
      rw [sort_xy.1]; simp only [List.map_cons, List.map_nil, k1.1, k1.2]
    have e2 : kidsS (obj2 n [120] [121] b a) = [b, a] := by
      show (sortK [[120], [121]]).map _ = _
      rw [sort_xy.2]; simp only [List.map_cons, List.map_nil, k2.1, k2.2]
    show (if cmpL cmpS (sortK [[121], [120]]) (sortK [[120], [121]]) ≠ 0 then cmpL cmpS (sortK [[121], [120]]) (sortK [[120], [121]]) else cmpL (cmpF f) (kidsS (obj2 m [121] [120] a b)) (kidsS (obj2 n [120] [121] b a))) = 0
    rw [sort_xy.1, sort_xy.2, e1, e2, cmpL_refl (p := cmpS) fun x _ => cmpS_ord.refl trivial, if_neg (by omega)]
    refine cmpL_refl fun x hx => (cmpF_ord f).refl ?_
    simp at hx
    rcases hx with rfl | rfl <;> assumption
  exact h _
theorem deep_list2 (m : Int) (a b : Val) : deepV (list2 m a b) = orM (orM (deepV a) (deepV b)) m := by
  rw [deepV_eq]
  show deepL m [a, b] = _
  simp only [deepL]
  rw [or_assoc, or_comm]
theorem at_list2 (m : Int) (a b : Val) : atV (list2 m a b) 1 = (withV b m, true) := rfl
theorem sz_list2 (m : Int) (a b : Val) : ((Val.sz (list2 m a b) : Nat) : Int) = Val.sz a + Val.sz b + 1 := by
  rw [sz_eq]; show ((1 + Val.szL [a, b] : Nat) : Int) = _; simp only [Val.szL]; omega
theorem dep_list2 (m : Int) (a b : Val) : ((depV (list2 m a b) : Nat) : Int) = (if depV a < depV b then ((depV b : Nat) : Int) else ((depV a : Nat) : Int)) + 1 := by
  rw [depV_eq]; show ((depL 0 [a, b] + 1 : Nat) : Int) = _; simp only [depL]; split <;> omega
theorem TreeBuilds_ev (hG : U8 G) (l m : List Item) (mask : Int) (hl : ∀ x ∈ l, x.keys.length ≤ 140737488351232) (hm : ∀ x ∈ m, x.keys.length ≤ 140737488351232) : AFn Tryz.prog G 3 [.sl 6 (l.map Item.enc), .sl 6 (m.map Item.enc), .int .u64 mask] (.bool true) := by
  refine AFn.introU tok Tryz.func3 (by kernel_rfl) rfl rfl ?_
  simp only [Tryz.f3, enumA, List.map_cons, List.map_nil]
  have hsh := shown4_ev hG
  have hbl := Built_ev (G := G) l hl
  have hbm := Built_ev (G := G) m hm
  have ma := built_may l
  have mb := built_may m
  have za := built_sz l
  have zb := built_sz m
  generalize builtM l = a at hbl ma za
  generalize builtM m = b at hbm mb zb
  have mo := obj2_may (m := mask) word_y word_x (by decide) ma mb
  have mt := obj2_may (m := 0) word_x word_y (by decide) mb ma
  have h1 := at_ev (G := G) (list2 mask a b) 1 (list2_may ma mb) (by omega)
  rw [at_list2] at h1
  have h2 := get_ev (G := G) (obj2 mask [121] [120] a b) [120] mo
  rw [show getV (obj2 mask [121] [120] a b) [120] = (withV b mask, true) from get_in (k := 1) mo rfl rfl rfl] at h2
  have h3 := size_ev (G := G) a (by omega)
  have h4 := size_ev (G := G) b (by omega)
  have h5 := size_ev (G := G) (list2 mask a b) (by have := sz_list2 mask a b; omega)
  rw [sz_list2, dep_list2] at h5
  have h6 := with_ev (G := G) b mask mb
  have h7 := refSame_ev (G := G) (withV b mask) (by rw [with_may]; exact mb) (withV b mask)
  rw [same_self] at h7
  have h8 := cmpT_ev (G := G) (listV [a]) (listV [b]) (list1_may ma) (list1_may mb)
  rw [cmp_list1 ma mb] at h8
  have h9 := mayT_ev hG (list2 mask a b)
  rw [list2_may ma mb] at h9
  have h10 := mayT_ev hG (obj2 mask [121] [120] a b)
  rw [mo] at h10
  have h11 := cmpT_ev (G := G) a b ma mb
  have h12 := cmpT_ev (G := G) (obj2 mask [121] [120] a b) (obj2 0 [120] [121] b a) mo mt
  rw [cmp_obj2 ma mb] at h12
  have h13 := deep_ev (G := G) (list2 mask a b)
  rw [deep_list2] at h13
  have h14 := deep_ev (G := G) a
  have h15 := deep_ev (G := G) b
  have da := dep_le_sz a
  have db := dep_le_sz b
  generalize withV b mask = w at *
  simp [list2, obj2, listV, dc0] at h1 h2 h3 h4 h5 h6 h7 h8 h9 h10 h11 h12 h13 h14 h15
  refine AW.seqRegionO [] ?_
  refine s1 tok [0, 1, 2] ?_
  refine AOpsO.nil ?_
  refine AW.seqRegionO [.nilp, .bool true] ?_
  refine s1 tok [0, 1, 2, 26] ?_ (hv := by first | with_reducible exact True.intro | (exact hsh; done) | omega | simp | (simp; omega) | (simp +contextual; omega))
  refine s1 tok [0, 1, 2, 7] ?_
  refine AOpsO.nil ?_
  refine AW.seqRegionO [.nilp, a.enc] ?_
  refine s1 tok [1, 2, 7, 27] ?_
  refine s1 tok [1, 2, 7, 28] ?_ (hv := by first | with_reducible exact True.intro | ((simp at hbl ⊢; exact hbl); done) | omega | simp | (simp; omega) | (simp +contextual; omega))
  refine s1 tok [1, 2, 7, 8, 28] ?_
  refine s1 tok [1, 2, 7, 8] ?_ (hv := by first | with_reducible exact True.intro | ((simp at hbl ⊢; exact hbl); done) | omega | simp | (simp; omega) | (simp +contextual; omega))
  refine AOpsO.nil ?_
  refine AW.seqRegionO [.nilp, b.enc] ?_
  refine s1 tok [2, 7, 8, 29] ?_
  refine s1 tok [2, 7, 8, 30] ?_ (hv := by first | with_reducible exact True.intro | ((simp at hbm ⊢; exact hbm); done) | omega | simp | (simp; omega) | (simp +contextual; omega))
  refine s1 tok [2, 7, 8, 9, 30] ?_
  refine s1 tok [2, 7, 8, 9] ?_ (hv := by first | with_reducible exact True.intro | ((simp at hbm ⊢; exact hbm); done) | omega | simp | (simp; omega) | (simp +contextual; omega))
  refine AOpsO.nil ?_
  refine AW.seqRegionO [a.enc, b.enc] ?_
  refine s1 tok [2, 7, 8, 9, 31] ?_
  refine s1 tok [2, 7, 8, 9, 31, 32] ?_
  refine s1 tok [2, 7, 8, 9, 31, 32, 33] ?_
  refine s1 tok [2, 7, 8, 9, 31, 34] ?_
  refine AOpsO.freeze 34 (by conv => lhs; simp) ?_
  refine s1 tok [2, 7, 8, 9, 35] ?_
  refine s1 tok [2, 7, 8, 9, 10, 35] ?_
  refine s1 tok [2, 7, 8, 9, 10] ?_
  refine AOpsO.nil ?_
  refine AW.seqRegionO [.str [121], .str [120], a.enc, b.enc] ?_
  refine s1 tok [2, 7, 8, 9, 10, 36] ?_
  refine s1 tok [2, 7, 8, 9, 10, 36, 37] ?_
  refine s1 tok [2, 7, 8, 9, 10, 36, 37, 38] ?_
  refine s1 tok [2, 7, 8, 9, 10, 36, 37, 38, 39] ?_
  refine s1 tok [2, 7, 8, 9, 10, 36, 37, 40] ?_
  refine AOpsO.freeze 37 (by conv => lhs; simp) ?_
  refine AOpsO.freeze 40 (by conv => lhs; simp) ?_
  refine s1 tok [2, 7, 8, 9, 10, 41] ?_
  refine s1 tok [2, 7, 8, 9, 10, 11, 41] ?_
  refine s1 tok [2, 7, 8, 9, 10, 11] ?_
  refine AOpsO.nil ?_
  refine AW.seqRegionO [.str [120], .str [121], b.enc, a.enc] ?_
  refine s1 tok [2, 7, 8, 9, 10, 11, 42] ?_
  refine s1 tok [2, 7, 8, 9, 10, 11, 42, 43] ?_
  refine s1 tok [2, 7, 8, 9, 10, 11, 42, 43, 44] ?_
  refine s1 tok [2, 7, 8, 9, 10, 11, 42, 45] ?_
  refine AOpsO.freeze 42 (by conv => lhs; simp) ?_
  refine AOpsO.freeze 45 (by conv => lhs; simp) ?_
  refine s1 tok [2, 7, 8, 9, 10, 11, 46] ?_
  refine s1 tok [2, 7, 8, 9, 10, 11, 12, 46] ?_
  refine s1 tok [2, 7, 8, 9, 10, 11, 12] ?_
  refine AOpsO.nil ?_
  refine AW.seqRegionO [.nilp, .tup [w.enc, .bool true]] ?_
  refine s1 tok [2, 7, 8, 9, 10, 11, 12, 48] ?_ (hv := by first | with_reducible exact True.intro | (exact h1; done) | omega | simp | (simp; omega) | (simp +contextual; omega))
  refine s1 tok [2, 7, 8, 9, 10, 11, 12, 49] ?_ (hv := by first | with_reducible exact True.intro | (exact h1; done) | omega | simp | (simp; omega) | (simp +contextual; omega))
  refine s1 tok [2, 7, 8, 9, 10, 11, 12, 47] ?_
  refine s1 tok [2, 7, 8, 9, 10, 11, 12, 47, 50] ?_
  refine s1 tok [2, 7, 8, 9, 10, 11, 12, 50, 51] ?_
  refine s1 tok [2, 7, 8, 9, 10, 11, 12, 13, 50, 51] ?_
  refine s1 tok [2, 7, 8, 9, 10, 11, 12, 13, 51] ?_ (hv := by first | with_reducible exact True.intro | (exact h1; done) | omega | simp | (simp; omega) | (simp +contextual; omega))
  refine s1 tok [2, 7, 8, 9, 10, 11, 12, 13] ?_
  refine AOpsO.nil ?_
  refine AW.seqRegionO [.nilp, .tup [w.enc, .bool true]] ?_
  refine s1 tok [2, 7, 8, 9, 10, 11, 12, 13, 53] ?_ (hv := by first | with_reducible exact True.intro | (exact h2; done) | omega | simp | (simp; omega) | (simp +contextual; omega))
  refine s1 tok [2, 7, 8, 9, 10, 11, 12, 13, 54] ?_ (hv := by first | with_reducible exact True.intro | (exact h2; done) | omega | simp | (simp; omega) | (simp +contextual; omega))
  refine s1 tok [2, 7, 8, 9, 10, 11, 12, 13, 52] ?_
  refine s1 tok [2, 7, 8, 9, 10, 11, 12, 13, 52, 55] ?_
  refine s1 tok [2, 7, 8, 9, 10, 11, 12, 13, 55, 56] ?_
  refine s1 tok [2, 7, 8, 9, 10, 11, 12, 13, 15, 55, 56] ?_
  refine s1 tok [2, 7, 8, 9, 10, 11, 12, 13, 15, 56] ?_ (hv := by first | with_reducible exact True.intro | (exact h2; done) | omega | simp | (simp; omega) | (simp +contextual; omega))
  refine s1 tok [2, 7, 8, 9, 10, 11, 12, 13, 15] ?_
  refine AOpsO.nil ?_
  refine AW.seqRegionO [.nilp, .tup [.int .i64 (Val.sz a), .int .i64 (depV a)]] ?_
  refine s1 tok [2, 7, 8, 9, 10, 11, 12, 13, 15, 58] ?_ (hv := by first | with_reducible exact True.intro | (exact h3; done) | omega | simp | (simp; omega) | (simp +contextual; omega))
  refine s1 tok [2, 7, 8, 9, 10, 11, 12, 13, 15, 59] ?_ (hv := by first | with_reducible exact True.intro | (exact h3; done) | omega | simp | (simp; omega) | (simp +contextual; omega))
  refine s1 tok [2, 7, 8, 9, 10, 11, 12, 13, 15, 57] ?_
  refine s1 tok [2, 7, 8, 9, 10, 11, 12, 13, 15, 57, 60] ?_
  refine s1 tok [2, 7, 8, 9, 10, 11, 12, 13, 15, 60, 61] ?_
  refine s1 tok [2, 7, 8, 9, 10, 11, 12, 13, 15, 17, 61] ?_
  refine s1 tok [2, 7, 8, 9, 10, 11, 12, 13, 15, 17, 18] ?_
  refine AOpsO.nil ?_
  refine AW.seqRegionO [.nilp, .tup [.int .i64 (Val.sz b), .int .i64 (depV b)]] ?_
  refine s1 tok [2, 7, 8, 9, 10, 11, 12, 13, 15, 17, 18, 63] ?_ (hv := by first | with_reducible exact True.intro | (exact h4; done) | omega | simp | (simp; omega) | (simp +contextual; omega))
  refine s1 tok [2, 7, 8, 9, 10, 11, 12, 13, 15, 17, 18, 64] ?_ (hv := by first | with_reducible exact True.intro | (exact h4; done) | omega | simp | (simp; omega) | (simp +contextual; omega))
  refine s1 tok [2, 7, 8, 9, 10, 11, 12, 13, 15, 17, 18, 62] ?_
  refine s1 tok [2, 7, 8, 9, 10, 11, 12, 13, 15, 17, 18, 62, 65] ?_
  refine s1 tok [2, 7, 8, 9, 10, 11, 12, 13, 15, 17, 18, 65, 66] ?_
  refine s1 tok [2, 7, 8, 9, 10, 11, 12, 13, 15, 17, 18, 19, 66] ?_
  refine s1 tok [2, 7, 8, 9, 10, 11, 12, 13, 15, 17, 18, 19, 20] ?_
  refine AOpsO.nil ?_
  refine AW.seqRegionO [.nilp, .tup [.int .i64 (Val.sz a + Val.sz b + 1), .int .i64 ((if depV a < depV b then ((depV b : Nat) : Int) else ((depV a : Nat) : Int)) + 1)]] ?_
  refine s1 tok [2, 7, 8, 9, 10, 11, 12, 13, 15, 17, 18, 19, 20, 68] ?_ (hv := by first | with_reducible exact True.intro | (exact h5; done) | omega | simp | (simp; omega) | (simp +contextual; omega))
  refine s1 tok [2, 7, 8, 9, 10, 11, 12, 13, 15, 17, 18, 19, 20, 69] ?_ (hv := by first | with_reducible exact True.intro | (exact h5; done) | omega | simp | (simp; omega) | (simp +contextual; omega))
  refine s1 tok [2, 7, 8, 9, 10, 11, 12, 13, 15, 17, 18, 19, 20, 67] ?_
  refine s1 tok [2, 7, 8, 9, 10, 11, 12, 13, 15, 17, 18, 19, 20, 67, 70] ?_
  refine s1 tok [2, 7, 8, 9, 10, 11, 12, 13, 15, 17, 18, 19, 20, 70, 71] ?_
  refine s1 tok [2, 7, 8, 9, 10, 11, 12, 13, 15, 17, 18, 19, 20, 21, 71] ?_
  refine s1 tok [2, 7, 8, 9, 10, 11, 12, 13, 15, 17, 18, 19, 20, 21, 22] ?_
  refine AOpsO.nil ?_
  refine AW.seqDrawS tok mixed 5 [[13], [9], [2], [73, 74], [72, 75]] [.nilp, w.enc, .nilp, .bool true] [] (by kernel_rfl) ?_
  refine d1 ?_ (hv := by first | with_reducible exact True.intro | (first | exact h6 | exact h7; done) | omega | simp | (simp; omega) | (simp +contextual; omega))
  refine d1 ?_ (hv := by first | with_reducible exact True.intro | (first | exact h6 | exact h7; done) | omega | simp | (simp; omega) | (simp +contextual; omega))
  refine d1 ?_
  refine d1 ?_ (hv := by first | with_reducible exact True.intro | (first | exact h6 | exact h7; done) | omega | simp | (simp; omega) | (simp +contextual; omega))
  refine d1 ?_ (hv := by first | with_reducible exact True.intro | (first | exact h6 | exact h7; done) | omega | simp | (simp; omega) | (simp +contextual; omega))
  refine DGo.nil (by kernel_rfl) ⟨by kernel_rfl, ?_⟩
  refine s1 tok [2, 7, 8, 9, 10, 11, 12, 13, 15, 17, 18, 19, 20, 21, 22, 23] ?_
  refine AOpsO.nil ?_
  refine AW.seqRegionO [.nilp, .bool true] ?_
  refine s1 tok [2, 7, 8, 9, 10, 11, 12, 13, 17, 18, 19, 20, 21, 22, 23, 77] ?_ (hv := by first | with_reducible exact True.intro | (exact h7; done) | omega | simp | (simp; omega) | (simp +contextual; omega))
  refine s1 tok [2, 7, 8, 9, 10, 11, 12, 17, 18, 19, 20, 21, 22, 23, 77, 78] ?_ (hv := by first | with_reducible exact True.intro | (exact h7; done) | omega | simp | (simp; omega) | (simp +contextual; omega))
  refine s1 tok [2, 7, 8, 9, 10, 11, 12, 17, 18, 19, 20, 21, 22, 23, 79] ?_ (hv := by first | with_reducible exact True.intro | (exact h7; done) | omega | simp | (simp; omega) | (simp +contextual; omega))
  refine s1 tok [2, 7, 8, 9, 10, 11, 12, 17, 18, 19, 20, 21, 22, 23, 24] ?_
  refine AOpsO.nil ?_
  refine AW.seqRegionO [a.enc, b.enc, .nilp, .int .i64 (cmpT a b)] ?_
  refine s1 tok [2, 7, 8, 9, 10, 11, 12, 17, 18, 19, 20, 21, 22, 23, 24, 80] ?_ (hv := by first | with_reducible exact True.intro | (exact h8; done) | omega | simp | (simp; omega) | (simp +contextual; omega))
  refine s1 tok [2, 7, 8, 9, 10, 11, 12, 17, 18, 19, 20, 21, 22, 23, 24, 81] ?_ (hv := by first | with_reducible exact True.intro | (exact h8; done) | omega | simp | (simp; omega) | (simp +contextual; omega))
  refine AOpsO.freeze 81 (by conv => lhs; simp) ?_
  refine s1 tok [2, 7, 8, 9, 10, 11, 12, 17, 18, 19, 20, 21, 22, 23, 24, 82] ?_ (hv := by first | with_reducible exact True.intro | (exact h8; done) | omega | simp | (simp; omega) | (simp +contextual; omega))
  refine s1 tok [2, 7, 8, 9, 10, 11, 12, 17, 18, 19, 20, 21, 22, 23, 24, 82, 83] ?_ (hv := by first | with_reducible exact True.intro | (exact h8; done) | omega | simp | (simp; omega) | (simp +contextual; omega))
  refine s1 tok [2, 7, 8, 9, 10, 11, 12, 17, 18, 19, 20, 21, 22, 23, 24, 82, 84] ?_ (hv := by first | with_reducible exact True.intro | (exact h8; done) | omega | simp | (simp; omega) | (simp +contextual; omega))
  refine AOpsO.freeze 84 (by conv => lhs; simp) ?_
  refine s1 tok [2, 7, 8, 9, 10, 11, 12, 17, 18, 19, 20, 21, 22, 23, 24, 82, 85] ?_ (hv := by first | with_reducible exact True.intro | (exact h8; done) | omega | simp | (simp; omega) | (simp +contextual; omega))
  refine s1 tok [2, 7, 8, 9, 10, 11, 12, 17, 18, 19, 20, 21, 22, 23, 24, 86] ?_ (hv := by first | with_reducible exact True.intro | (exact h8; done) | omega | simp | (simp; omega) | (simp +contextual; omega))
  refine s1 tok [2, 7, 8, 9, 10, 11, 12, 17, 18, 19, 20, 21, 22, 23, 24, 25] ?_
  refine AOpsO.nil ?_
  refine AW.seqDrawS tok mixed 56 [[7], [87], [10, 88], [89, 88], [88, 90], [91], [11, 92], [93, 92], [92, 94], [95], [23, 96], [96, 97], [98], [24, 99], [99, 100], [101], [21, 102], [17, 102], [19, 102], [104, 105, 102], [106, 102], [103, 107, 102], [102, 108], [109], [22, 110], [18, 110], [20, 110], [112, 113, 110], [114, 110], [111, 115, 110], [110, 116], [117], [25, 118], [8, 118], [9, 118], [120, 121, 118], [119, 122, 118], [118, 123], [124], [11, 125], [12, 125], [126, 127, 125], [128, 125], [125, 129], [130], [10, 131], [132, 131], [8, 131], [134, 131], [9, 131], [136, 131], [135, 137, 131], [2, 131], [138, 139, 131], [133, 140, 131], [131, 141]] [.nilp, .bool true, .nilp, .bool true, .nilp, .int .i64 (cmpT a b), .nilp, .int .i64 0, .nilp, .int .u64 (orM (orM (deepV a) (deepV b)) mask), .nilp, .int .u64 (deepV a), .nilp, .int .u64 (deepV b)] [] (by kernel_rfl) ?_
  refine d1 ?_ (h := by intro C; conv => lhs; simp [or_wrap])
  refine d1 ?_ (h := by intro C; conv => lhs; simp [or_wrap])
  refine d2 88 rfl rfl ?_ (h := by intro C; conv => lhs; simp [or_wrap]) (hv := by first | with_reducible exact True.intro | (first | exact h9 | exact h10 | exact h11 | exact h12 | exact h13 | exact h14 | exact h15 | (split <;> omega); done) | omega | simp | (simp; omega) | (simp +contextual; omega))
  refine d2 88 rfl rfl ?_ (h := by intro C; conv => lhs; simp [or_wrap]) (hv := by first | with_reducible exact True.intro | (first | exact h9 | exact h10 | exact h11 | exact h12 | exact h13 | exact h14 | exact h15 | (split <;> omega); done) | omega | simp | (simp; omega) | (simp +contextual; omega))
  refine d1 ?_ (h := by intro C; conv => lhs; simp [or_wrap]) (hv := by first | with_reducible exact True.intro | (first | exact h9 | exact h10 | exact h11 | exact h12 | exact h13 | exact h14 | exact h15 | (split <;> omega); done) | omega | simp | (simp; omega) | (simp +contextual; omega))
  refine d1 ?_ (h := by intro C; conv => lhs; simp [or_wrap])
  refine d2 92 rfl rfl ?_ (h := by intro C; conv => lhs; simp [or_wrap]) (hv := by first | with_reducible exact True.intro | (first | exact h9 | exact h10 | exact h11 | exact h12 | exact h13 | exact h14 | exact h15 | (split <;> omega); done) | omega | simp | (simp; omega) | (simp +contextual; omega))
  refine d2 92 rfl rfl ?_ (h := by intro C; conv => lhs; simp [or_wrap]) (hv := by first | with_reducible exact True.intro | (first | exact h9 | exact h10 | exact h11 | exact h12 | exact h13 | exact h14 | exact h15 | (split <;> omega); done) | omega | simp | (simp; omega) | (simp +contextual; omega))
  refine d1 ?_ (h := by intro C; conv => lhs; simp [or_wrap]) (hv := by first | with_reducible exact True.intro | (first | exact h9 | exact h10 | exact h11 | exact h12 | exact h13 | exact h14 | exact h15 | (split <;> omega); done) | omega | simp | (simp; omega) | (simp +contextual; omega))
  refine d1 ?_ (h := by intro C; conv => lhs; simp [or_wrap])
  refine d2 96 rfl rfl ?_ (h := by intro C; conv => lhs; simp [or_wrap])
  refine d1 ?_ (h := by intro C; conv => lhs; simp [or_wrap]) (hv := by first | with_reducible exact True.intro | (first | exact h9 | exact h10 | exact h11 | exact h12 | exact h13 | exact h14 | exact h15 | (split <;> omega); done) | omega | simp | (simp; omega) | (simp +contextual; omega))
  refine d1 ?_ (h := by intro C; conv => lhs; simp [or_wrap])
  refine d2 99 rfl rfl ?_ (h := by intro C; conv => lhs; simp [or_wrap])
  refine d1 ?_ (h := by intro C; conv => lhs; simp [or_wrap]) (hv := by first | with_reducible exact True.intro | (first | exact h9 | exact h10 | exact h11 | exact h12 | exact h13 | exact h14 | exact h15 | (split <;> omega); done) | omega | simp | (simp; omega) | (simp +contextual; omega))
  refine d1 ?_ (h := by intro C; conv => lhs; simp [or_wrap])
  refine d2 102 rfl rfl ?_ (h := by intro C; conv => lhs; simp [or_wrap])
  refine d2 102 rfl rfl ?_ (h := by intro C; conv => lhs; simp [or_wrap])
  refine d2 102 rfl rfl ?_ (h := by intro C; conv => lhs; simp [or_wrap])
  refine d2 102 rfl rfl ?_ (h := by intro C; conv => lhs; simp [or_wrap]) (hv := by first | with_reducible exact True.intro | (first | exact h9 | exact h10 | exact h11 | exact h12 | exact h13 | exact h14 | exact h15 | (split <;> omega); done) | omega | simp | (simp; omega) | (simp +contextual; omega))
  refine d2 102 rfl rfl ?_ (h := by intro C; conv => lhs; simp [or_wrap]) (hv := by first | with_reducible exact True.intro | (first | exact h9 | exact h10 | exact h11 | exact h12 | exact h13 | exact h14 | exact h15 | (split <;> omega); done) | omega | simp | (simp; omega) | (simp +contextual; omega))
  refine d2 102 rfl rfl ?_ (h := by intro C; conv => lhs; simp [or_wrap]) (hv := by first | with_reducible exact True.intro | (first | exact h9 | exact h10 | exact h11 | exact h12 | exact h13 | exact h14 | exact h15 | (split <;> omega); done) | omega | simp | (simp; omega) | (simp +contextual; omega))
  refine d1 ?_ (h := by intro C; conv => lhs; simp [or_wrap]) (hv := by first | with_reducible exact True.intro | (first | exact h9 | exact h10 | exact h11 | exact h12 | exact h13 | exact h14 | exact h15 | (split <;> omega); done) | omega | simp | (simp; omega) | (simp +contextual; omega))
  refine d1 ?_ (h := by intro C; conv => lhs; simp [or_wrap])
  refine d2 110 rfl rfl ?_ (h := by intro C; conv => lhs; simp [or_wrap])
  refine d2 110 rfl rfl ?_ (h := by intro C; conv => lhs; simp [or_wrap])
  refine d2 110 rfl rfl ?_ (h := by intro C; conv => lhs; simp [or_wrap])
  refine d2 110 rfl rfl ?_ (h := by intro C; conv => lhs; simp [or_wrap]) (hv := by first | with_reducible exact True.intro | (first | exact h9 | exact h10 | exact h11 | exact h12 | exact h13 | exact h14 | exact h15 | (split <;> omega); done) | omega | simp | (simp; omega) | (simp +contextual; omega))
  refine d2 110 rfl rfl ?_ (h := by intro C; conv => lhs; simp [or_wrap]) (hv := by first | with_reducible exact True.intro | (first | exact h9 | exact h10 | exact h11 | exact h12 | exact h13 | exact h14 | exact h15 | (split <;> omega); done) | omega | simp | (simp; omega) | (simp +contextual; omega))
  refine d2 110 rfl rfl ?_ (h := by intro C; conv => lhs; simp [or_wrap]) (hv := by first | with_reducible exact True.intro | (first | exact h9 | exact h10 | exact h11 | exact h12 | exact h13 | exact h14 | exact h15 | (split <;> omega); done) | omega | simp | (simp; omega) | (simp +contextual; omega))
  refine d1 ?_ (h := by intro C; conv => lhs; simp [or_wrap]) (hv := by first | with_reducible exact True.intro | (first | exact h9 | exact h10 | exact h11 | exact h12 | exact h13 | exact h14 | exact h15 | (split <;> omega); done) | omega | simp | (simp; omega) | (simp +contextual; omega))
  refine d1 ?_ (h := by intro C; conv => lhs; simp [or_wrap])
  refine d2 118 rfl rfl ?_ (h := by intro C; conv => lhs; simp [or_wrap])
  refine d2 118 rfl rfl ?_ (h := by intro C; conv => lhs; simp [or_wrap]) (hv := by first | with_reducible exact True.intro | (first | exact h9 | exact h10 | exact h11 | exact h12 | exact h13 | exact h14 | exact h15 | (split <;> omega); done) | omega | simp | (simp; omega) | (simp +contextual; omega))
  refine d2 118 rfl rfl ?_ (h := by intro C; conv => lhs; simp [or_wrap]) (hv := by first | with_reducible exact True.intro | (first | exact h9 | exact h10 | exact h11 | exact h12 | exact h13 | exact h14 | exact h15 | (split <;> omega); done) | omega | simp | (simp; omega) | (simp +contextual; omega))
  refine d2 118 rfl rfl ?_ (h := by intro C; conv => lhs; simp [or_wrap]) (hv := by first | with_reducible exact True.intro | (first | exact h9 | exact h10 | exact h11 | exact h12 | exact h13 | exact h14 | exact h15 | (split <;> omega); done) | omega | simp | (simp; omega) | (simp +contextual; omega))
  refine d2 118 rfl rfl ?_ (h := by intro C; conv => lhs; simp [or_wrap]) (hv := by first | with_reducible exact True.intro | (first | exact h9 | exact h10 | exact h11 | exact h12 | exact h13 | exact h14 | exact h15 | (split <;> omega); done) | omega | simp | (simp; omega) | (simp +contextual; omega))
  refine d1 ?_ (h := by intro C; conv => lhs; simp [or_wrap]) (hv := by first | with_reducible exact True.intro | (first | exact h9 | exact h10 | exact h11 | exact h12 | exact h13 | exact h14 | exact h15 | (split <;> omega); done) | omega | simp | (simp; omega) | (simp +contextual; omega))
  refine d1 ?_ (h := by intro C; conv => lhs; simp [or_wrap])
  refine d2 125 rfl rfl ?_ (h := by intro C; conv => lhs; simp [or_wrap]) (hv := by first | with_reducible exact True.intro | (first | exact h9 | exact h10 | exact h11 | exact h12 | exact h13 | exact h14 | exact h15 | (split <;> omega); done) | omega | simp | (simp; omega) | (simp +contextual; omega))
  refine d2 125 rfl rfl ?_ (h := by intro C; conv => lhs; simp [or_wrap]) (hv := by first | with_reducible exact True.intro | (first | exact h9 | exact h10 | exact h11 | exact h12 | exact h13 | exact h14 | exact h15 | (split <;> omega); done) | omega | simp | (simp; omega) | (simp +contextual; omega))
  refine d2 125 rfl rfl ?_ (h := by intro C; conv => lhs; simp [or_wrap]) (hv := by first | with_reducible exact True.intro | (first | exact h9 | exact h10 | exact h11 | exact h12 | exact h13 | exact h14 | exact h15 | (split <;> omega); done) | omega | simp | (simp; omega) | (simp +contextual; omega))
  refine d2 125 rfl rfl ?_ (h := by intro C; conv => lhs; simp [or_wrap]) (hv := by first | with_reducible exact True.intro | (first | exact h9 | exact h10 | exact h11 | exact h12 | exact h13 | exact h14 | exact h15 | (split <;> omega); done) | omega | simp | (simp; omega) | (simp +contextual; omega))
  refine d1 ?_ (h := by intro C; conv => lhs; simp [or_wrap]) (hv := by first | with_reducible exact True.intro | (first | exact h9 | exact h10 | exact h11 | exact h12 | exact h13 | exact h14 | exact h15 | (split <;> omega); done) | omega | simp | (simp; omega) | (simp +contextual; omega))
  refine d1 ?_ (h := by intro C; conv => lhs; simp [or_wrap])
  refine d2 131 rfl rfl ?_ (h := by intro C; conv => lhs; simp [or_wrap]) (hv := by first | with_reducible exact True.intro | (first | exact h9 | exact h10 | exact h11 | exact h12 | exact h13 | exact h14 | exact h15 | (split <;> omega); done) | omega | simp | (simp; omega) | (simp +contextual; omega))
  refine d2 131 rfl rfl ?_ (h := by intro C; conv => lhs; simp [or_wrap]) (hv := by first | with_reducible exact True.intro | (first | exact h9 | exact h10 | exact h11 | exact h12 | exact h13 | exact h14 | exact h15 | (split <;> omega); done) | omega | simp | (simp; omega) | (simp +contextual; omega))
  refine d2 131 rfl rfl ?_ (h := by intro C; conv => lhs; simp [or_wrap]) (hv := by first | with_reducible exact True.intro | (first | exact h9 | exact h10 | exact h11 | exact h12 | exact h13 | exact h14 | exact h15 | (split <;> omega); done) | omega | simp | (simp; omega) | (simp +contextual; omega))
  refine d2 131 rfl rfl ?_ (h := by intro C; conv => lhs; simp [or_wrap]) (hv := by first | with_reducible exact True.intro | (first | exact h9 | exact h10 | exact h11 | exact h12 | exact h13 | exact h14 | exact h15 | (split <;> omega); done) | omega | simp | (simp; omega) | (simp +contextual; omega))
  refine d2 131 rfl rfl ?_ (h := by intro C; conv => lhs; simp [or_wrap]) (hv := by first | with_reducible exact True.intro | (first | exact h9 | exact h10 | exact h11 | exact h12 | exact h13 | exact h14 | exact h15 | (split <;> omega); done) | omega | simp | (simp; omega) | (simp +contextual; omega))
  refine d2 131 rfl rfl ?_ (h := by intro C; conv => lhs; simp [or_wrap]) (hv := by first | with_reducible exact True.intro | (first | exact h9 | exact h10 | exact h11 | exact h12 | exact h13 | exact h14 | exact h15 | (split <;> omega); done) | omega | simp | (simp; omega) | (simp +contextual; omega))
  refine d2 131 rfl rfl ?_ (h := by intro C; conv => lhs; simp [or_wrap]) (hv := by first | with_reducible exact True.intro | (first | exact h9 | exact h10 | exact h11 | exact h12 | exact h13 | exact h14 | exact h15 | (split <;> omega); done) | omega | simp | (simp; omega) | (simp +contextual; omega))
  refine d2 131 rfl rfl ?_ (h := by intro C; conv => lhs; simp [or_wrap])
  refine d2 131 rfl rfl ?_ (h := by intro C; conv => lhs; simp [or_wrap]) (hv := by first | with_reducible exact True.intro | (first | exact h9 | exact h10 | exact h11 | exact h12 | exact h13 | exact h14 | exact h15 | (split <;> omega); done) | omega | simp | (simp; omega) | (simp +contextual; omega))
  refine d2 131 rfl rfl ?_ (h := by intro C; conv => lhs; simp [or_wrap]) (hv := by first | with_reducible exact True.intro | (first | exact h9 | exact h10 | exact h11 | exact h12 | exact h13 | exact h14 | exact h15 | (split <;> omega); done) | omega | simp | (simp; omega) | (simp +contextual; omega))
  refine d1 ?_ (h := by intro C; conv => lhs; simp [or_wrap]) (hv := by first | with_reducible exact True.intro | (first | exact h9 | exact h10 | exact h11 | exact h12 | exact h13 | exact h14 | exact h15 | (split <;> omega); done) | omega | simp | (simp; omega) | (simp +contextual; omega))
  refine DGo.nil (by kernel_rfl) ⟨by kernel_rfl, ?_⟩
  refine s1 tok [6] ?_ (h := by intro C; conv => lhs; simp [or_wrap])
  refine AOpsO.nil ?_
  exact AW.ret ⟨.inr rfl, _, _, by (conv => lhs; simp), trivial, by simp⟩
end Go.Proofs.YtgoepemmcibdaaaGreatDoor
