import Derived.Test.YtdojfdaglbphlaaGreatDoorSNumW
import Derived.Test.YtdojfdaglbphlaaGreatDoorSMergeL
import Derived.Test.YtdojfdaglbphlaaGreatDoorSRefWith
import Derived.Test.YtdojfdaglbphlaaGreatDoorSShown14
import Derived.Test.YtdojfdaglbphlaaGreatDoorK2
import Derived.Test.YtdojfdaglbphlaaGreatDoorSBuiltL
namespace Go.Proofs.YtdojfdaglbphlaaGreatDoor
open Sy Go
set_option maxRecDepth 100000
set_option maxHeartbeats 4000000
set_option linter.unusedSimpArgs false
set_option linter.unusedVariables false
variable {G : Glob}
theorem built_text (l : List Item) : (builtM l).text.length ≤ 100 := by
 have := built_key (P := fun a => ∀ v ∈ a, v.text.length ≤ 100) (Q := fun _ => True) (by simp) (fun a x _ ha v hv => by
  unfold itemM at hv
  rcases List.mem_append.1 hv with hv | hv
  ·unfold itemRest at hv; split at hv
   ·exact ha v (List.mem_of_mem_take hv)
   ·exact ha v hv
  ·simp only [List.mem_singleton] at hv; rw [hv]
   show (if low3 x.kind = 4 then wordM x.text else []).length ≤ 100
   split
   ·exact wordM_len _
   ·simp) l (fun _ _ => trivial)
 unfold builtM
 rw [List.getLastD_eq_getLast?]
 cases hx : (aloneM l).getLast? with
 | none => simp [nullV]
 | some v => exact this v (List.mem_of_getLast? hx)
theorem plus_texts {a b : Val} (ha : a.kind = 5) (hb : b.kind = 5) (hl : a.text.length + b.text.length ≤ 4096) (m : Int) : (plusA a b m).text = a.text ++ b.text := by
 unfold plusA plusT
 rw [if_neg (by omega), if_neg (by omega), if_neg (by omega), if_pos ⟨ha, hb⟩]
 unfold bigV
 rw [if_neg (by simp; omega)]
 simp
theorem plus_objs {a b : Val} (ha : a.kind = 7) (hb : b.kind = 7) (hlen : a.keys.length = a.kids.length) (hl : a.kids.length + b.keys.length ≤ 200) (ht : a.text.length ≤ 100) (m : Int) : plusA a b m = mergeV a b m := by
 have := (merge_len (b := b) hlen m).2
 unfold plusA plusT
 rw [if_neg (by omega), if_neg (by omega), if_neg (by omega), if_neg (by omega), if_neg (by omega), if_pos ⟨ha, hb⟩]
 unfold bigV
 rw [if_neg]
 rw [show (mergeV a b m).text = a.text from rfl]
 omega
theorem BinaryMerge_ev (l m : List Item) (hl : ∀ x ∈ l, x.keys.length ≤ 140737488351232) (hm : ∀ x ∈ m, x.keys.length ≤ 140737488351232) (hM : ∀ x ∈ l, InM x.mask) : AFn Tryz.prog G 7 [.sl 6 (l.map Item.enc), .sl 6 (m.map Item.enc)] (.bool true) := by
 refine AFn.introU tok Tryz.func7 (by kernel_rfl) rfl rfl ?_
 simp only [Tryz.f7, enumA, List.map_cons, List.map_nil]
 have hsh := shown14_ev (G := G)
 have hbl := Built_ev (G := G) l hl
 have hbm := Built_ev (G := G) m hm
 have ml := built_may l
 have mm := built_may m
 have sl := built_sz l
 have sm := built_sz m
 have tl := built_text l
 have tm := built_text m
 have im := InV_mask (built_in hM)
 generalize builtM l = a at *
 generalize builtM m = b at *
 have ka := kids_le_sz sl
 have kb := kids_le_sz sm
 have p1 := twoPlus_ev (G := G) a b ml mm
 have p2 := twoPlus_ev (G := G) a a ml ml
 have e1 := fun h : a.kind = 5 ∧ b.kind = 5 => plus_texts h.1 h.2 (by omega) (orM a.mask b.mask)
 have oa := fun h : a.kind = 7 => may_obj ml h
 have ob := fun h : b.kind = 7 => may_obj mm h
 have e2 := fun h : a.kind = 7 ∧ b.kind = 7 => plus_objs h.1 h.2 (oa h.1).1 (by have := (ob h.2).1; omega) tl (orM a.mask b.mask)
 have e3 := fun h : a.kind = 7 => plus_objs h h (oa h).1 (by have := (oa h).1; omega) tl (orM a.mask a.mask)
 have e4 := fun h : a.kind = 7 => merge_self (oa h).2.2 (oa h).1 im
 have e5 := fun h : a.kind = 7 => merge_len (b := b) (oa h).1 (orM a.mask b.mask)
 have e6 := fun (h : a.kind = 7 ∧ b.kind = 7) i (hi : i < b.keys.length) => merge_get (oa h.1).1 (ob h.2).2.2 (orM a.mask b.mask) h.1 hi
 have e7 := fun (h : a.kind = 7) i (hi : i < a.keys.length) => merge_old (b := b) (orM a.mask b.mask) h hi
 have hs2 := refSame_sz (G := G) a (by omega) a
 rw [(sameT_iff _ _).2 rfl] at hs2
 generalize hS : plusA a b (orM a.mask b.mask) = S at *
 simp only [Val.enc_def] at hbl hbm p1 p2 hs2
 refine rgn [] [[0, 1]] ?_
 refine op1 tok ?_
 refine runEnd ?_
 refine rgn [.nilp, .bool true] [[], [0, 1, 5]] ?_
 iterate 2 refine op1 tok ?_ (hv := by first | with_reducible exact True.intro | (exact hsh; done) | omega | simp | (simp; omega) | (simp +contextual; omega))
 refine runEnd ?_
 refine rgn [.nilp, a.enc] [[], [], [], [1, 5, 6]] ?_
 iterate 4 refine op1 tok ?_ (hv := by first | with_reducible exact True.intro | (exact hbl; done) | omega | simp | (simp; omega) | (simp +contextual; omega))
 refine runEnd ?_
 refine rgn [.nilp, b.enc] [[], [], [], [5, 6, 7]] ?_
 iterate 4 refine op1 tok ?_ (hv := by first | with_reducible exact True.intro | (exact hbm; done) | omega | simp | (simp; omega) | (simp +contextual; omega))
 refine runEnd ?_
 refine rgn [.nilp, S.enc] [[], [], [], [], [5, 6, 7, 8]] ?_
 iterate 5 refine op1 tok ?_ (hv := by first | with_reducible exact True.intro | ((simpa using p1); done) | omega | simp | (simp; omega) | (simp +contextual; omega))
 refine runEnd ?_
 refine AW.seq ?_
 refine rgn [] [[], [], [], [], [], [5, 6, 7, 8, 28, 30], [], [5, 6, 7, 8, 32]] ?_
 iterate 4 refine op1 tok ?_
 iterate 3 refine op2 tok ?_
 refine op1 tok ?_
 refine runEnd ?_
 refine cnd ?_ ?_
 ·intro h32
  try simp at h32
  have e1 := e1 (by simpa using h32)
  refine rgn [] [[], [], [], [6, 7, 34, 36], [], [], [], [34, 36, 38, 40], [], [34, 42], [], [4]] ?_
  iterate 2 refine op1 tok ?_
  iterate 8 refine op2 tok ?_
  iterate 2 refine op1 tok ?_
  refine runEnd ?_
  exact AW.ret ⟨.inr rfl, _, _, by (conv => lhs; simp), trivial, by simp [e1]⟩
 ·intro h32
  try simp at h32
  refine AW.skip ?_
  refine AW.seq ?_
  refine rgn [] [[], [], [], [], [], [5, 6, 7, 8, 47, 49], [], [5, 6, 7, 8, 51]] ?_
  iterate 4 refine op1 tok ?_
  iterate 3 refine op2 tok ?_
  refine op1 tok ?_
  refine runEnd ?_
  refine cnd ?_ ?_
  ·intro h51
   try simp at h51
   refine rgn [] [[], [4]] ?_
   iterate 2 refine op1 tok ?_
   refine runEnd ?_
   exact AW.ret ⟨.inr rfl, _, _, by (conv => lhs; simp), trivial, by (first | (simp; done) | (simp; omega))⟩
  ·intro h51
   try simp at h51
   have h7 : a.kind = 7 ∧ b.kind = 7 := by simpa using h51
   have e2 := e2 h7
   have e3 := e3 h7.1
   have e4 := e4 h7.1
   have e5 := e5 h7.1
   have e6 := e6 h7
   have e7 := e7 h7.1
   have oa := oa h7.1
   have ob := ob h7.2
   rw [e4] at e3
   rw [← e2] at e5
   have hSm : S.mask = orM a.mask b.mask := by rw [e2]; rfl
   simp only [← e2] at e6 e7
   have hget := fun s => refGet_ev (G := G) S s (by omega) (by omega)
   clear e2 hS
   rw [e3] at p2
   rw [← hSm] at e6
   refine AW.skip ?_
   refine AW.seq ?_
   refine rgn [] [[]] ?_
   refine op1 tok ?_
   refine runEnd ?_
   refine AW.block ?_
   refine AW.loop (α := Nat) (fun k => k ≤ b.keys.length) (fun k => ⟨upds 149 [(5, .p (.bool true)), (6, .ptr 6 0), (7, .ptr 7 0), (8, .ptr 8 0), (9, .p (.int .i64 k))], [], [(6, .vars 31 a.cells), (7, .vars 31 b.cells), (8, .vars 31 S.cells)], 0⟩) (fun k => b.keys.length - k) (0) (by omega) ⟨upds_le (by simp), rfl, by simp, by simp⟩ ?_
   rintro k hk
   refine AW.seq ?_
   refine rgn [] [[], [], [], [], [5, 6, 7, 8, 9, 57]] ?_
   iterate 5 refine op1 tok ?_
   refine runEnd ?_
   refine cnd ?_ ?_
   ·intro h57
    try simp at h57
    obtain ⟨kx, hkx⟩ : ∃ x, b.keys[k]? = some x := ⟨b.keys[k]'(by omega), List.getElem?_eq_getElem _⟩
    obtain ⟨kv, hkv⟩ : ∃ x, b.kids[k]? = some x := ⟨b.kids[k]'(by omega), List.getElem?_eq_getElem _⟩
    have g6 := e6 k (by omega)
    rw [List.getD_eq_getElem?_getD, hkx, List.getD_eq_getElem?_getD, hkv] at g6
    simp only [Option.getD_some] at g6
    have hg := hget kx
    rw [g6] at hg
    have hw := refWith_ev (G := G) kv S.mask
    have hsame := refSame_sz (G := G) (withV kv S.mask) (by rw [sz_eq, withV_kids, ← sz_eq]; have := Val.sz_kid (List.mem_of_getElem? hkv); omega) (withV kv S.mask)
    rw [(sameT_iff _ _).2 rfl] at hsame
    generalize withV kv S.mask = W at *
    simp only [Val.enc_def] at hg hw hsame
    refine AW.skip ?_
    refine AW.seq ?_
    refine AW.block ?_
    refine AW.seqDrawS tok mixed 12 [[8], [7], [62], [9], [63, 64], [65], [61, 66], [67], [60], [60], [], [10, 68]] [.str kx, .nilp, .tup [W.enc, .bool true]] [] (by kernel_rfl) ?_
    iterate 12 refine d1 ?_ (hv := by first | with_reducible exact True.intro | (first | (simpa using hg) | (simp [hkx]; done); done) | omega | simp | (simp; omega) | (simp +contextual; omega))
    refine DGo.nil (by kernel_rfl) ⟨by kernel_rfl, ?_⟩
    refine AOpsO.run [[5, 6, 7, 8, 9, 10, 11]] ?_
    refine op1 tok ?_
    refine runEnd ?_
    refine AW.seqDrawS tok mixed 10 [[10], [7], [71], [9], [72, 73], [74], [8], [76], [75, 77], [70, 78]] [kv.enc, .nilp, W.enc, .nilp, .bool true] [] (by kernel_rfl) ?_
    iterate 10 refine d1 ?_ (hv := by first | with_reducible exact True.intro | (first | (simpa using hw) | (simpa using hsame) | (simp [hkv]; done); done) | omega | simp | (simp; omega) | (simp +contextual; omega))
    refine DGo.nil (by kernel_rfl) ⟨by kernel_rfl, ?_⟩
    refine AOpsO.run [[5, 6, 7, 8, 9, 11, 12]] ?_
    refine op1 tok ?_
    refine runEnd ?_
    refine rgn [] [[], [], [], [5, 6, 7, 8, 9, 82, 83], [], [5, 6, 7, 8, 9, 85]] ?_
    iterate 3 refine op1 tok ?_
    iterate 2 refine op2 tok ?_
    refine op1 tok ?_
    refine runEnd ?_
    refine cnd ?_ ?_
    ·intro h85
     try simp at h85
    ·intro h85
     try simp at h85
     refine AW.skip ?_
     refine rgz [] [[], [], [5, 6, 7, 8, 9]] ?_
     iterate 3 refine op1 tok ?_
     refine runEnd ?_
     exact ⟨k + 1, by omega, by omega, upds_le (by simp), rfl, by simp, by simp⟩
   ·intro h57
    try simp at h57
    obtain rfl : k = b.keys.length := by omega
    refine AW.exit ?_
    simp
    refine AW.seq ?_
    refine rgn [] [[]] ?_
    refine op1 tok ?_
    refine runEnd ?_
    refine AW.block ?_
    refine AW.loop (α := Nat) (fun k => k ≤ a.keys.length) (fun k => ⟨upds 149 [(5, .p (.bool true)), (6, .ptr 6 0), (7, .ptr 7 0), (8, .ptr 8 0), (13, .p (.int .i64 k))], [], [(6, .vars 31 a.cells), (7, .vars 31 b.cells), (8, .vars 31 S.cells)], 0⟩) (fun k => a.keys.length - k) (0) (by omega) ⟨upds_le (by simp), rfl, by simp, by simp⟩ ?_
    rintro k hk
    refine AW.seq ?_
    refine rgn [] [[], [], [], [], [5, 6, 7, 8, 13, 90]] ?_
    iterate 5 refine op1 tok ?_
    refine runEnd ?_
    refine cnd ?_ ?_
    ·intro h90
     try simp at h90
     obtain ⟨kx, hkx⟩ : ∃ x, a.keys[k]? = some x := ⟨a.keys[k]'(by omega), List.getElem?_eq_getElem _⟩
     obtain ⟨g7, g8⟩ := e7 k (by omega)
     rw [List.getD_eq_getElem?_getD, hkx] at g7 g8
     simp only [Option.getD_some] at g7 g8
     have hg := hget kx
     rw [g7] at hg
     generalize (getV S kx).1 = W at *
     simp only [Val.enc_def] at hg
     refine AW.skip ?_
     refine AW.seq ?_
     refine AW.block ?_
     refine AW.seqDrawS tok mixed 12 [[8], [6], [95], [13], [96, 97], [98], [94, 99], [100], [93], [93], [], [14, 101]] [.str kx, .nilp, .tup [W.enc, .bool true]] [] (by kernel_rfl) ?_
     iterate 12 refine d1 ?_ (hv := by first | with_reducible exact True.intro | (first | (simpa using hg) | (simp [hkx]; done); done) | omega | simp | (simp; omega) | (simp +contextual; omega))
     refine DGo.nil (by kernel_rfl) ⟨by kernel_rfl, ?_⟩
     refine AOpsO.run [[5, 6, 7, 8, 13, 15]] ?_
     refine op1 tok ?_
     refine runEnd ?_
     refine AW.seqDrawS tok mixed 15 [[15], [103], [104], [8, 105], [106, 105], [13, 105], [107, 108, 105], [109, 105], [6, 105], [111, 105], [13, 105], [112, 113, 105], [114, 105], [110, 115, 105], [105, 116]] [.str kx, .str kx] [] (by kernel_rfl) ?_
     iterate 3 refine d1 ?_ (hv := by first | with_reducible exact True.intro | (first | (simp [hkx, g8]; done); done) | omega | simp | (simp; omega) | (simp +contextual; omega))
     iterate 11 refine d2 105 rfl rfl ?_ (hv := by first | with_reducible exact True.intro | (first | (simp [hkx, g8]; done); done) | omega | simp | (simp; omega) | (simp +contextual; omega))
     refine d1 ?_ (hv := by first | with_reducible exact True.intro | (first | (simp [hkx, g8]; done); done) | omega | simp | (simp; omega) | (simp +contextual; omega))
     refine DGo.nil (by kernel_rfl) ⟨by kernel_rfl, ?_⟩
     refine AOpsO.nil ?_
     refine cnd ?_ ?_
     ·intro h117
      try simp at h117
     ·intro h117
      try simp at h117
      refine AW.skip ?_
      refine rgz [] [[], [], [5, 6, 7, 8, 13]] ?_
      iterate 3 refine op1 tok ?_
      refine runEnd ?_
      exact ⟨k + 1, by omega, by omega, upds_le (by simp), rfl, by simp, by simp⟩
    ·intro h90
     try simp at h90
     obtain rfl : k = a.keys.length := by omega
     refine AW.exit ?_
     simp
     refine AW.seqDrawS tok mixed 5 [[6], [6], [118, 119], [6], [120, 121]] [.nilp, a.enc, .nilp, .bool true] [] (by kernel_rfl) ?_
     iterate 5 refine d1 ?_ (hv := by first | with_reducible exact True.intro | (first | (simpa using p2) | (simpa using hs2); done) | omega | simp | (simp; omega) | (simp +contextual; omega))
     refine DGo.nil (by kernel_rfl) ⟨by kernel_rfl, ?_⟩
     refine AOpsO.run [[5, 6, 7, 8, 16]] ?_
     refine op1 tok ?_
     refine runEnd ?_
     refine rgn [] [[], [], [], [6, 7, 8, 126], [], [], [], [], [7, 8, 127, 130, 131], [], [], [], [8, 127, 130, 133, 135], [], [], [8, 127, 138], [], [], [], [8, 140, 142], [], [], [], [140, 143, 146], [], [148], [4]] ?_
     iterate 27 first | refine op1 tok ?_ | refine op2 tok ?_
     refine runEnd ?_
     exact AW.ret ⟨.inr rfl, _, _, by (conv => lhs; simp), trivial, by (first | (simp; done) | (simp; omega))⟩
end Go.Proofs.YtdojfdaglbphlaaGreatDoor
