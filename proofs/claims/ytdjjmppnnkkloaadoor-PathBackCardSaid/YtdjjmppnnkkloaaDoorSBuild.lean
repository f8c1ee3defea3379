import Derived.Test.YtdjjmppnnkkloaaDoorSBuildA
import Derived.Test.YtdjjmppnnkkloaaDoorSQuoteL
namespace Go.Proofs.YtdjjmppnnkkloaaDoor
open Sy Go
set_option maxRecDepth 100000
set_option maxHeartbeats 4000000
set_option linter.unusedSimpArgs false
set_option linter.unusedVariables false
variable {G : Glob}
@[simp] theorem bytesP_app (a s : List UInt8) : bytesP (a ++ s) = bytesP a ++ s.map fun b => .int .u8 b.toNat := by simp [bytesP]
theorem WriteByteF_ax (bs : List UInt8) (c : UInt8) (hb : bs.length ≤ 100000000000) : AX Tryd.prog G 35 [.ptr 2 0, .p (.int .u8 c.toNat)] [(2, .vars 52 [.p .nilp, .ms 3]), (3, .row 5 1 (bytesP bs))] (.dead) [2] [(2, .vars 52 [.ptr 2 0, .ms 3]), (3, .row 5 1 (bytesP (bs ++ [c])))] := by
  refine AX.introU tok 900 Tryd.func35 (by kernel_rfl) rfl rfl ?_
  simp only [Tryd.f35, enumA, List.map_cons, List.map_nil]
  refine AW.seqRegionO [] ?_
  refine s1 tok [0, 1] ?_
  refine AOpsO.nil ?_
  refine AW.seqRegionO [] ?_
  refine s1 tok [0, 1, 5] ?_
  refine AOpsO.stepK [0, 1] (y_cx rfl (ccF_ax bs) (by simp)) (by conv => lhs; simp) rfl ?_
  refine AOpsO.nil ?_
  refine AW.seqRegionO [.int .u8 c.toNat] ?_
  refine s1 tok [0, 1, 7] ?_
  refine s1 tok [1, 7, 8] ?_
  refine s1 tok [1, 7, 9] ?_
  refine s1 tok [1, 7, 10] ?_
  refine s1 tok [1, 7, 11] ?_
  refine s1 tok [7, 11, 12] ?_
  refine s1 tok [7, 11, 13] ?_
  refine s1 tok [7, 14] ?_
  refine s1 tok [14, 15] ?_
  refine s1 tok [14, 16] ?_
  refine s1 tok [] ?_
  refine AOpsO.nil ?_
  refine AW.seqRegionO [] ?_
  refine s1 tok [4] ?_
  refine AOpsO.nil ?_
  exact AW.ret ⟨.inr rfl, _, _, by (conv => lhs; simp), trivial, by simp, by simp, by simp, by simp⟩
theorem WriteStringF_ax (bs s : List UInt8) (hb : bs.length ≤ 100000000000) (hs : s.length ≤ 100000000000) : AX Tryd.prog G 36 [.ptr 2 0, .p (.str s)] [(2, .vars 52 [.p .nilp, .ms 3]), (3, .row 5 1 (bytesP bs))] (.dead) [2] [(2, .vars 52 [.ptr 2 0, .ms 3]), (3, .row 5 1 (bytesP (bs ++ s)))] := by
  refine AX.introU tok 900 Tryd.func36 (by kernel_rfl) rfl rfl ?_
  simp only [Tryd.f36, enumA, List.map_cons, List.map_nil]
  refine AW.seqRegionO [] ?_
  refine s1 tok [0, 1] ?_
  refine s1 tok [0, 1] ?_
  refine AOpsO.nil ?_
  refine AW.seqRegionO [] ?_
  refine s1 tok [0, 1, 6] ?_
  refine AOpsO.stepK [0, 1] (y_cx rfl (ccF_ax bs) (by simp)) (by conv => lhs; simp) rfl ?_
  refine AOpsO.nil ?_
  refine AW.seqRegionO [] ?_
  refine s1 tok [0, 1, 8] ?_
  refine s1 tok [1, 8, 9] ?_
  refine s1 tok [1, 8, 10] ?_
  refine s1 tok [1, 8, 11] ?_
  refine s1 tok [1, 8, 12] ?_
  refine s1 tok [1, 8, 12, 13] ?_
  refine s1 tok [1, 8, 14] ?_
  refine s1 tok [1, 14, 15] ?_
  refine s1 tok [1, 14, 16] ?_
  refine s1 tok [1] ?_
  refine AOpsO.nil ?_
  refine AW.seqRegionO [] ?_
  refine s1 tok [17] ?_
  refine s1 tok [18] ?_
  refine s1 tok [4] ?_
  refine s1 tok [4, 5] ?_
  refine AOpsO.nil ?_
  exact AW.ret ⟨.inr rfl, _, _, by (conv => lhs; simp), trivial, by simp, by simp, by simp, by simp⟩
theorem WriteByte_ax (bs : List UInt8) (c : UInt8) (hb : bs.length ≤ 100000000000) : AX Tryd.prog G 35 [.ptr 2 0, .p (.int .u8 c.toNat)] [(2, .vars 52 [.ptr 2 0, .ms 3]), (3, .row 5 1 (bytesP bs))] (.dead) [2] [(2, .vars 52 [.ptr 2 0, .ms 3]), (3, .row 5 1 (bytesP (bs ++ [c])))] := by
  refine AX.introU tok 900 Tryd.func35 (by kernel_rfl) rfl rfl ?_
  simp only [Tryd.f35, enumA, List.map_cons, List.map_nil]
  refine AW.seqRegionO [] ?_
  refine s1 tok [0, 1] ?_
  refine AOpsO.nil ?_
  refine AW.seqRegionO [] ?_
  refine s1 tok [0, 1, 5] ?_
  refine AOpsO.stepK [0, 1] (y_cx rfl (cc_ax bs) (by simp)) (by conv => lhs; simp) rfl ?_
  refine AOpsO.nil ?_
  refine AW.seqRegionO [.int .u8 c.toNat] ?_
  refine s1 tok [0, 1, 7] ?_
  refine s1 tok [1, 7, 8] ?_
  refine s1 tok [1, 7, 9] ?_
  refine s1 tok [1, 7, 10] ?_
  refine s1 tok [1, 7, 11] ?_
  refine s1 tok [7, 11, 12] ?_
  refine s1 tok [7, 11, 13] ?_
  refine s1 tok [7, 14] ?_
  refine s1 tok [14, 15] ?_
  refine s1 tok [14, 16] ?_
  refine s1 tok [] ?_
  refine AOpsO.nil ?_
  refine AW.seqRegionO [] ?_
  refine s1 tok [4] ?_
  refine AOpsO.nil ?_
  exact AW.ret ⟨.inr rfl, _, _, by (conv => lhs; simp), trivial, by simp, by simp, by simp, by simp⟩
theorem WriteString_ax (bs s : List UInt8) (hb : bs.length ≤ 100000000000) (hs : s.length ≤ 100000000000) : AX Tryd.prog G 36 [.ptr 2 0, .p (.str s)] [(2, .vars 52 [.ptr 2 0, .ms 3]), (3, .row 5 1 (bytesP bs))] (.dead) [2] [(2, .vars 52 [.ptr 2 0, .ms 3]), (3, .row 5 1 (bytesP (bs ++ s)))] := by
  refine AX.introU tok 900 Tryd.func36 (by kernel_rfl) rfl rfl ?_
  simp only [Tryd.f36, enumA, List.map_cons, List.map_nil]
  refine AW.seqRegionO [] ?_
  refine s1 tok [0, 1] ?_
  refine s1 tok [0, 1] ?_
  refine AOpsO.nil ?_
  refine AW.seqRegionO [] ?_
  refine s1 tok [0, 1, 6] ?_
  refine AOpsO.stepK [0, 1] (y_cx rfl (cc_ax bs) (by simp)) (by conv => lhs; simp) rfl ?_
  refine AOpsO.nil ?_
  refine AW.seqRegionO [] ?_
  refine s1 tok [0, 1, 8] ?_
  refine s1 tok [1, 8, 9] ?_
  refine s1 tok [1, 8, 10] ?_
  refine s1 tok [1, 8, 11] ?_
  refine s1 tok [1, 8, 12] ?_
  refine s1 tok [1, 8, 12, 13] ?_
  refine s1 tok [1, 8, 14] ?_
  refine s1 tok [1, 14, 15] ?_
  refine s1 tok [1, 14, 16] ?_
  refine s1 tok [1] ?_
  refine AOpsO.nil ?_
  refine AW.seqRegionO [] ?_
  refine s1 tok [17] ?_
  refine s1 tok [18] ?_
  refine s1 tok [4] ?_
  refine s1 tok [4, 5] ?_
  refine AOpsO.nil ?_
  exact AW.ret ⟨.inr rfl, _, _, by (conv => lhs; simp), trivial, by simp, by simp, by simp, by simp⟩
@[simp] theorem bytesP_nil : bytesP [] = [] := rfl
theorem encP (r : Int) (l : List Int) (h : Lib.encodeRuneZ r = l) : bytesP (Lib.encodeRune r) = l.map (PD.int .u8) := by
  subst h
  simp only [bytesP, Lib.encodeRune, List.map_map]
  apply List.map_congr_left
  intro x hx
  obtain ⟨h0, h1⟩ := Lib.encodeRuneZ_byte r x hx
  simp [Function.comp]
  omega
theorem fin_of {k : Nat} {n : Int} (h : 0 ≤ n ∧ n < k) : ∃ x : Fin k, n = x.val := ⟨⟨n.toNat, by omega⟩, by simp; omega⟩
theorem wrap8 (n : Int) (h : 0 ≤ n) : IntKind.u8.wrap n = n % 256 := by simp [IntKind.wrap, IntKind.bits, IntKind.signed]
theorem lead192 (n : Int) (h : 0 ≤ n ∧ n < 32) : IntKind.u8.wrap ↑(192 % 2 ^ IntKind.u8.bits ||| (IntKind.u8.wrap n % 2 ^ IntKind.u8.bits).toNat) = 192 + n := by
  obtain ⟨x, rfl⟩ := fin_of h; revert x; decide +kernel
theorem lead224 (n : Int) (h : 0 ≤ n ∧ n < 16) : IntKind.u8.wrap ↑(224 % 2 ^ IntKind.u8.bits ||| (IntKind.u8.wrap n % 2 ^ IntKind.u8.bits).toNat) = 224 + n := by
  obtain ⟨x, rfl⟩ := fin_of h; revert x; decide +kernel
theorem lead240 (n : Int) (h : 0 ≤ n ∧ n < 8) : IntKind.u8.wrap ↑(240 % 2 ^ IntKind.u8.bits ||| (IntKind.u8.wrap n % 2 ^ IntKind.u8.bits).toNat) = 240 + n := by
  obtain ⟨x, rfl⟩ := fin_of h; revert x; decide +kernel
theorem cont256 : ∀ x : Fin 256, IntKind.u8.wrap ↑(128 % 2 ^ IntKind.u8.bits ||| (IntKind.u8.wrap ↑((((x.val : Nat) : Int) % 2 ^ IntKind.u8.bits).toNat &&& 63 % 2 ^ IntKind.u8.bits) % 2 ^ IntKind.u8.bits).toNat) = 128 + ((x.val : Nat) : Int) % 64 := by decide +kernel
theorem cont8 (n : Int) (h : 0 ≤ n) : IntKind.u8.wrap ↑(128 % 2 ^ IntKind.u8.bits ||| (IntKind.u8.wrap ↑((IntKind.u8.wrap n % 2 ^ IntKind.u8.bits).toNat &&& 63 % 2 ^ IntKind.u8.bits) % 2 ^ IntKind.u8.bits).toNat) = 128 + n % 64 := by
  rw [wrap8 n h]
  obtain ⟨x, hx⟩ := fin_of (k := 256) (n := n % 256) (by omega)
  rw [hx, cont256 x, ← hx]
  omega
theorem shr6 (r : Int) : r.fdiv (2 ^ min 6 IntKind.i32.bits) = r / 64 := Int.fdiv_eq_ediv_of_nonneg _ (by decide)
theorem shr12 (r : Int) : r.fdiv (2 ^ min 12 IntKind.i32.bits) = r / 4096 := Int.fdiv_eq_ediv_of_nonneg _ (by decide)
theorem shr18 (r : Int) : r.fdiv (2 ^ min 18 IntKind.i32.bits) = r / 262144 := Int.fdiv_eq_ediv_of_nonneg _ (by decide)
theorem appendNon_ax (bs : List UInt8) (r : Int) (hb : bs.length ≤ 100000000000) (h0 : 128 ≤ r) (h1 : r ≤ 1114111) (h2 : r < 55296 ∨ 57343 < r) : AX Tryd.prog G 53 [.ms 3, .p (.int .i32 r)] [(3, .row 5 1 (bytesP bs))] (.ms 3) [] [(3, .row 5 1 (bytesP bs ++ bytesP (Lib.encodeRune r)))] := by
  refine AX.introU tok 900 Tryd.func53 (by kernel_rfl) rfl rfl ?_
  simp only [Tryd.f53, enumA, List.map_cons, List.map_nil]
  have hw : IntKind.u32.wrap r = r := by simp [IntKind.wrap, IntKind.bits, IntKind.signed]; omega
  refine AW.seqRegionO [] ?_
  refine s1 tok [0, 1] ?_
  refine AOpsO.nil ?_
  refine AW.seqRegionO [] ?_
  refine s1 tok [0, 1, 6] ?_
  refine s1 tok [0, 1, 7] ?_
  refine s1 tok [0, 1, 5] ?_
  refine AOpsO.nil ?_
  refine AW.block ?_
  refine AW.seqRegionO [] ?_
  refine s1 tok [0, 1, 5, 12] ?_
  refine s1 tok [0, 1, 5, 13] ?_
  refine s1 tok [0, 1, 5, 11] ?_
  refine AOpsO.nil ?_
  refine AW.cond (c := .tmp 11) (by conv => lhs; simp) trivial ?_ ?_
  · intro h11
    try simp at h11
    rw [encP r _ (Lib.encodeRuneZ_two (by omega) (by omega))]
    refine AW.seqRegionO [.int .u8 (192 + r / 64), .int .u8 (128 + r % 64)] ?_
    refine s1 tok [1, 14] ?_
    refine s1 tok [1, 14, 15] ?_
    refine s1 tok [1, 14, 16] ?_ (hv := by first | with_reducible exact True.intro | (simp only [shr6, shr12, shr18]; exact ⟨lead192 _ (by omega), cont8 _ (by omega)⟩; done) | omega | simp | (simp; omega) | (simp +contextual; omega))
    refine s1 tok [1, 14, 17] ?_ (hv := by first | with_reducible exact True.intro | (simp only [shr6, shr12, shr18]; exact ⟨lead192 _ (by omega), cont8 _ (by omega)⟩; done) | omega | simp | (simp; omega) | (simp +contextual; omega))
    refine s1 tok [1, 14, 18] ?_ (hv := by first | with_reducible exact True.intro | (simp only [shr6, shr12, shr18]; exact ⟨lead192 _ (by omega), cont8 _ (by omega)⟩; done) | omega | simp | (simp; omega) | (simp +contextual; omega))
    refine s1 tok [14, 18, 19] ?_
    refine s1 tok [14, 18, 20] ?_ (hv := by first | with_reducible exact True.intro | (simp only [shr6, shr12, shr18]; exact ⟨lead192 _ (by omega), cont8 _ (by omega)⟩; done) | omega | simp | (simp; omega) | (simp +contextual; omega))
    refine s1 tok [14, 18, 21] ?_ (hv := by first | with_reducible exact True.intro | (simp only [shr6, shr12, shr18]; exact ⟨lead192 _ (by omega), cont8 _ (by omega)⟩; done) | omega | simp | (simp; omega) | (simp +contextual; omega))
    refine s1 tok [14, 18, 22] ?_ (hv := by first | with_reducible exact True.intro | (simp only [shr6, shr12, shr18]; exact ⟨lead192 _ (by omega), cont8 _ (by omega)⟩; done) | omega | simp | (simp; omega) | (simp +contextual; omega))
    refine s1 tok [14, 23] ?_ (hv := by first | with_reducible exact True.intro | (simp only [shr6, shr12, shr18]; exact ⟨lead192 _ (by omega), cont8 _ (by omega)⟩; done) | omega | simp | (simp; omega) | (simp +contextual; omega))
    refine s1 tok [24] ?_ (hv := by first | with_reducible exact True.intro | (simp only [shr6, shr12, shr18]; exact ⟨lead192 _ (by omega), cont8 _ (by omega)⟩; done) | omega | simp | (simp; omega) | (simp +contextual; omega))
    refine s1 tok [4] ?_
    refine AOpsO.nil ?_
    exact AW.ret ⟨.inr rfl, _, _, by (conv => lhs; simp), trivial, by simp, by simp, by simp, by simp⟩
  · intro h11
    try simp at h11
    refine AW.seq ?_
    refine AW.seqRegionO [] ?_
    refine s1 tok [0, 1, 5, 26] ?_
    refine s1 tok [0, 1, 5, 27] ?_
    refine s1 tok [0, 1, 5, 25] ?_
    refine AOpsO.nil ?_
    refine AW.cond (c := .tmp 25) (by conv => lhs; simp) trivial ?_ ?_
    · intro h25
      try simp at h25
      refine AW.skip ?_
      refine AW.cond (c := .tmp 25) (by conv => lhs; simp) trivial ?_ ?_
      · intro h25
        try simp at h25
        rw [encP r _ (Lib.encodeRuneZ_three (by omega))]
        refine AW.seqRegionO [.int .u8 (224 + r / 4096), .int .u8 (128 + r / 64 % 64), .int .u8 (128 + r % 64)] ?_
        refine s1 tok [1, 34] ?_
        refine s1 tok [1, 34, 35] ?_
        refine s1 tok [1, 34, 36] ?_ (hv := by first | with_reducible exact True.intro | (simp only [shr6, shr12, shr18]; exact ⟨lead224 _ (by omega), cont8 _ (by omega), cont8 _ (by omega)⟩; done) | omega | simp | (simp; omega) | (simp +contextual; omega))
        refine s1 tok [1, 34, 37] ?_ (hv := by first | with_reducible exact True.intro | (simp only [shr6, shr12, shr18]; exact ⟨lead224 _ (by omega), cont8 _ (by omega), cont8 _ (by omega)⟩; done) | omega | simp | (simp; omega) | (simp +contextual; omega))
        refine s1 tok [1, 34, 38] ?_ (hv := by first | with_reducible exact True.intro | (simp only [shr6, shr12, shr18]; exact ⟨lead224 _ (by omega), cont8 _ (by omega), cont8 _ (by omega)⟩; done) | omega | simp | (simp; omega) | (simp +contextual; omega))
        refine s1 tok [1, 34, 38, 39] ?_
        refine s1 tok [1, 34, 38, 40] ?_ (hv := by first | with_reducible exact True.intro | (simp only [shr6, shr12, shr18]; exact ⟨lead224 _ (by omega), cont8 _ (by omega), cont8 _ (by omega)⟩; done) | omega | simp | (simp; omega) | (simp +contextual; omega))
        refine s1 tok [1, 34, 38, 41] ?_ (hv := by first | with_reducible exact True.intro | (simp only [shr6, shr12, shr18]; exact ⟨lead224 _ (by omega), cont8 _ (by omega), cont8 _ (by omega)⟩; done) | omega | simp | (simp; omega) | (simp +contextual; omega))
        refine s1 tok [1, 34, 38, 42] ?_ (hv := by first | with_reducible exact True.intro | (simp only [shr6, shr12, shr18]; exact ⟨lead224 _ (by omega), cont8 _ (by omega), cont8 _ (by omega)⟩; done) | omega | simp | (simp; omega) | (simp +contextual; omega))
        refine s1 tok [1, 34, 38, 43] ?_ (hv := by first | with_reducible exact True.intro | (simp only [shr6, shr12, shr18]; exact ⟨lead224 _ (by omega), cont8 _ (by omega), cont8 _ (by omega)⟩; done) | omega | simp | (simp; omega) | (simp +contextual; omega))
        refine s1 tok [34, 38, 43, 44] ?_
        refine s1 tok [34, 38, 43, 45] ?_ (hv := by first | with_reducible exact True.intro | (simp only [shr6, shr12, shr18]; exact ⟨lead224 _ (by omega), cont8 _ (by omega), cont8 _ (by omega)⟩; done) | omega | simp | (simp; omega) | (simp +contextual; omega))
        refine s1 tok [34, 38, 43, 46] ?_ (hv := by first | with_reducible exact True.intro | (simp only [shr6, shr12, shr18]; exact ⟨lead224 _ (by omega), cont8 _ (by omega), cont8 _ (by omega)⟩; done) | omega | simp | (simp; omega) | (simp +contextual; omega))
        refine s1 tok [34, 38, 43, 47] ?_ (hv := by first | with_reducible exact True.intro | (simp only [shr6, shr12, shr18]; exact ⟨lead224 _ (by omega), cont8 _ (by omega), cont8 _ (by omega)⟩; done) | omega | simp | (simp; omega) | (simp +contextual; omega))
        refine s1 tok [34, 48] ?_ (hv := by first | with_reducible exact True.intro | (simp only [shr6, shr12, shr18]; exact ⟨lead224 _ (by omega), cont8 _ (by omega), cont8 _ (by omega)⟩; done) | omega | simp | (simp; omega) | (simp +contextual; omega))
        refine s1 tok [49] ?_ (hv := by first | with_reducible exact True.intro | (simp only [shr6, shr12, shr18]; exact ⟨lead224 _ (by omega), cont8 _ (by omega), cont8 _ (by omega)⟩; done) | omega | simp | (simp; omega) | (simp +contextual; omega))
        refine s1 tok [4] ?_
        refine AOpsO.nil ?_
        exact AW.ret ⟨.inr rfl, _, _, by (conv => lhs; simp), trivial, by simp, by simp, by simp, by simp⟩
      · intro h25
        try simp at h25
        refine AW.seqRegionO [] ?_
        refine s1 tok [0, 1, 5, 51] ?_
        refine s1 tok [0, 1, 5, 52] ?_
        refine s1 tok [0, 1, 5, 53] ?_
        refine s2 tok [0, 1, 53, 54] 53 rfl rfl ?_
        refine s2 tok [0, 1, 53, 55] 53 rfl rfl ?_
        refine s1 tok [0, 1, 56] ?_
        refine s1 tok [0, 1, 50] ?_
        refine AOpsO.nil ?_
        refine AW.cond (c := .tmp 50) (by conv => lhs; simp) trivial ?_ ?_
        · intro h50
          try simp at h50
          rw [encP r _ (Lib.encodeRuneZ_four (by omega) (by omega))]
          refine AW.seqRegionO [.int .u8 (240 + r / 262144), .int .u8 (128 + r / 4096 % 64), .int .u8 (128 + r / 64 % 64), .int .u8 (128 + r % 64)] ?_
          refine s1 tok [1, 57] ?_
          refine s1 tok [1, 57, 58] ?_
          refine s1 tok [1, 57, 59] ?_ (hv := by first | with_reducible exact True.intro | (simp only [shr6, shr12, shr18]; exact ⟨lead240 _ (by omega), cont8 _ (by omega), cont8 _ (by omega), cont8 _ (by omega)⟩; done) | omega | simp | (simp; omega) | (simp +contextual; omega))
          refine s1 tok [1, 57, 60] ?_ (hv := by first | with_reducible exact True.intro | (simp only [shr6, shr12, shr18]; exact ⟨lead240 _ (by omega), cont8 _ (by omega), cont8 _ (by omega), cont8 _ (by omega)⟩; done) | omega | simp | (simp; omega) | (simp +contextual; omega))
          refine s1 tok [1, 57, 61] ?_ (hv := by first | with_reducible exact True.intro | (simp only [shr6, shr12, shr18]; exact ⟨lead240 _ (by omega), cont8 _ (by omega), cont8 _ (by omega), cont8 _ (by omega)⟩; done) | omega | simp | (simp; omega) | (simp +contextual; omega))
          refine s1 tok [1, 57, 61, 62] ?_
          refine s1 tok [1, 57, 61, 63] ?_ (hv := by first | with_reducible exact True.intro | (simp only [shr6, shr12, shr18]; exact ⟨lead240 _ (by omega), cont8 _ (by omega), cont8 _ (by omega), cont8 _ (by omega)⟩; done) | omega | simp | (simp; omega) | (simp +contextual; omega))
          refine s1 tok [1, 57, 61, 64] ?_ (hv := by first | with_reducible exact True.intro | (simp only [shr6, shr12, shr18]; exact ⟨lead240 _ (by omega), cont8 _ (by omega), cont8 _ (by omega), cont8 _ (by omega)⟩; done) | omega | simp | (simp; omega) | (simp +contextual; omega))
          refine s1 tok [1, 57, 61, 65] ?_ (hv := by first | with_reducible exact True.intro | (simp only [shr6, shr12, shr18]; exact ⟨lead240 _ (by omega), cont8 _ (by omega), cont8 _ (by omega), cont8 _ (by omega)⟩; done) | omega | simp | (simp; omega) | (simp +contextual; omega))
          refine s1 tok [1, 57, 61, 66] ?_ (hv := by first | with_reducible exact True.intro | (simp only [shr6, shr12, shr18]; exact ⟨lead240 _ (by omega), cont8 _ (by omega), cont8 _ (by omega), cont8 _ (by omega)⟩; done) | omega | simp | (simp; omega) | (simp +contextual; omega))
          refine s1 tok [1, 57, 61, 66, 67] ?_
          refine s1 tok [1, 57, 61, 66, 68] ?_ (hv := by first | with_reducible exact True.intro | (simp only [shr6, shr12, shr18]; exact ⟨lead240 _ (by omega), cont8 _ (by omega), cont8 _ (by omega), cont8 _ (by omega)⟩; done) | omega | simp | (simp; omega) | (simp +contextual; omega))
          refine s1 tok [1, 57, 61, 66, 69] ?_ (hv := by first | with_reducible exact True.intro | (simp only [shr6, shr12, shr18]; exact ⟨lead240 _ (by omega), cont8 _ (by omega), cont8 _ (by omega), cont8 _ (by omega)⟩; done) | omega | simp | (simp; omega) | (simp +contextual; omega))
          refine s1 tok [1, 57, 61, 66, 70] ?_ (hv := by first | with_reducible exact True.intro | (simp only [shr6, shr12, shr18]; exact ⟨lead240 _ (by omega), cont8 _ (by omega), cont8 _ (by omega), cont8 _ (by omega)⟩; done) | omega | simp | (simp; omega) | (simp +contextual; omega))
          refine s1 tok [1, 57, 61, 66, 71] ?_ (hv := by first | with_reducible exact True.intro | (simp only [shr6, shr12, shr18]; exact ⟨lead240 _ (by omega), cont8 _ (by omega), cont8 _ (by omega), cont8 _ (by omega)⟩; done) | omega | simp | (simp; omega) | (simp +contextual; omega))
          refine s1 tok [57, 61, 66, 71, 72] ?_
          refine s1 tok [57, 61, 66, 71, 73] ?_ (hv := by first | with_reducible exact True.intro | (simp only [shr6, shr12, shr18]; exact ⟨lead240 _ (by omega), cont8 _ (by omega), cont8 _ (by omega), cont8 _ (by omega)⟩; done) | omega | simp | (simp; omega) | (simp +contextual; omega))
          refine s1 tok [57, 61, 66, 71, 74] ?_ (hv := by first | with_reducible exact True.intro | (simp only [shr6, shr12, shr18]; exact ⟨lead240 _ (by omega), cont8 _ (by omega), cont8 _ (by omega), cont8 _ (by omega)⟩; done) | omega | simp | (simp; omega) | (simp +contextual; omega))
          refine s1 tok [57, 61, 66, 71, 75] ?_ (hv := by first | with_reducible exact True.intro | (simp only [shr6, shr12, shr18]; exact ⟨lead240 _ (by omega), cont8 _ (by omega), cont8 _ (by omega), cont8 _ (by omega)⟩; done) | omega | simp | (simp; omega) | (simp +contextual; omega))
          refine s1 tok [57, 76] ?_ (hv := by first | with_reducible exact True.intro | (simp only [shr6, shr12, shr18]; exact ⟨lead240 _ (by omega), cont8 _ (by omega), cont8 _ (by omega), cont8 _ (by omega)⟩; done) | omega | simp | (simp; omega) | (simp +contextual; omega))
          refine s1 tok [77] ?_ (hv := by first | with_reducible exact True.intro | (simp only [shr6, shr12, shr18]; exact ⟨lead240 _ (by omega), cont8 _ (by omega), cont8 _ (by omega), cont8 _ (by omega)⟩; done) | omega | simp | (simp; omega) | (simp +contextual; omega))
          refine s1 tok [4] ?_
          refine AOpsO.nil ?_
          exact AW.ret ⟨.inr rfl, _, _, by (conv => lhs; simp), trivial, by simp, by simp, by simp, by simp⟩
        · intro h50
          try simp at h50
          omega
    · intro h25
      try simp at h25
      refine AW.regionO [] ?_
      refine s1 tok [0, 1, 5, 28] ?_
      refine s1 tok [0, 1, 5, 29] ?_
      refine s1 tok [0, 1, 5, 30] ?_
      refine s2 tok [0, 1, 5, 30, 31] 30 rfl rfl ?_
      refine s2 tok [0, 1, 5, 30, 32] 30 rfl rfl ?_
      refine s1 tok [0, 1, 5, 33] ?_
      refine s1 tok [0, 1, 5, 25] ?_
      refine AOpsO.nil ?_
      refine AW.cond (c := .tmp 25) (by conv => lhs; simp) trivial ?_ ?_
      · intro h25
        try simp at h25
        rw [encP r _ (Lib.encodeRuneZ_three (by omega))]
        refine AW.seqRegionO [.int .u8 (224 + r / 4096), .int .u8 (128 + r / 64 % 64), .int .u8 (128 + r % 64)] ?_
        refine s1 tok [1, 34] ?_
        refine s1 tok [1, 34, 35] ?_
        refine s1 tok [1, 34, 36] ?_ (hv := by first | with_reducible exact True.intro | (simp only [shr6, shr12, shr18]; exact ⟨lead224 _ (by omega), cont8 _ (by omega), cont8 _ (by omega)⟩; done) | omega | simp | (simp; omega) | (simp +contextual; omega))
        refine s1 tok [1, 34, 37] ?_ (hv := by first | with_reducible exact True.intro | (simp only [shr6, shr12, shr18]; exact ⟨lead224 _ (by omega), cont8 _ (by omega), cont8 _ (by omega)⟩; done) | omega | simp | (simp; omega) | (simp +contextual; omega))
        refine s1 tok [1, 34, 38] ?_ (hv := by first | with_reducible exact True.intro | (simp only [shr6, shr12, shr18]; exact ⟨lead224 _ (by omega), cont8 _ (by omega), cont8 _ (by omega)⟩; done) | omega | simp | (simp; omega) | (simp +contextual; omega))
        refine s1 tok [1, 34, 38, 39] ?_
        refine s1 tok [1, 34, 38, 40] ?_ (hv := by first | with_reducible exact True.intro | (simp only [shr6, shr12, shr18]; exact ⟨lead224 _ (by omega), cont8 _ (by omega), cont8 _ (by omega)⟩; done) | omega | simp | (simp; omega) | (simp +contextual; omega))
        refine s1 tok [1, 34, 38, 41] ?_ (hv := by first | with_reducible exact True.intro | (simp only [shr6, shr12, shr18]; exact ⟨lead224 _ (by omega), cont8 _ (by omega), cont8 _ (by omega)⟩; done) | omega | simp | (simp; omega) | (simp +contextual; omega))
        refine s1 tok [1, 34, 38, 42] ?_ (hv := by first | with_reducible exact True.intro | (simp only [shr6, shr12, shr18]; exact ⟨lead224 _ (by omega), cont8 _ (by omega), cont8 _ (by omega)⟩; done) | omega | simp | (simp; omega) | (simp +contextual; omega))
        refine s1 tok [1, 34, 38, 43] ?_ (hv := by first | with_reducible exact True.intro | (simp only [shr6, shr12, shr18]; exact ⟨lead224 _ (by omega), cont8 _ (by omega), cont8 _ (by omega)⟩; done) | omega | simp | (simp; omega) | (simp +contextual; omega))
        refine s1 tok [34, 38, 43, 44] ?_
        refine s1 tok [34, 38, 43, 45] ?_ (hv := by first | with_reducible exact True.intro | (simp only [shr6, shr12, shr18]; exact ⟨lead224 _ (by omega), cont8 _ (by omega), cont8 _ (by omega)⟩; done) | omega | simp | (simp; omega) | (simp +contextual; omega))
        refine s1 tok [34, 38, 43, 46] ?_ (hv := by first | with_reducible exact True.intro | (simp only [shr6, shr12, shr18]; exact ⟨lead224 _ (by omega), cont8 _ (by omega), cont8 _ (by omega)⟩; done) | omega | simp | (simp; omega) | (simp +contextual; omega))
        refine s1 tok [34, 38, 43, 47] ?_ (hv := by first | with_reducible exact True.intro | (simp only [shr6, shr12, shr18]; exact ⟨lead224 _ (by omega), cont8 _ (by omega), cont8 _ (by omega)⟩; done) | omega | simp | (simp; omega) | (simp +contextual; omega))
        refine s1 tok [34, 48] ?_ (hv := by first | with_reducible exact True.intro | (simp only [shr6, shr12, shr18]; exact ⟨lead224 _ (by omega), cont8 _ (by omega), cont8 _ (by omega)⟩; done) | omega | simp | (simp; omega) | (simp +contextual; omega))
        refine s1 tok [49] ?_ (hv := by first | with_reducible exact True.intro | (simp only [shr6, shr12, shr18]; exact ⟨lead224 _ (by omega), cont8 _ (by omega), cont8 _ (by omega)⟩; done) | omega | simp | (simp; omega) | (simp +contextual; omega))
        refine s1 tok [4] ?_
        refine AOpsO.nil ?_
        exact AW.ret ⟨.inr rfl, _, _, by (conv => lhs; simp), trivial, by simp, by simp, by simp, by simp⟩
      · intro h25
        try simp at h25
        refine AW.seqRegionO [] ?_
        refine s1 tok [0, 1, 5, 51] ?_
        refine s1 tok [0, 1, 5, 52] ?_
        refine s1 tok [0, 1, 5, 53] ?_
        refine s2 tok [0, 1, 53, 54] 53 rfl rfl ?_
        refine s2 tok [0, 1, 53, 55] 53 rfl rfl ?_
        refine s1 tok [0, 1, 56] ?_
        refine s1 tok [0, 1, 50] ?_
        refine AOpsO.nil ?_
        refine AW.cond (c := .tmp 50) (by conv => lhs; simp) trivial ?_ ?_
        · intro h50
          try simp at h50
          rw [encP r _ (Lib.encodeRuneZ_four (by omega) (by omega))]
          refine AW.seqRegionO [.int .u8 (240 + r / 262144), .int .u8 (128 + r / 4096 % 64), .int .u8 (128 + r / 64 % 64), .int .u8 (128 + r % 64)] ?_
          refine s1 tok [1, 57] ?_
          refine s1 tok [1, 57, 58] ?_
          refine s1 tok [1, 57, 59] ?_ (hv := by first | with_reducible exact True.intro | (simp only [shr6, shr12, shr18]; exact ⟨lead240 _ (by omega), cont8 _ (by omega), cont8 _ (by omega), cont8 _ (by omega)⟩; done) | omega | simp | (simp; omega) | (simp +contextual; omega))
          refine s1 tok [1, 57, 60] ?_ (hv := by first | with_reducible exact True.intro | (simp only [shr6, shr12, shr18]; exact ⟨lead240 _ (by omega), cont8 _ (by omega), cont8 _ (by omega), cont8 _ (by omega)⟩; done) | omega | simp | (simp; omega) | (simp +contextual; omega))
          refine s1 tok [1, 57, 61] ?_ (hv := by first | with_reducible exact True.intro | (simp only [shr6, shr12, shr18]; exact ⟨lead240 _ (by omega), cont8 _ (by omega), cont8 _ (by omega), cont8 _ (by omega)⟩; done) | omega | simp | (simp; omega) | (simp +contextual; omega))
          refine s1 tok [1, 57, 61, 62] ?_
          refine s1 tok [1, 57, 61, 63] ?_ (hv := by first | with_reducible exact True.intro | (simp only [shr6, shr12, shr18]; exact ⟨lead240 _ (by omega), cont8 _ (by omega), cont8 _ (by omega), cont8 _ (by omega)⟩; done) | omega | simp | (simp; omega) | (simp +contextual; omega))
          refine s1 tok [1, 57, 61, 64] ?_ (hv := by first | with_reducible exact True.intro | (simp only [shr6, shr12, shr18]; exact ⟨lead240 _ (by omega), cont8 _ (by omega), cont8 _ (by omega), cont8 _ (by omega)⟩; done) | omega | simp | (simp; omega) | (simp +contextual; omega))
          refine s1 tok [1, 57, 61, 65] ?_ (hv := by first | with_reducible exact True.intro | (simp only [shr6, shr12, shr18]; exact ⟨lead240 _ (by omega), cont8 _ (by omega), cont8 _ (by omega), cont8 _ (by omega)⟩; done) | omega | simp | (simp; omega) | (simp +contextual; omega))
          refine s1 tok [1, 57, 61, 66] ?_ (hv := by first | with_reducible exact True.intro | (simp only [shr6, shr12, shr18]; exact ⟨lead240 _ (by omega), cont8 _ (by omega), cont8 _ (by omega), cont8 _ (by omega)⟩; done) | omega | simp | (simp; omega) | (simp +contextual; omega))
          refine s1 tok [1, 57, 61, 66, 67] ?_
          refine s1 tok [1, 57, 61, 66, 68] ?_ (hv := by first | with_reducible exact True.intro | (simp only [shr6, shr12, shr18]; exact ⟨lead240 _ (by omega), cont8 _ (by omega), cont8 _ (by omega), cont8 _ (by omega)⟩; done) | omega | simp | (simp; omega) | (simp +contextual; omega))
          refine s1 tok [1, 57, 61, 66, 69] ?_ (hv := by first | with_reducible exact True.intro | (simp only [shr6, shr12, shr18]; exact ⟨lead240 _ (by omega), cont8 _ (by omega), cont8 _ (by omega), cont8 _ (by omega)⟩; done) | omega | simp | (simp; omega) | (simp +contextual; omega))
          refine s1 tok [1, 57, 61, 66, 70] ?_ (hv := by first | with_reducible exact True.intro | (simp only [shr6, shr12, shr18]; exact ⟨lead240 _ (by omega), cont8 _ (by omega), cont8 _ (by omega), cont8 _ (by omega)⟩; done) | omega | simp | (simp; omega) | (simp +contextual; omega))
          refine s1 tok [1, 57, 61, 66, 71] ?_ (hv := by first | with_reducible exact True.intro | (simp only [shr6, shr12, shr18]; exact ⟨lead240 _ (by omega), cont8 _ (by omega), cont8 _ (by omega), cont8 _ (by omega)⟩; done) | omega | simp | (simp; omega) | (simp +contextual; omega))
          refine s1 tok [57, 61, 66, 71, 72] ?_
          refine s1 tok [57, 61, 66, 71, 73] ?_ (hv := by first | with_reducible exact True.intro | (simp only [shr6, shr12, shr18]; exact ⟨lead240 _ (by omega), cont8 _ (by omega), cont8 _ (by omega), cont8 _ (by omega)⟩; done) | omega | simp | (simp; omega) | (simp +contextual; omega))
          refine s1 tok [57, 61, 66, 71, 74] ?_ (hv := by first | with_reducible exact True.intro | (simp only [shr6, shr12, shr18]; exact ⟨lead240 _ (by omega), cont8 _ (by omega), cont8 _ (by omega), cont8 _ (by omega)⟩; done) | omega | simp | (simp; omega) | (simp +contextual; omega))
          refine s1 tok [57, 61, 66, 71, 75] ?_ (hv := by first | with_reducible exact True.intro | (simp only [shr6, shr12, shr18]; exact ⟨lead240 _ (by omega), cont8 _ (by omega), cont8 _ (by omega), cont8 _ (by omega)⟩; done) | omega | simp | (simp; omega) | (simp +contextual; omega))
          refine s1 tok [57, 76] ?_ (hv := by first | with_reducible exact True.intro | (simp only [shr6, shr12, shr18]; exact ⟨lead240 _ (by omega), cont8 _ (by omega), cont8 _ (by omega), cont8 _ (by omega)⟩; done) | omega | simp | (simp; omega) | (simp +contextual; omega))
          refine s1 tok [77] ?_ (hv := by first | with_reducible exact True.intro | (simp only [shr6, shr12, shr18]; exact ⟨lead240 _ (by omega), cont8 _ (by omega), cont8 _ (by omega), cont8 _ (by omega)⟩; done) | omega | simp | (simp; omega) | (simp +contextual; omega))
          refine s1 tok [4] ?_
          refine AOpsO.nil ?_
          exact AW.ret ⟨.inr rfl, _, _, by (conv => lhs; simp), trivial, by simp, by simp, by simp, by simp⟩
        · intro h50
          try simp at h50
          omega
theorem AppendRune_ax (bs : List UInt8) (r : Int) (hb : bs.length ≤ 100000000000) (h0 : 0 ≤ r) (h1 : r ≤ 1114111) (h2 : r < 55296 ∨ 57343 < r) : AX Tryd.prog G 42 [.ms 3, .p (.int .i32 r)] [(3, .row 5 1 (bytesP bs))] (.ms 3) [] [(3, .row 5 1 (bytesP bs ++ bytesP (Lib.encodeRune r)))] := by
  refine AX.introU tok 900 Tryd.func42 (by kernel_rfl) rfl rfl ?_
  simp only [Tryd.f42, enumA, List.map_cons, List.map_nil]
  have hw : IntKind.u32.wrap r = r := by simp [IntKind.wrap, IntKind.bits, IntKind.signed]; omega
  have hw8 := wrap8 r h0
  refine AW.seqRegionO [] ?_
  refine s1 tok [0, 1] ?_
  refine AOpsO.nil ?_
  refine AW.seq ?_
  refine AW.seqRegionO [] ?_
  refine s1 tok [0, 1, 5] ?_
  refine s1 tok [0, 1, 6] ?_
  refine s1 tok [0, 1, 7] ?_
  refine AOpsO.nil ?_
  refine AW.cond (c := .tmp 7) (by conv => lhs; simp) trivial ?_ ?_
  · intro h7
    try simp at h7
    rw [encP r _ (Lib.encodeRuneZ_one (by omega) (by omega))]
    refine AW.seqRegionO [.int .u8 r] ?_
    refine s1 tok [1, 8] ?_
    refine s1 tok [8, 9] ?_
    refine s1 tok [8, 10] ?_ (hv := by first | with_reducible exact True.intro | ((rw [hw8]; omega); done) | omega | simp | (simp; omega) | (simp +contextual; omega))
    refine s1 tok [8, 11] ?_ (hv := by first | with_reducible exact True.intro | ((rw [hw8]; omega); done) | omega | simp | (simp; omega) | (simp +contextual; omega))
    refine s1 tok [12] ?_ (hv := by first | with_reducible exact True.intro | ((rw [hw8]; omega); done) | omega | simp | (simp; omega) | (simp +contextual; omega))
    refine s1 tok [4] ?_
    refine AOpsO.nil ?_
    exact AW.ret ⟨.inr rfl, _, _, by (conv => lhs; simp), trivial, by simp, by simp, by simp, by simp⟩
  · intro h7
    try simp at h7
    refine AW.skip ?_
    refine AW.seqRegionO [] ?_
    refine s1 tok [1, 13] ?_
    refine s1 tok [13, 14] ?_
    refine AOpsO.stepK [15] (y_cx rfl (appendNon_ax bs r hb (by omega) h1 h2) (by simp)) (by conv => lhs; simp) rfl ?_
    refine s1 tok [4] ?_
    refine AOpsO.nil ?_
    exact AW.ret ⟨.inr rfl, _, _, by (conv => lhs; simp), trivial, by simp, by simp, by simp, by simp⟩
theorem WriteRuneF_ax (bs : List UInt8) (r : Int) (hb : bs.length ≤ 100000000000) (h0 : 0 ≤ r) (h1 : r ≤ 1114111) (h2 : r < 55296 ∨ 57343 < r) : AX Tryd.prog G 32 [.ptr 2 0, .p (.int .i32 r)] [(2, .vars 52 [.p .nilp, .ms 3]), (3, .row 5 1 (bytesP bs))] (.dead) [2] [(2, .vars 52 [.ptr 2 0, .ms 3]), (3, .row 5 1 (bytesP bs ++ bytesP (Lib.encodeRune r)))] := by
  refine AX.introU tok 900 Tryd.func32 (by kernel_rfl) rfl rfl ?_
  simp only [Tryd.f32, enumA, List.map_cons, List.map_nil]
  have hel : (Lib.encodeRune r).length ≤ 4 := by simp only [Lib.encodeRune, List.length_map]; exact (Lib.encodeRuneZ_length r).2
  refine AW.seqRegionO [] ?_
  refine s1 tok [0, 1] ?_
  refine s1 tok [0, 1] ?_
  refine AOpsO.nil ?_
  refine AW.seqRegionO [] ?_
  refine s1 tok [0, 1, 7] ?_
  refine AOpsO.stepK [0, 1] (y_cx rfl (ccF_ax bs) (by simp)) (by conv => lhs; simp) rfl ?_
  refine AOpsO.nil ?_
  refine AW.seqRegionO [] ?_
  refine s1 tok [0, 1, 9] ?_
  refine s1 tok [0, 1, 10] ?_
  refine s1 tok [0, 1, 11] ?_
  refine s1 tok [0, 1, 12] ?_
  refine s1 tok [0, 1, 13] ?_
  refine s1 tok [0, 1, 6] ?_
  refine AOpsO.nil ?_
  refine AW.seqRegionO [] ?_
  refine s1 tok [0, 1, 6, 14] ?_
  refine s1 tok [0, 1, 6, 14, 15] ?_
  refine s1 tok [0, 1, 6, 14, 16] ?_
  refine s1 tok [0, 1, 6, 14, 17] ?_
  refine s1 tok [0, 1, 6, 14, 18] ?_
  refine s1 tok [0, 6, 14, 18, 19] ?_
  refine AOpsO.stepK [0, 6, 14, 20] (y_cx rfl (AppendRune_ax bs r hb h0 h1 h2) (by simp)) (by conv => lhs; simp) rfl ?_
  refine s1 tok [0, 6, 20, 21] ?_
  refine s1 tok [0, 6, 20, 22] ?_
  refine s1 tok [0, 6] ?_
  refine AOpsO.nil ?_
  refine AW.seqRegionO [] ?_
  refine s1 tok [6, 23] ?_
  refine s1 tok [6, 24] ?_
  refine s1 tok [6, 25] ?_
  refine s1 tok [6, 26] ?_
  refine s1 tok [6, 27] ?_
  refine s1 tok [27, 28] ?_
  refine s1 tok [29] ?_
  refine s1 tok [4] ?_
  refine s1 tok [4, 5] ?_
  refine AOpsO.nil ?_
  exact AW.ret ⟨.inr rfl, _, _, by (conv => lhs; simp), trivial, by simp, by simp, by simp, by simp⟩
theorem WriteRune_ax (bs : List UInt8) (r : Int) (hb : bs.length ≤ 100000000000) (h0 : 0 ≤ r) (h1 : r ≤ 1114111) (h2 : r < 55296 ∨ 57343 < r) : AX Tryd.prog G 32 [.ptr 2 0, .p (.int .i32 r)] [(2, .vars 52 [.ptr 2 0, .ms 3]), (3, .row 5 1 (bytesP bs))] (.dead) [2] [(2, .vars 52 [.ptr 2 0, .ms 3]), (3, .row 5 1 (bytesP bs ++ bytesP (Lib.encodeRune r)))] := by
  refine AX.introU tok 900 Tryd.func32 (by kernel_rfl) rfl rfl ?_
  simp only [Tryd.f32, enumA, List.map_cons, List.map_nil]
  have hel : (Lib.encodeRune r).length ≤ 4 := by simp only [Lib.encodeRune, List.length_map]; exact (Lib.encodeRuneZ_length r).2
  refine AW.seqRegionO [] ?_
  refine s1 tok [0, 1] ?_
  refine s1 tok [0, 1] ?_
  refine AOpsO.nil ?_
  refine AW.seqRegionO [] ?_
  refine s1 tok [0, 1, 7] ?_
  refine AOpsO.stepK [0, 1] (y_cx rfl (cc_ax bs) (by simp)) (by conv => lhs; simp) rfl ?_
  refine AOpsO.nil ?_
  refine AW.seqRegionO [] ?_
  refine s1 tok [0, 1, 9] ?_
  refine s1 tok [0, 1, 10] ?_
  refine s1 tok [0, 1, 11] ?_
  refine s1 tok [0, 1, 12] ?_
  refine s1 tok [0, 1, 13] ?_
  refine s1 tok [0, 1, 6] ?_
  refine AOpsO.nil ?_
  refine AW.seqRegionO [] ?_
  refine s1 tok [0, 1, 6, 14] ?_
  refine s1 tok [0, 1, 6, 14, 15] ?_
  refine s1 tok [0, 1, 6, 14, 16] ?_
  refine s1 tok [0, 1, 6, 14, 17] ?_
  refine s1 tok [0, 1, 6, 14, 18] ?_
  refine s1 tok [0, 6, 14, 18, 19] ?_
  refine AOpsO.stepK [0, 6, 14, 20] (y_cx rfl (AppendRune_ax bs r hb h0 h1 h2) (by simp)) (by conv => lhs; simp) rfl ?_
  refine s1 tok [0, 6, 20, 21] ?_
  refine s1 tok [0, 6, 20, 22] ?_
  refine s1 tok [0, 6] ?_
  refine AOpsO.nil ?_
  refine AW.seqRegionO [] ?_
  refine s1 tok [6, 23] ?_
  refine s1 tok [6, 24] ?_
  refine s1 tok [6, 25] ?_
  refine s1 tok [6, 26] ?_
  refine s1 tok [6, 27] ?_
  refine s1 tok [27, 28] ?_
  refine s1 tok [29] ?_
  refine s1 tok [4] ?_
  refine s1 tok [4, 5] ?_
  refine AOpsO.nil ?_
  exact AW.ret ⟨.inr rfl, _, _, by (conv => lhs; simp), trivial, by simp, by simp, by simp, by simp⟩
theorem BLenF_ax (bs : List UInt8) : AX Tryd.prog G 29 [.ptr 2 0] [(2, .vars 52 [.p .nilp, .ms 3]), (3, .row 5 1 (bytesP bs))] (.p (.int .i64 bs.length)) [2, 3] [(2, .vars 52 [.p .nilp, .ms 3]), (3, .row 5 1 (bytesP bs))] := by
  refine AX.introU tok 900 Tryd.func29 (by kernel_rfl) rfl rfl ?_
  simp only [Tryd.f29, enumA, List.map_cons, List.map_nil]
  refine AW.seqRegionO [] ?_
  refine s1 tok [0] ?_
  refine AOpsO.nil ?_
  refine AW.seqRegionO [] ?_
  refine s1 tok [3] ?_
  refine s1 tok [4] ?_
  refine s1 tok [5] ?_
  refine s1 tok [6] ?_
  refine s1 tok [7] ?_
  refine s1 tok [2] ?_
  refine AOpsO.nil ?_
  exact AW.ret ⟨.inr rfl, _, _, by (conv => lhs; simp), trivial, by simp, by simp, by simp, by simp⟩
theorem BLen_ax (bs : List UInt8) : AX Tryd.prog G 29 [.ptr 2 0] [(2, .vars 52 [.ptr 2 0, .ms 3]), (3, .row 5 1 (bytesP bs))] (.p (.int .i64 bs.length)) [2, 3] [(2, .vars 52 [.ptr 2 0, .ms 3]), (3, .row 5 1 (bytesP bs))] := by
  refine AX.introU tok 900 Tryd.func29 (by kernel_rfl) rfl rfl ?_
  simp only [Tryd.f29, enumA, List.map_cons, List.map_nil]
  refine AW.seqRegionO [] ?_
  refine s1 tok [0] ?_
  refine AOpsO.nil ?_
  refine AW.seqRegionO [] ?_
  refine s1 tok [3] ?_
  refine s1 tok [4] ?_
  refine s1 tok [5] ?_
  refine s1 tok [6] ?_
  refine s1 tok [7] ?_
  refine s1 tok [2] ?_
  refine AOpsO.nil ?_
  exact AW.ret ⟨.inr rfl, _, _, by (conv => lhs; simp), trivial, by simp, by simp, by simp, by simp⟩
end Go.Proofs.YtdjjmppnnkkloaaDoor
