import Derived.Test.YtdjjmppnnkkloaaGreatDoorK1
import Derived.Shelf.Unicode.DecodeAny
import Derived.Lib.MapLaws
namespace Go.Proofs.YtdjjmppnnkkloaaGreatDoor
open Sy Go
set_option maxRecDepth 100000
set_option maxHeartbeats 4000000
set_option linter.unusedSimpArgs false
set_option linter.unusedVariables false
variable {G : Glob}
@[simp] theorem bytesP_app (a s : List UInt8) : bytesP (a ++ s) = bytesP a ++ s.map fun b => .int .u8 b.toNat := by simp [bytesP]
theorem WriteByteF_ax (bs : List UInt8) (c : UInt8) (hb : bs.length ≤ 100000000000) : AX Tryz.prog G 86 [.ptr 2 0, .p (.int .u8 c.toNat)] [(2, .vars 112 [.p .nilp, .ms 3]), (3, .row 5 1 (bytesP bs))] (.dead) [2] [(2, .vars 112 [.ptr 2 0, .ms 3]), (3, .row 5 1 (bytesP (bs ++ [c])))] := by
 refine AX.introU tok 900 Tryz.func86 (by kernel_rfl) rfl rfl ?_
 simp only [Tryz.f86, enumA, List.map_cons, List.map_nil]
 refine rgn [] [[0, 1]] ?_
 refine op1 tok ?_
 refine runEnd ?_
 refine rgn [] [[]] ?_
 refine op1 tok ?_
 refine runOff ?_
 refine AOpsO.stepK [0, 1] (y_cx rfl (ccF_ax bs) (by simp)) (by conv => lhs; simp) rfl ?_
 refine AOpsO.nil ?_
 refine rgn [.int .u8 c.toNat] [[], [], [], [], [1, 7, 11], [], [], [7, 14], [], [], [17]] ?_
 iterate 11 refine op1 tok ?_
 refine runEnd ?_
 refine rgn [] [[]] ?_
 refine op1 tok ?_
 refine runEnd ?_
 exact AW.ret ⟨.inr rfl, _, _, by (conv => lhs; simp), trivial, by simp, by simp, by simp, by simp⟩
theorem WriteStringF_ax (bs s : List UInt8) (hb : bs.length ≤ 100000000000) (hs : s.length ≤ 100000000000) : AX Tryz.prog G 88 [.ptr 2 0, .p (.str s)] [(2, .vars 112 [.p .nilp, .ms 3]), (3, .row 5 1 (bytesP bs))] (.dead) [2] [(2, .vars 112 [.ptr 2 0, .ms 3]), (3, .row 5 1 (bytesP (bs ++ s)))] := by
 refine AX.introU tok 900 Tryz.func88 (by kernel_rfl) rfl rfl ?_
 simp only [Tryz.f88, enumA, List.map_cons, List.map_nil]
 refine rgn [] [[], [0, 1]] ?_
 iterate 2 refine op1 tok ?_
 refine runEnd ?_
 refine rgn [] [[]] ?_
 refine op1 tok ?_
 refine runOff ?_
 refine AOpsO.stepK [0, 1] (y_cx rfl (ccF_ax bs) (by simp)) (by conv => lhs; simp) rfl ?_
 refine AOpsO.nil ?_
 refine rgn [] [[], [], [], [], [1, 8, 12], [], [], [], [1, 14, 16], [1]] ?_
 iterate 10 refine op1 tok ?_
 refine runEnd ?_
 refine rgn [] [[], [], [], [4, 5]] ?_
 iterate 4 refine op1 tok ?_
 refine runEnd ?_
 exact AW.ret ⟨.inr rfl, _, _, by (conv => lhs; simp), trivial, by simp, by simp, by simp, by simp⟩
theorem WriteByte_ax (bs : List UInt8) (c : UInt8) (hb : bs.length ≤ 100000000000) : AX Tryz.prog G 86 [.ptr 2 0, .p (.int .u8 c.toNat)] [(2, .vars 112 [.ptr 2 0, .ms 3]), (3, .row 5 1 (bytesP bs))] (.dead) [2] [(2, .vars 112 [.ptr 2 0, .ms 3]), (3, .row 5 1 (bytesP (bs ++ [c])))] := by
 refine AX.introU tok 900 Tryz.func86 (by kernel_rfl) rfl rfl ?_
 simp only [Tryz.f86, enumA, List.map_cons, List.map_nil]
 refine rgn [] [[0, 1]] ?_
 refine op1 tok ?_
 refine runEnd ?_
 refine rgn [] [[]] ?_
 refine op1 tok ?_
 refine runOff ?_
 refine AOpsO.stepK [0, 1] (y_cx rfl (cc_ax bs) (by simp)) (by conv => lhs; simp) rfl ?_
 refine AOpsO.nil ?_
 refine rgn [.int .u8 c.toNat] [[], [], [], [], [1, 7, 11], [], [], [7, 14], [], [], [17]] ?_
 iterate 11 refine op1 tok ?_
 refine runEnd ?_
 refine rgn [] [[]] ?_
 refine op1 tok ?_
 refine runEnd ?_
 exact AW.ret ⟨.inr rfl, _, _, by (conv => lhs; simp), trivial, by simp, by simp, by simp, by simp⟩
theorem WriteString_ax (bs s : List UInt8) (hb : bs.length ≤ 100000000000) (hs : s.length ≤ 100000000000) : AX Tryz.prog G 88 [.ptr 2 0, .p (.str s)] [(2, .vars 112 [.ptr 2 0, .ms 3]), (3, .row 5 1 (bytesP bs))] (.dead) [2] [(2, .vars 112 [.ptr 2 0, .ms 3]), (3, .row 5 1 (bytesP (bs ++ s)))] := by
 refine AX.introU tok 900 Tryz.func88 (by kernel_rfl) rfl rfl ?_
 simp only [Tryz.f88, enumA, List.map_cons, List.map_nil]
 refine rgn [] [[], [0, 1]] ?_
 iterate 2 refine op1 tok ?_
 refine runEnd ?_
 refine rgn [] [[]] ?_
 refine op1 tok ?_
 refine runOff ?_
 refine AOpsO.stepK [0, 1] (y_cx rfl (cc_ax bs) (by simp)) (by conv => lhs; simp) rfl ?_
 refine AOpsO.nil ?_
 refine rgn [] [[], [], [], [], [1, 8, 12], [], [], [], [1, 14, 16], [1]] ?_
 iterate 10 refine op1 tok ?_
 refine runEnd ?_
 refine rgn [] [[], [], [], [4, 5]] ?_
 iterate 4 refine op1 tok ?_
 refine runEnd ?_
 exact AW.ret ⟨.inr rfl, _, _, by (conv => lhs; simp), trivial, by simp, by simp, by simp, by simp⟩
@[simp] theorem bytesP_nil : bytesP [] = [] := rfl
theorem encP (r : Int) (l : List Int) (h : Lib.encodeRuneZ r = l) : bytesP (Lib.encodeRune r) = l.map (PD.int .u8) := by
 subst h
 simp only [bytesP, Lib.encodeRune, List.map_map]
 apply List.map_congr_left
 intro x hx
 obtain ⟨h0, h1⟩ := Lib.encodeRuneZ_byte r x hx
 simp [Function.comp]
 omega
theorem fin_of {k : Nat} {n : Int} (h : 0 ≤ n ∧ n < k) : ∃ x : Fin k, n = x.val := ⟨⟨n.toNat, by omega⟩, by simp; omega⟩
theorem wrap8 (n : Int) (h : 0 ≤ n) : IntKind.u8.wrap n = n % 256 := by simp [IntKind.wrap, IntKind.bits, IntKind.signed]
theorem lead192 (n : Int) (h : 0 ≤ n ∧ n < 32) : IntKind.u8.wrap ↑(192 % 2 ^ IntKind.u8.bits ||| (IntKind.u8.wrap n % 2 ^ IntKind.u8.bits).toNat) = 192 + n := by
 obtain ⟨x, rfl⟩ := fin_of h; revert x; decide +kernel
theorem lead224 (n : Int) (h : 0 ≤ n ∧ n < 16) : IntKind.u8.wrap ↑(224 % 2 ^ IntKind.u8.bits ||| (IntKind.u8.wrap n % 2 ^ IntKind.u8.bits).toNat) = 224 + n := by
 obtain ⟨x, rfl⟩ := fin_of h; revert x; decide +kernel
theorem lead240 (n : Int) (h : 0 ≤ n ∧ n < 8) : IntKind.u8.wrap ↑(240 % 2 ^ IntKind.u8.bits ||| (IntKind.u8.wrap n % 2 ^ IntKind.u8.bits).toNat) = 240 + n := by
 obtain ⟨x, rfl⟩ := fin_of h; revert x; decide +kernel
theorem cont256 : ∀ x : Fin 256, IntKind.u8.wrap ↑(128 % 2 ^ IntKind.u8.bits ||| (IntKind.u8.wrap ↑((((x.val : Nat) : Int) % 2 ^ IntKind.u8.bits).toNat &&& 63 % 2 ^ IntKind.u8.bits) % 2 ^ IntKind.u8.bits).toNat) = 128 + ((x.val : Nat) : Int) % 64 := by decide +kernel
theorem cont8 (n : Int) (h : 0 ≤ n) : IntKind.u8.wrap ↑(128 % 2 ^ IntKind.u8.bits ||| (IntKind.u8.wrap ↑((IntKind.u8.wrap n % 2 ^ IntKind.u8.bits).toNat &&& 63 % 2 ^ IntKind.u8.bits) % 2 ^ IntKind.u8.bits).toNat) = 128 + n % 64 := by
 rw [wrap8 n h]
 obtain ⟨x, hx⟩ := fin_of (k := 256) (n := n % 256) (by omega)
 rw [hx, cont256 x, ← hx]
 omega
theorem shr6 (r : Int) : r.fdiv (2 ^ min 6 IntKind.i32.bits) = r / 64 := Int.fdiv_eq_ediv_of_nonneg _ (by decide)
theorem shr12 (r : Int) : r.fdiv (2 ^ min 12 IntKind.i32.bits) = r / 4096 := Int.fdiv_eq_ediv_of_nonneg _ (by decide)
theorem shr18 (r : Int) : r.fdiv (2 ^ min 18 IntKind.i32.bits) = r / 262144 := Int.fdiv_eq_ediv_of_nonneg _ (by decide)
theorem appendNon_ax (bs : List UInt8) (r : Int) (hb : bs.length ≤ 100000000000) (h0 : 128 ≤ r) (h1 : r ≤ 1114111) (h2 : r < 55296 ∨ 57343 < r) : AX Tryz.prog G 141 [.ms 3, .p (.int .i32 r)] [(3, .row 5 1 (bytesP bs))] (.ms 3) [] [(3, .row 5 1 (bytesP bs ++ bytesP (Lib.encodeRune r)))] := by
 refine AX.introU tok 900 Tryz.func141 (by kernel_rfl) rfl rfl ?_
 simp only [Tryz.f141, enumA, List.map_cons, List.map_nil]
 have hw : IntKind.u32.wrap r = r := by simp [IntKind.wrap, IntKind.bits, IntKind.signed]; omega
 refine rgn [] [[0, 1]] ?_
 refine op1 tok ?_
 refine runEnd ?_
 refine rgn [] [[], [], [0, 1, 5]] ?_
 iterate 3 refine op1 tok ?_
 refine runEnd ?_
 refine AW.block ?_
 refine rgn [] [[], [], [0, 1, 5, 11]] ?_
 iterate 3 refine op1 tok ?_
 refine runEnd ?_
 refine cnd ?_ ?_
 ·intro h11
  try simp at h11
  rw [encP r _ (Lib.encodeRuneZ_two (by omega) (by omega))]
  refine rgn [.int .u8 (192 + r / 64), .int .u8 (128 + r % 64)] [[], [], [], [], [1, 14, 18], [], [], [], [14, 18, 22], [], [24], [4]] ?_
  iterate 12 refine op1 tok ?_ (hv := by first | with_reducible exact True.intro | (simp only [shr6, shr12, shr18]; exact ⟨lead192 _ (by omega), cont8 _ (by omega)⟩; done) | omega | simp | (simp; omega) | (simp +contextual; omega))
  refine runEnd ?_
  exact AW.ret ⟨.inr rfl, _, _, by (conv => lhs; simp), trivial, by simp, by simp, by simp, by simp⟩
 ·intro h11
  try simp at h11
  refine AW.seq ?_
  refine rgn [] [[], [], [0, 1, 5, 25]] ?_
  iterate 3 refine op1 tok ?_
  refine runEnd ?_
  refine cnd ?_ ?_
  ·intro h25
   try simp at h25
   refine AW.skip ?_
   refine cnd ?_ ?_
   ·intro h25
    try simp at h25
    rw [encP r _ (Lib.encodeRuneZ_three (by omega))]
    refine rgn [.int .u8 (224 + r / 4096), .int .u8 (128 + r / 64 % 64), .int .u8 (128 + r % 64)] [[], [], [], [], [1, 34, 38], [], [], [], [], [1, 34, 38, 43], [], [], [], [34, 38, 43, 47], [], [49], [4]] ?_
    iterate 17 refine op1 tok ?_ (hv := by first | with_reducible exact True.intro | (simp only [shr6, shr12, shr18]; exact ⟨lead224 _ (by omega), cont8 _ (by omega), cont8 _ (by omega)⟩; done) | omega | simp | (simp; omega) | (simp +contextual; omega))
    refine runEnd ?_
    exact AW.ret ⟨.inr rfl, _, _, by (conv => lhs; simp), trivial, by simp, by simp, by simp, by simp⟩
   ·intro h25
    try simp at h25
    refine rgn [] [[], [], [], [], [0, 1, 53, 55], [], [0, 1, 50]] ?_
    iterate 3 refine op1 tok ?_
    iterate 2 refine op2 tok ?_
    iterate 2 refine op1 tok ?_
    refine runEnd ?_
    refine cnd ?_ ?_
    ·intro h50
     try simp at h50
     rw [encP r _ (Lib.encodeRuneZ_four (by omega) (by omega))]
     refine rgn [.int .u8 (240 + r / 262144), .int .u8 (128 + r / 4096 % 64), .int .u8 (128 + r / 64 % 64), .int .u8 (128 + r % 64)] [[], [], [], [], [1, 57, 61], [], [], [], [], [1, 57, 61, 66], [], [], [], [], [1, 57, 61, 66, 71], [], [], [], [57, 61, 66, 71, 75], [57, 76], [], [4]] ?_
     iterate 22 refine op1 tok ?_ (hv := by first | with_reducible exact True.intro | (simp only [shr6, shr12, shr18]; exact ⟨lead240 _ (by omega), cont8 _ (by omega), cont8 _ (by omega), cont8 _ (by omega)⟩; done) | omega | simp | (simp; omega) | (simp +contextual; omega))
     refine runEnd ?_
     exact AW.ret ⟨.inr rfl, _, _, by (conv => lhs; simp), trivial, by simp, by simp, by simp, by simp⟩
    ·intro h50
     try simp at h50
     omega
  ·intro h25
   try simp at h25
   refine rgz [] [[], [], [], [], [], [0, 1, 5, 33], [0, 1, 5, 25]] ?_
   iterate 3 refine op1 tok ?_
   iterate 2 refine op2 tok ?_
   iterate 2 refine op1 tok ?_
   refine runEnd ?_
   refine cnd ?_ ?_
   ·intro h25
    try simp at h25
    rw [encP r _ (Lib.encodeRuneZ_three (by omega))]
    refine rgn [.int .u8 (224 + r / 4096), .int .u8 (128 + r / 64 % 64), .int .u8 (128 + r % 64)] [[], [], [], [], [1, 34, 38], [], [], [], [], [1, 34, 38, 43], [], [], [], [34, 38, 43, 47], [], [49], [4]] ?_
    iterate 17 refine op1 tok ?_ (hv := by first | with_reducible exact True.intro | (simp only [shr6, shr12, shr18]; exact ⟨lead224 _ (by omega), cont8 _ (by omega), cont8 _ (by omega)⟩; done) | omega | simp | (simp; omega) | (simp +contextual; omega))
    refine runEnd ?_
    exact AW.ret ⟨.inr rfl, _, _, by (conv => lhs; simp), trivial, by simp, by simp, by simp, by simp⟩
   ·intro h25
    try simp at h25
    refine rgn [] [[], [], [], [], [0, 1, 53, 55], [], [0, 1, 50]] ?_
    iterate 3 refine op1 tok ?_
    iterate 2 refine op2 tok ?_
    iterate 2 refine op1 tok ?_
    refine runEnd ?_
    refine cnd ?_ ?_
    ·intro h50
     try simp at h50
     rw [encP r _ (Lib.encodeRuneZ_four (by omega) (by omega))]
     refine rgn [.int .u8 (240 + r / 262144), .int .u8 (128 + r / 4096 % 64), .int .u8 (128 + r / 64 % 64), .int .u8 (128 + r % 64)] [[], [], [], [], [1, 57, 61], [], [], [], [], [1, 57, 61, 66], [], [], [], [], [1, 57, 61, 66, 71], [], [], [], [57, 61, 66, 71, 75], [57, 76], [], [4]] ?_
     iterate 22 refine op1 tok ?_ (hv := by first | with_reducible exact True.intro | (simp only [shr6, shr12, shr18]; exact ⟨lead240 _ (by omega), cont8 _ (by omega), cont8 _ (by omega), cont8 _ (by omega)⟩; done) | omega | simp | (simp; omega) | (simp +contextual; omega))
     refine runEnd ?_
     exact AW.ret ⟨.inr rfl, _, _, by (conv => lhs; simp), trivial, by simp, by simp, by simp, by simp⟩
    ·intro h50
     try simp at h50
     omega
theorem AppendRune_ax (bs : List UInt8) (r : Int) (hb : bs.length ≤ 100000000000) (h0 : 0 ≤ r) (h1 : r ≤ 1114111) (h2 : r < 55296 ∨ 57343 < r) : AX Tryz.prog G 119 [.ms 3, .p (.int .i32 r)] [(3, .row 5 1 (bytesP bs))] (.ms 3) [] [(3, .row 5 1 (bytesP bs ++ bytesP (Lib.encodeRune r)))] := by
 refine AX.introU tok 900 Tryz.func119 (by kernel_rfl) rfl rfl ?_
 simp only [Tryz.f119, enumA, List.map_cons, List.map_nil]
 have hw : IntKind.u32.wrap r = r := by simp [IntKind.wrap, IntKind.bits, IntKind.signed]; omega
 have hw8 := wrap8 r h0
 refine rgn [] [[0, 1]] ?_
 refine op1 tok ?_
 refine runEnd ?_
 refine AW.seq ?_
 refine rgn [] [[], [], [0, 1, 7]] ?_
 iterate 3 refine op1 tok ?_
 refine runEnd ?_
 refine cnd ?_ ?_
 ·intro h7
  try simp at h7
  rw [encP r _ (Lib.encodeRuneZ_one (by omega) (by omega))]
  refine rgn [.int .u8 r] [[], [], [], [8, 11], [], [4]] ?_
  iterate 6 refine op1 tok ?_ (hv := by first | with_reducible exact True.intro | ((rw [hw8]; omega); done) | omega | simp | (simp; omega) | (simp +contextual; omega))
  refine runEnd ?_
  exact AW.ret ⟨.inr rfl, _, _, by (conv => lhs; simp), trivial, by simp, by simp, by simp, by simp⟩
 ·intro h7
  try simp at h7
  refine AW.skip ?_
  refine rgn [] [[], []] ?_
  iterate 2 refine op1 tok ?_
  refine runOff ?_
  refine AOpsO.stepK [15] (y_cx rfl (appendNon_ax bs r hb (by omega) h1 h2) (by simp)) (by conv => lhs; simp) rfl ?_
  refine AOpsO.run [[4]] ?_
  refine op1 tok ?_
  refine runEnd ?_
  exact AW.ret ⟨.inr rfl, _, _, by (conv => lhs; simp), trivial, by simp, by simp, by simp, by simp⟩
theorem WriteRuneF_ax (bs : List UInt8) (r : Int) (hb : bs.length ≤ 100000000000) (h0 : 0 ≤ r) (h1 : r ≤ 1114111) (h2 : r < 55296 ∨ 57343 < r) : AX Tryz.prog G 87 [.ptr 2 0, .p (.int .i32 r)] [(2, .vars 112 [.p .nilp, .ms 3]), (3, .row 5 1 (bytesP bs))] (.dead) [2] [(2, .vars 112 [.ptr 2 0, .ms 3]), (3, .row 5 1 (bytesP bs ++ bytesP (Lib.encodeRune r)))] := by
 refine AX.introU tok 900 Tryz.func87 (by kernel_rfl) rfl rfl ?_
 simp only [Tryz.f87, enumA, List.map_cons, List.map_nil]
 have hel : (Lib.encodeRune r).length ≤ 4 := by simp only [Lib.encodeRune, List.length_map]; exact (Lib.encodeRuneZ_length r).2
 refine rgn [] [[], [0, 1]] ?_
 iterate 2 refine op1 tok ?_
 refine runEnd ?_
 refine rgn [] [[]] ?_
 refine op1 tok ?_
 refine runOff ?_
 refine AOpsO.stepK [0, 1] (y_cx rfl (ccF_ax bs) (by simp)) (by conv => lhs; simp) rfl ?_
 refine AOpsO.nil ?_
 refine rgn [] [[], [], [], [], [0, 1, 13], [0, 1, 6]] ?_
 iterate 6 refine op1 tok ?_
 refine runEnd ?_
 refine rgn [] [[], [], [], [], [], [0, 6, 14, 18, 19]] ?_
 iterate 6 refine op1 tok ?_
 refine runOff ?_
 refine AOpsO.stepK [0, 6, 14, 20] (y_cx rfl (AppendRune_ax bs r hb h0 h1 h2) (by simp)) (by conv => lhs; simp) rfl ?_
 refine AOpsO.run [[], [], [0, 6]] ?_
 iterate 3 refine op1 tok ?_
 refine runEnd ?_
 refine rgn [] [[], [], [], [6, 26], [], [], [29], [], [4, 5]] ?_
 iterate 9 refine op1 tok ?_
 refine runEnd ?_
 exact AW.ret ⟨.inr rfl, _, _, by (conv => lhs; simp), trivial, by simp, by simp, by simp, by simp⟩
theorem WriteRune_ax (bs : List UInt8) (r : Int) (hb : bs.length ≤ 100000000000) (h0 : 0 ≤ r) (h1 : r ≤ 1114111) (h2 : r < 55296 ∨ 57343 < r) : AX Tryz.prog G 87 [.ptr 2 0, .p (.int .i32 r)] [(2, .vars 112 [.ptr 2 0, .ms 3]), (3, .row 5 1 (bytesP bs))] (.dead) [2] [(2, .vars 112 [.ptr 2 0, .ms 3]), (3, .row 5 1 (bytesP bs ++ bytesP (Lib.encodeRune r)))] := by
 refine AX.introU tok 900 Tryz.func87 (by kernel_rfl) rfl rfl ?_
 simp only [Tryz.f87, enumA, List.map_cons, List.map_nil]
 have hel : (Lib.encodeRune r).length ≤ 4 := by simp only [Lib.encodeRune, List.length_map]; exact (Lib.encodeRuneZ_length r).2
 refine rgn [] [[], [0, 1]] ?_
 iterate 2 refine op1 tok ?_
 refine runEnd ?_
 refine rgn [] [[]] ?_
 refine op1 tok ?_
 refine runOff ?_
 refine AOpsO.stepK [0, 1] (y_cx rfl (cc_ax bs) (by simp)) (by conv => lhs; simp) rfl ?_
 refine AOpsO.nil ?_
 refine rgn [] [[], [], [], [], [0, 1, 13], [0, 1, 6]] ?_
 iterate 6 refine op1 tok ?_
 refine runEnd ?_
 refine rgn [] [[], [], [], [], [], [0, 6, 14, 18, 19]] ?_
 iterate 6 refine op1 tok ?_
 refine runOff ?_
 refine AOpsO.stepK [0, 6, 14, 20] (y_cx rfl (AppendRune_ax bs r hb h0 h1 h2) (by simp)) (by conv => lhs; simp) rfl ?_
 refine AOpsO.run [[], [], [0, 6]] ?_
 iterate 3 refine op1 tok ?_
 refine runEnd ?_
 refine rgn [] [[], [], [], [6, 26], [], [], [29], [], [4, 5]] ?_
 iterate 9 refine op1 tok ?_
 refine runEnd ?_
 exact AW.ret ⟨.inr rfl, _, _, by (conv => lhs; simp), trivial, by simp, by simp, by simp, by simp⟩
theorem BLenF_ax (bs : List UInt8) : AX Tryz.prog G 108 [.ptr 2 0] [(2, .vars 112 [.p .nilp, .ms 3]), (3, .row 5 1 (bytesP bs))] (.p (.int .i64 bs.length)) [2, 3] [(2, .vars 112 [.p .nilp, .ms 3]), (3, .row 5 1 (bytesP bs))] := by
 refine AX.introU tok 900 Tryz.func108 (by kernel_rfl) rfl rfl ?_
 simp only [Tryz.f108, enumA, List.map_cons, List.map_nil]
 refine rgn [] [[0]] ?_
 refine op1 tok ?_
 refine runEnd ?_
 refine rgn [] [[], [], [], [6], [], [2]] ?_
 iterate 6 refine op1 tok ?_
 refine runEnd ?_
 exact AW.ret ⟨.inr rfl, _, _, by (conv => lhs; simp), trivial, by simp, by simp, by simp, by simp⟩
theorem BLen_ax (bs : List UInt8) : AX Tryz.prog G 108 [.ptr 2 0] [(2, .vars 112 [.ptr 2 0, .ms 3]), (3, .row 5 1 (bytesP bs))] (.p (.int .i64 bs.length)) [2, 3] [(2, .vars 112 [.ptr 2 0, .ms 3]), (3, .row 5 1 (bytesP bs))] := by
 refine AX.introU tok 900 Tryz.func108 (by kernel_rfl) rfl rfl ?_
 simp only [Tryz.f108, enumA, List.map_cons, List.map_nil]
 refine rgn [] [[0]] ?_
 refine op1 tok ?_
 refine runEnd ?_
 refine rgn [] [[], [], [], [6], [], [2]] ?_
 iterate 6 refine op1 tok ?_
 refine runEnd ?_
 exact AW.ret ⟨.inr rfl, _, _, by (conv => lhs; simp), trivial, by simp, by simp, by simp, by simp⟩
end Go.Proofs.YtdjjmppnnkkloaaGreatDoor
namespace Go.Proofs.YtdjjmppnnkkloaaGreatDoor
open Sy Go
variable {G : Glob}
theorem decodeL_max (l : List UInt8) : (Lib.decodeL l).1 ≤ 1114111 := decode_range _ _
theorem DecodeRune_ev (hG : U8 G) (s : List UInt8) (hs : s ≠ []) : AFn Tryz.prog G 107 [.str s] (.tup [.int .i32 (Lib.decodeL s).1, .int .i64 (Lib.decodeL s).2]) := by
 refine AFn.of_calls (callable_of Tryz.func107 (by kernel_rfl) rfl) fun M w vs hg hmem hsz hrd => ?_
 obtain ⟨b, rfl, rfl, hm⟩ := arg_str hsz hrd
 refine (Any.utf8_DecodeRuneInString Tryz.lays197 b w (u8_tabs hG hg hmem)).mono ?_
 rintro e w' ⟨rfl, hb⟩
 have h0 : b.size ≠ 0 := fun h => hs (List.eq_nil_of_length_eq_zero (by simpa using h))
 have e : Lib.decodeGo b = Lib.decodeL b.data.toList := by
  unfold Lib.decodeGo Lib.decodeL
  rw [if_neg h0]
 rw [e]
 have h1 := decodeL_max b.data.toList
 have h2 := Lib.decodeL_le b.data.toList hs
 have h3 : b.data.toList.length ≤ maxLen := by simpa using hm
 refine ⟨_, rfl, .tup rfl fun i u d hu hd => ?_, hb⟩
 match i, hu, hd with
 | 0, hu, hd => simp at hu hd; subst hu; subst hd; exact .int (by rw [kmin_eq]; simp only [kmin]; omega) (by rw [kmax_eq]; simp only [kmax]; omega)
 | 1, hu, hd => simp at hu hd; subst hu; subst hd; exact .int (by rw [kmin_eq]; simp only [kmin]; omega) (by rw [kmax_eq]; simp only [kmax]; unfold maxLen at h3; omega)
 | i + 2, hu, hd => simp at hu
end Go.Proofs.YtdjjmppnnkkloaaGreatDoor
