import Derived.Test.YtdlejiiiifhiiaaDoorSKeysL
import Derived.Test.YtdlejiiiifhiiaaDoorSShown5
import Derived.Test.YtdlejiiiifhiiaaDoorM3
namespace Go.Proofs.YtdlejiiiifhiiaaDoor
open Sy Go
set_option maxRecDepth 100000
set_option maxHeartbeats 4000000
set_option linter.unusedSimpArgs false
set_option linter.unusedVariables false
variable {G : Glob}
theorem ky_wrap (b : UInt8) : IntKind.u8.wrap (97 + IntKind.u8.wrap ((b.toNat % 2 ^ IntKind.u8.bits &&& 3 % 2 ^ IntKind.u8.bits : Nat) : Int)) = ((kyB b).toNat : Int) := by
  have h : ∀ k : Fin 256, IntKind.u8.wrap (97 + IntKind.u8.wrap ((k.val % 2 ^ IntKind.u8.bits &&& 3 % 2 ^ IntKind.u8.bits : Nat) : Int)) = ((UInt8.ofNat (97 + k.val % 4)).toNat : Int) := by decide +kernel
  exact h ⟨b.toNat, b.toNat_lt⟩
theorem dg_wrap (k : Nat) : IntKind.u8.wrap (49 + (k : Int) % 9) = ((dgB k).toNat : Int) := by
  have h : ∀ k : Fin 9, IntKind.u8.wrap (49 + (k.val : Int)) = ((UInt8.ofNat (49 + k.val)).toNat : Int) := by decide
  have := h ⟨k % 9, by omega⟩
  simp only at this
  rw [show (k : Int) % 9 = ((k % 9 : Nat) : Int) by omega]
  exact this
theorem tm9 (k : Nat) : (k : Int).tmod 9 = (k : Int) % 9 := Int.tmod_eq_emod_of_nonneg (by omega)
theorem n_wrap {n : Nat} (h : n ≤ 9) : IntKind.u8.wrap (48 + (n : Int)) = ((UInt8.ofNat (48 + n)).toNat : Int) := by
  have h' : ∀ k : Fin 10, IntKind.u8.wrap (48 + (k.val : Int)) = ((UInt8.ofNat (48 + k.val)).toNat : Int) := by decide
  exact h' ⟨n, by omega⟩
theorem TextKeys_ev (hG : U8 G) (l0 : List UInt8) (bl : Bool) : AFn Tryd.prog G 3 [.sl 1 (bytesP l0), .bool bl] (.bool true) := by
  refine AFn.introU tok Tryd.func3 (by kernel_rfl) rfl rfl ?_
  simp only [Tryd.f3, enumA, List.map_cons, List.map_nil]
  have hsh := shown5_ev hG
  obtain ⟨l, hl⟩ : ∃ l, l = l0.take 60 := ⟨_, rfl⟩
  have hll : l.length = min l0.length 60 := by rw [hl]; simp; omega
  have hlg : ∀ k, k < l.length → l0[k]? = some (l.getD k 0) := fun k h => by
    rw [List.getD_eq_getElem?_getD, hl, List.getElem?_take, if_pos (by omega), List.getElem?_eq_getElem (by omega)]; rfl
  have hwl := ws_len bl
  refine AW.seqRegionO [] ?_
  refine s1 tok [0, 1] ?_
  refine AOpsO.nil ?_
  refine AW.seqRegionO [.nilp, .bool true] ?_
  refine s1 tok [0, 1, 18] ?_ (hv := by first | with_reducible exact True.intro | (exact hsh; done) | omega | simp | (simp; omega) | (simp +contextual; omega))
  refine s1 tok [0, 1, 5] ?_
  refine AOpsO.nil ?_
  refine AW.seqRegionO [] ?_
  refine s1 tok [0, 1, 5, 6] ?_
  refine AOpsO.nil ?_
  refine AW.seqRegionO [] ?_
  refine s1 tok [0, 1, 5, 6, 7] ?_
  refine AOpsO.nil ?_
  refine AW.join (α := Unit) (fun _ => True) (fun a => ⟨upds 166 [(0, .p (.sl 1 (bytesP l0))), (5, .p (.bool true)), (6, .p (.str [123])), (7, .p (.str (wsT bl)))], [], [], 0⟩) ?_ ?_
  ·
    refine AW.seqRegionO [] ?_
    refine s1 tok [0, 5, 6, 7, 19] ?_
    refine AOpsO.nil ?_
    refine AW.cond (c := .tmp 19) (by conv => lhs; simp) trivial ?_ ?_
    · intro h19
      try simp at h19
      refine AW.regionO [] ?_
      refine s1 tok [0, 5, 6, 7] ?_
      refine AOpsO.nil ?_
      exact ⟨(), trivial, upds_le (by simp [wsT, h19]), rfl, by simp [wsT, h19], by simp [wsT, h19]⟩
    · intro h19
      try simp at h19
      refine AW.skip ?_
      exact ⟨(), trivial, upds_le (by simp [wsT, h19]), rfl, by simp [wsT, h19], by simp [wsT, h19]⟩
  ·
    rintro a hI
    refine AW.seqRegionO [] ?_
    refine s1 tok [0, 5, 6, 7, 20] ?_
    refine s1 tok [0, 5, 6, 7, 8] ?_
    refine AOpsO.nil ?_
    refine AW.seqRegionO [] ?_
    refine s1 tok [0, 5, 6, 7, 8, 21] ?_
    refine s1 tok [0, 5, 6, 7, 8, 9] ?_
    refine AOpsO.nil ?_
    refine AW.seq ?_
    refine AW.seqRegionO [] ?_
    refine s1 tok [0, 5, 6, 7, 8, 9, 10] ?_
    refine AOpsO.nil ?_
    refine AW.block ?_
    refine AW.loop (α := Nat) (fun k => k ≤ l.length) (fun k => ⟨upds 166 [(0, .p (.sl 1 (bytesP l0))), (5, .p (.bool true)), (6, .p (.str (sT bl l k))), (7, .p (.str (wsT bl))), (8, .ms 20), (9, .ms 21), (10, .p (.int .i64 k))], [], [(20, .row 9 1 ((kN l k).1.map PD.str)), (21, .row 3 1 ((kN l k).2.map fun n : Nat => PD.int .i64 (n : Int)))], 0⟩) (fun k => l.length - k) (0) (by omega) ⟨upds_le (by simp [sT, kN]), rfl, by simp [kN], by simp⟩ ?_
    rintro k hk
    have hok := kN_ok l k
    have hks := kN_small l k
    have hsl := sT_len bl l k
    have hls : ∀ b, sT bl l (k + 1) = sT bl l k ++ ((if 0 < k then [44] ++ wsT bl else []) ++ memT bl k b) ∧ kN l (k + 1) = putN (kN l k) [kyB b] (1 + k % 9) ∨ b ≠ l.getD k 0 := fun b => by
      by_cases h : b = l.getD k 0
      · subst h; exact .inl ⟨rfl, rfl⟩
      · exact .inr h
    generalize hst : sT bl l k = s at *
    generalize hkn : kN l k = a at *
    obtain ⟨ks, ns⟩ := a
    simp only at hok hks
    refine AW.seq ?_
    refine AW.seqRegionO [] ?_
    refine s1 tok [0, 5, 6, 7, 8, 9, 10, 22] ?_
    refine s1 tok [0, 5, 6, 7, 8, 9, 10, 22, 23] ?_
    refine s1 tok [0, 5, 6, 7, 8, 9, 10, 22, 24] ?_
    refine s1 tok [0, 5, 6, 7, 8, 9, 10, 25] ?_
    refine s1 tok [0, 5, 6, 7, 8, 9, 10, 26] ?_
    refine s2 tok [0, 5, 6, 7, 8, 9, 10, 26, 27] 26 rfl rfl ?_
    refine s2 tok [0, 5, 6, 7, 8, 9, 10, 26, 28] 26 rfl rfl ?_
    refine s1 tok [0, 5, 6, 7, 8, 9, 10, 29] ?_
    refine AOpsO.nil ?_
    refine AW.cond (c := .tmp 29) (by conv => lhs; simp) trivial ?_ ?_
    · intro h29
      try simp at h29
      obtain ⟨b, hb⟩ : ∃ b, b = l.getD k 0 := ⟨_, rfl⟩
      have hkl : k < l.length := by omega
      have hg := hlg k hkl
      rw [← hb] at hg
      obtain ⟨hs1, hk1⟩ := (hls b).resolve_right (fun h => h hb)
      refine AW.skip ?_
      refine AW.seq ?_
      refine AW.block ?_
      refine AW.seqRegionO [.int .u8 b.toNat, .int .u8 (kyB b).toNat, .str [kyB b]] ?_
      refine s1 tok [0, 5, 6, 7, 8, 9, 10, 32] ?_ (h := by intro C; conv => lhs; simp [ky_wrap])
      refine s1 tok [0, 5, 6, 7, 8, 9, 10, 32, 33] ?_ (h := by intro C; conv => lhs; simp [ky_wrap])
      refine s1 tok [0, 5, 6, 7, 8, 9, 10, 34] ?_ (h := by intro C; conv => lhs; simp [ky_wrap]) (hv := by first | with_reducible exact True.intro | ((simp [bytesP, hg]); done) | omega | simp | (simp; omega) | (simp +contextual; omega))
      refine s1 tok [0, 5, 6, 7, 8, 9, 10, 35] ?_ (h := by intro C; conv => lhs; simp [ky_wrap]) (hv := by first | with_reducible exact True.intro | ((simp [bytesP, hg]); done) | omega | simp | (simp; omega) | (simp +contextual; omega))
      refine s1 tok [0, 5, 6, 7, 8, 9, 10, 36] ?_ (h := by intro C; conv => lhs; simp [ky_wrap]) (hv := by first | with_reducible exact True.intro | ((simp [bytesP, hg]); done) | omega | simp | (simp; omega) | (simp +contextual; omega))
      refine s1 tok [0, 5, 6, 7, 8, 9, 10, 37] ?_ (h := by intro C; conv => lhs; simp [ky_wrap]) (hv := by first | with_reducible exact True.intro | ((simp [bytesP, hg]); done) | omega | simp | (simp; omega) | (simp +contextual; omega))
      refine s1 tok [0, 5, 6, 7, 8, 9, 10, 38] ?_ (h := by intro C; conv => lhs; simp [ky_wrap]) (hv := by first | with_reducible exact True.intro | ((simp [bytesP, hg]); done) | omega | simp | (simp; omega) | (simp +contextual; omega))
      refine s1 tok [0, 5, 6, 7, 8, 9, 10, 39] ?_ (h := by intro C; conv => lhs; simp [ky_wrap]) (hv := by first | with_reducible exact True.intro | ((simp [bytesP, hg]); done) | omega | simp | (simp; omega) | (simp +contextual; omega))
      refine s1 tok [0, 5, 6, 7, 8, 9, 10, 11] ?_ (h := by intro C; conv => lhs; simp [ky_wrap])
      refine AOpsO.nil ?_
      refine AW.join (α := List UInt8) (fun t => t = s ++ (if 0 < k then [44] ++ wsT bl else []) ∧ t.length ≤ s.length + 3) (fun t => ⟨upds 166 [(0, .p (.sl 1 (bytesP l0))), (5, .p (.bool true)), (6, .p (.str t)), (7, .p (.str (wsT bl))), (8, .ms 20), (9, .ms 21), (10, .p (.int .i64 k)), (11, .p (.str [kyB b]))], [], [(20, .row 9 1 (ks.map PD.str)), (21, .row 3 1 (ns.map fun n : Nat => PD.int .i64 (n : Int)))], 0⟩) ?_ ?_
      ·
        refine AW.seqRegionO [] ?_
        refine s1 tok [0, 5, 6, 7, 8, 9, 10, 11, 40] ?_
        refine s1 tok [0, 5, 6, 7, 8, 9, 10, 11, 41] ?_
        refine AOpsO.nil ?_
        refine AW.cond (c := .tmp 41) (by conv => lhs; simp) trivial ?_ ?_
        · intro h41
          try simp at h41
          refine AW.regionO [] ?_
          refine s1 tok [0, 5, 7, 8, 9, 10, 11, 42] ?_
          refine s1 tok [0, 5, 7, 8, 9, 10, 11, 43] ?_
          refine s1 tok [0, 5, 7, 8, 9, 10, 11, 43, 44] ?_
          refine s1 tok [0, 5, 7, 8, 9, 10, 11, 45] ?_
          refine s1 tok [0, 5, 6, 7, 8, 9, 10, 11] ?_
          refine AOpsO.nil ?_
          exact ⟨s ++ ([44] ++ wsT bl), ⟨by rw [if_pos (by omega)], by simp; omega⟩, upds_le (by simp), rfl, by simp, by simp⟩
        · intro h41
          try simp at h41
          refine AW.skip ?_
          exact ⟨s, ⟨by rw [if_neg (by omega)]; simp, by omega⟩, upds_le (by simp), rfl, by simp, by simp⟩
      ·
        rintro t ⟨ht, htl⟩
        refine AW.seqRegionO [.int .u8 (dgB k).toNat, .str [dgB k]] ?_
        refine s1 tok [0, 5, 7, 8, 9, 10, 11, 46] ?_ (h := by intro C; conv => lhs; simp [dg_wrap, tm9])
        refine s1 tok [0, 5, 7, 8, 9, 10, 11, 46, 47] ?_ (h := by intro C; conv => lhs; simp [dg_wrap, tm9])
        refine s1 tok [0, 5, 7, 8, 9, 10, 11, 48] ?_ (h := by intro C; conv => lhs; simp [dg_wrap, tm9]) (hv := by first | with_reducible exact True.intro | (first | (simp [bytesP]; done) | omega; done) | omega | simp | (simp; omega) | (simp +contextual; omega))
        refine s1 tok [0, 5, 7, 8, 9, 10, 11, 49] ?_ (h := by intro C; conv => lhs; simp [dg_wrap, tm9]) (hv := by first | with_reducible exact True.intro | (first | (simp [bytesP]; done) | omega; done) | omega | simp | (simp; omega) | (simp +contextual; omega))
        refine s1 tok [0, 5, 7, 8, 9, 10, 11, 49, 50] ?_ (h := by intro C; conv => lhs; simp [dg_wrap, tm9])
        refine s1 tok [0, 5, 7, 8, 9, 10, 11, 51] ?_ (h := by intro C; conv => lhs; simp [dg_wrap, tm9]) (hv := by first | with_reducible exact True.intro | (first | (simp [bytesP]; done) | omega; done) | omega | simp | (simp; omega) | (simp +contextual; omega))
        refine s1 tok [0, 5, 7, 8, 9, 10, 11, 52] ?_ (h := by intro C; conv => lhs; simp [dg_wrap, tm9]) (hv := by first | with_reducible exact True.intro | (first | (simp [bytesP]; done) | omega; done) | omega | simp | (simp; omega) | (simp +contextual; omega))
        refine s1 tok [0, 5, 7, 8, 9, 10, 11, 52, 53] ?_ (h := by intro C; conv => lhs; simp [dg_wrap, tm9])
        refine s1 tok [0, 5, 7, 8, 9, 10, 11, 54] ?_ (h := by intro C; conv => lhs; simp [dg_wrap, tm9]) (hv := by first | with_reducible exact True.intro | (first | (simp [bytesP]; done) | omega; done) | omega | simp | (simp; omega) | (simp +contextual; omega))
        refine s1 tok [0, 5, 7, 8, 9, 10, 11, 55] ?_ (h := by intro C; conv => lhs; simp [dg_wrap, tm9]) (hv := by first | with_reducible exact True.intro | (first | (simp [bytesP]; done) | omega; done) | omega | simp | (simp; omega) | (simp +contextual; omega))
        refine s1 tok [0, 5, 7, 8, 9, 10, 11, 55, 56] ?_ (h := by intro C; conv => lhs; simp [dg_wrap, tm9])
        refine s1 tok [0, 5, 7, 8, 9, 10, 11, 57] ?_ (h := by intro C; conv => lhs; simp [dg_wrap, tm9]) (hv := by first | with_reducible exact True.intro | (first | (simp [bytesP]; done) | omega; done) | omega | simp | (simp; omega) | (simp +contextual; omega))
        refine s1 tok [0, 5, 7, 8, 9, 10, 11, 57, 58] ?_ (h := by intro C; conv => lhs; simp [dg_wrap, tm9])
        refine s1 tok [0, 5, 7, 8, 9, 10, 11, 57, 59] ?_ (h := by intro C; conv => lhs; simp [dg_wrap, tm9]) (hv := by first | with_reducible exact True.intro | (first | (simp [bytesP]; done) | omega; done) | omega | simp | (simp; omega) | (simp +contextual; omega))
        refine s1 tok [0, 5, 7, 8, 9, 10, 11, 57, 60] ?_ (h := by intro C; conv => lhs; simp [dg_wrap, tm9]) (hv := by first | with_reducible exact True.intro | (first | (simp [bytesP]; done) | omega; done) | omega | simp | (simp; omega) | (simp +contextual; omega))
        refine s1 tok [0, 5, 7, 8, 9, 10, 11, 57, 61] ?_ (h := by intro C; conv => lhs; simp [dg_wrap, tm9]) (hv := by first | with_reducible exact True.intro | (first | (simp [bytesP]; done) | omega; done) | omega | simp | (simp; omega) | (simp +contextual; omega))
        refine s1 tok [0, 5, 7, 8, 9, 10, 11, 57, 62] ?_ (h := by intro C; conv => lhs; simp [dg_wrap, tm9]) (hv := by first | with_reducible exact True.intro | (first | (simp [bytesP]; done) | omega; done) | omega | simp | (simp; omega) | (simp +contextual; omega))
        refine s1 tok [0, 5, 7, 8, 9, 10, 11, 57, 63] ?_ (h := by intro C; conv => lhs; simp [dg_wrap, tm9]) (hv := by first | with_reducible exact True.intro | (first | (simp [bytesP]; done) | omega; done) | omega | simp | (simp; omega) | (simp +contextual; omega))
        refine s1 tok [0, 5, 7, 8, 9, 10, 11, 64] ?_ (h := by intro C; conv => lhs; simp [dg_wrap, tm9]) (hv := by first | with_reducible exact True.intro | (first | (simp [bytesP]; done) | omega; done) | omega | simp | (simp; omega) | (simp +contextual; omega))
        refine s1 tok [0, 5, 6, 7, 8, 9, 10, 11] ?_ (h := by intro C; conv => lhs; simp [dg_wrap, tm9])
        refine AOpsO.nil ?_
        refine AW.seqRegionO [] ?_
        refine s1 tok [0, 5, 6, 7, 8, 9, 10, 11, 12] ?_
        refine AOpsO.nil ?_
        refine AW.seq ?_
        refine AW.seqRegionO [] ?_
        refine s1 tok [0, 5, 6, 7, 8, 9, 10, 11, 12, 13] ?_
        refine AOpsO.nil ?_
        refine AW.block ?_
        refine AW.loop (α := Nat) (fun j => j ≤ ks.length) (fun j => ⟨upds 166 [(0, .p (.sl 1 (bytesP l0))), (5, .p (.bool true)), (6, .p (.str (sT bl l (k + 1)))), (7, .p (.str (wsT bl))), (8, .ms 20), (9, .ms 21), (10, .p (.int .i64 k)), (11, .p (.str [kyB b])), (12, .p (.int .i64 (atN ks [kyB b] j))), (13, .p (.int .i64 j))], [], [(20, .row 9 1 (ks.map PD.str)), (21, .row 3 1 (ns.map fun n : Nat => PD.int .i64 (n : Int)))], 0⟩) (fun j => ks.length - j) (0) (by omega) ⟨upds_le (by simp [hs1, ht, memT, atN]), rfl, by simp, by simp⟩ ?_
        rintro j hj
        refine AW.seq ?_
        refine AW.seqRegionO [] ?_
        refine s1 tok [0, 5, 6, 7, 8, 9, 10, 11, 12, 13, 65] ?_
        refine s1 tok [0, 5, 6, 7, 8, 9, 10, 11, 12, 13, 65, 66] ?_
        refine s1 tok [0, 5, 6, 7, 8, 9, 10, 11, 12, 13, 65, 67] ?_
        refine s1 tok [0, 5, 6, 7, 8, 9, 10, 11, 12, 13, 68] ?_
        refine AOpsO.nil ?_
        refine AW.cond (c := .tmp 68) (by conv => lhs; simp) trivial ?_ ?_
        · intro h68
          try simp at h68
          have hgj : ks[j]? = some (ks[j]?.getD []) := by rw [List.getElem?_eq_getElem (by omega)]; rfl
          refine AW.skip ?_
          refine AW.seq ?_
          refine AW.block ?_
          refine AW.seqRegionO [.str (ks.getD j [])] ?_
          refine s1 tok [0, 5, 6, 7, 8, 9, 10, 11, 12, 13, 71] ?_
          refine s1 tok [0, 5, 6, 7, 8, 9, 10, 11, 12, 13, 71, 72] ?_
          refine s1 tok [0, 5, 6, 7, 8, 9, 10, 11, 12, 13, 73] ?_ (hv := by first | with_reducible exact True.intro | ((simp [hgj]); done) | omega | simp | (simp; omega) | (simp +contextual; omega))
          refine s1 tok [0, 5, 6, 7, 8, 9, 10, 11, 12, 13, 74] ?_ (hv := by first | with_reducible exact True.intro | ((simp [hgj]); done) | omega | simp | (simp; omega) | (simp +contextual; omega))
          refine s1 tok [0, 5, 6, 7, 8, 9, 10, 11, 12, 13, 74, 75] ?_
          refine s1 tok [0, 5, 6, 7, 8, 9, 10, 11, 12, 13, 76] ?_ (hv := by first | with_reducible exact True.intro | ((simp [hgj]); done) | omega | simp | (simp; omega) | (simp +contextual; omega))
          refine AOpsO.nil ?_
          refine AW.cond (c := .tmp 76) (by conv => lhs; simp) trivial ?_ ?_
          · intro h76
            try simp at h76
            refine AW.regionO [] ?_
            refine s1 tok [0, 5, 6, 7, 8, 9, 10, 11, 13, 77] ?_
            refine s1 tok [0, 5, 6, 7, 8, 9, 10, 11, 12, 13] ?_
            refine AOpsO.nil ?_
            refine AW.regionO [] ?_
            refine s1 tok [0, 5, 6, 7, 8, 9, 10, 11, 12, 69] ?_
            refine s1 tok [0, 5, 6, 7, 8, 9, 10, 11, 12, 70] ?_
            refine s1 tok [0, 5, 6, 7, 8, 9, 10, 11, 12, 13] ?_
            refine AOpsO.nil ?_
            exact ⟨j + 1, by omega, by omega, upds_le (by simp [atN, h76]), rfl, by simp [atN, h76], by simp [atN, h76]⟩
          · intro h76
            try simp at h76
            refine AW.skip ?_
            refine AW.regionO [] ?_
            refine s1 tok [0, 5, 6, 7, 8, 9, 10, 11, 12, 69] ?_
            refine s1 tok [0, 5, 6, 7, 8, 9, 10, 11, 12, 70] ?_
            refine s1 tok [0, 5, 6, 7, 8, 9, 10, 11, 12, 13] ?_
            refine AOpsO.nil ?_
            exact ⟨j + 1, by omega, by omega, upds_le (by simp [atN, h76]), rfl, by simp [atN, h76], by simp [atN, h76]⟩
        · intro h68
          try simp at h68
          obtain rfl : j = ks.length := by omega
          have hat := atN_all (ks := ks) [kyB b] hok.2.1
          rw [hat]
          have hkn2 : kN l (k + 1) = (if [kyB b] ∈ ks then (ks, ns.set (ks.idxOf [kyB b]) (1 + k % 9)) else (ks ++ [[kyB b]], ns ++ [1 + k % 9])) := by rw [hk1]; rfl
          have hil : [kyB b] ∈ ks → ks.idxOf [kyB b] < ks.length := List.idxOf_lt_length_of_mem
          refine AW.exit ?_
          simp
          refine AW.join (α := List (List UInt8) × List Nat × Nat) (fun x => x.1 = (kN l (k + 1)).1 ∧ x.2.1.set x.2.2 (1 + k % 9) = (kN l (k + 1)).2 ∧ x.2.2 < x.2.1.length) (fun x => ⟨upds 166 [(0, .p (.sl 1 (bytesP l0))), (5, .p (.bool true)), (6, .p (.str (sT bl l (k + 1)))), (7, .p (.str (wsT bl))), (8, .ms 20), (9, .ms 21), (10, .p (.int .i64 k)), (12, .p (.int .i64 x.2.2))], [], [(20, .row 9 1 (x.1.map PD.str)), (21, .row 3 1 (x.2.1.map fun n : Nat => PD.int .i64 (n : Int)))], 0⟩) ?_ ?_
          ·
            refine AW.seqRegionO [] ?_
            refine s1 tok [0, 5, 6, 7, 8, 9, 10, 11, 12, 78] ?_
            refine s1 tok [0, 5, 6, 7, 8, 9, 10, 11, 12, 79] ?_
            refine AOpsO.nil ?_
            refine AW.cond (c := .tmp 79) (by conv => lhs; simp) trivial ?_ ?_
            · intro h79
              try simp at h79
              have hin : [kyB b] ∉ ks := by
                intro h; rw [if_pos h] at h79; omega
              rw [if_neg hin] at hkn2
              refine AW.seqRegionO [.str [kyB b]] ?_
              refine s1 tok [0, 5, 6, 7, 9, 10, 11, 80] ?_
              refine s1 tok [0, 5, 6, 7, 9, 10, 80, 81] ?_
              refine s1 tok [0, 5, 6, 7, 9, 10, 80, 82] ?_
              refine s1 tok [0, 5, 6, 7, 9, 10, 83] ?_
              refine s1 tok [0, 5, 6, 7, 8, 9, 10] ?_
              refine AOpsO.nil ?_
              refine AW.seqRegionO [.int .i64 0] ?_
              refine s1 tok [0, 5, 6, 7, 8, 10, 84] ?_
              refine s1 tok [0, 5, 6, 7, 8, 10, 84, 85] ?_
              refine s1 tok [0, 5, 6, 7, 8, 10, 86] ?_
              refine s1 tok [0, 5, 6, 7, 8, 9, 10] ?_
              refine AOpsO.nil ?_
              refine AW.regionO [] ?_
              refine s1 tok [0, 5, 6, 7, 8, 9, 10, 87] ?_
              refine s1 tok [0, 5, 6, 7, 8, 9, 10, 88] ?_
              refine s1 tok [0, 5, 6, 7, 8, 9, 10, 89] ?_
              refine s1 tok [0, 5, 6, 7, 8, 9, 10, 12] ?_
              refine AOpsO.nil ?_
              exact ⟨(ks ++ [[kyB b]], ns ++ [0], ks.length), ⟨by rw [hkn2], by rw [hkn2]; simp [hok.1], by simp; omega⟩, upds_le (by simp), rfl, by simp, by simp⟩
            · intro h79
              try simp at h79
              have hin : [kyB b] ∈ ks := by
                apply Classical.byContradiction
                intro h; rw [if_neg h] at h79; omega
              rw [if_pos hin] at hkn2 ⊢
              refine AW.skip ?_
              exact ⟨(ks, ns, ks.idxOf [kyB b]), ⟨by rw [hkn2], by rw [hkn2], by have := hil hin; show ks.idxOf [kyB b] < ns.length; omega⟩, upds_le (by simp), rfl, by simp, by simp⟩
          ·
            rintro ⟨ks2, ns2, at2⟩ ⟨e1, e2, e3⟩
            simp only at e1 e2 e3
            subst e1
            have hgn : ns2[at2]? = some (ns2[at2]?.getD 0) := by rw [List.getElem?_eq_getElem e3]; rfl
            refine AW.regionO [.int .i64 (ns2.getD at2 0), .int .i64 (1 + k % 9 : Nat)] ?_
            refine s1 tok [0, 5, 6, 7, 8, 9, 10, 12, 90] ?_ (h := by intro C; conv => lhs; simp [tm9])
            refine s1 tok [0, 5, 6, 7, 8, 9, 10, 90, 91] ?_ (h := by intro C; conv => lhs; simp [tm9])
            refine s1 tok [0, 5, 6, 7, 8, 9, 10, 90, 91, 92] ?_ (h := by intro C; conv => lhs; simp [tm9])
            refine s1 tok [0, 5, 6, 7, 8, 9, 10, 90, 91, 93] ?_ (h := by intro C; conv => lhs; simp [tm9]) (hv := by first | with_reducible exact True.intro | (first | exact ⟨_, hgn, rfl⟩ | (simp [hgn]; done) | omega; done) | omega | simp | (simp; omega) | (simp +contextual; omega))
            refine s1 tok [0, 5, 6, 7, 8, 9, 10, 90, 91, 94] ?_ (h := by intro C; conv => lhs; simp [tm9]) (hv := by first | with_reducible exact True.intro | (first | exact ⟨_, hgn, rfl⟩ | (simp [hgn]; done) | omega; done) | omega | simp | (simp; omega) | (simp +contextual; omega))
            refine s1 tok [0, 5, 6, 7, 8, 9, 10, 94, 95] ?_ (h := by intro C; conv => lhs; simp [tm9]) (hv := by first | with_reducible exact True.intro | (first | exact ⟨_, hgn, rfl⟩ | (simp [hgn]; done) | omega; done) | omega | simp | (simp; omega) | (simp +contextual; omega))
            refine s1 tok [0, 5, 6, 7, 8, 9, 10] ?_ (h := by intro C; conv => lhs; simp [tm9]) (hv := by first | with_reducible exact True.intro | (first | exact ⟨_, hgn, rfl⟩ | (simp [hgn]; done) | omega; done) | omega | simp | (simp; omega) | (simp +contextual; omega))
            refine AOpsO.nil ?_
            refine AW.regionO [] ?_
            refine s1 tok [0, 5, 6, 7, 8, 9, 30] ?_
            refine s1 tok [0, 5, 6, 7, 8, 9, 31] ?_
            refine s1 tok [0, 5, 6, 7, 8, 9, 10] ?_
            refine AOpsO.nil ?_
            exact ⟨k + 1, by omega, by omega, upds_le (by simp [← e2, List.map_set]), rfl, by simp [← e2, List.map_set], by simp [← e2, List.map_set]⟩
    · intro h29
      try simp at h29
      obtain rfl : k = l.length := by omega
      have hfull : s ++ (wsT bl ++ [125]) = fullT bl l := by rw [← hst]; exact sT_end bl l
      have hone := keys_one bl l (by omega)
      rw [← kN_all, hkn] at hone
      have hfl : (fullT bl l).length ≤ 100000 := by rw [← hfull]; simp; omega
      have ho := one_ev hG (fullT bl l) (by omega)
      rw [← hfull] at ho hone
      try simp only [List.append_assoc] at ho hone ⊢
      generalize oneM (s ++ (wsT bl ++ [125])) = o at ho hone
      obtain ⟨ov, on, oe⟩ := o
      simp only at hone
      obtain ⟨rfl, rfl⟩ := hone
      simp at ho
      have hvk : (objV (ks, ns)).kids = ns.map nV := rfl
      have hvs : (objV (ks, ns)).keys = ks := rfl
      have hvi : (objV (ks, ns)).kind = 7 := rfl
      have hln : ns.length = ks.length := hok.1.symm
      generalize objV (ks, ns) = v at *
      refine AW.exit ?_
      simp
      refine AW.seqRegionO [.nilp, .tup [v.enc, .int .i64 on, .int .i64 0]] ?_
      refine s1 tok [5, 7, 8, 9, 97] ?_
      refine s1 tok [5, 8, 9, 97, 98] ?_
      refine s1 tok [5, 8, 9, 99] ?_ (hv := by first | with_reducible exact True.intro | (first | exact ho | (simp; exact ho) | (simp; omega); done) | omega | simp | (simp; omega) | (simp +contextual; omega))
      refine s1 tok [5, 8, 9, 100] ?_ (hv := by first | with_reducible exact True.intro | (first | exact ho | (simp; exact ho) | (simp; omega); done) | omega | simp | (simp; omega) | (simp +contextual; omega))
      refine s1 tok [5, 8, 9, 101] ?_ (hv := by first | with_reducible exact True.intro | (first | exact ho | (simp; exact ho) | (simp; omega); done) | omega | simp | (simp; omega) | (simp +contextual; omega))
      refine s1 tok [5, 8, 9, 96] ?_
      refine s1 tok [5, 8, 9, 96, 102] ?_
      refine s1 tok [5, 8, 9, 96, 102, 103] ?_
      refine s1 tok [5, 8, 9, 102, 103, 104] ?_
      refine s1 tok [5, 8, 9, 14, 102, 103, 104] ?_
      refine s1 tok [5, 8, 9, 14, 103, 104] ?_ (hv := by first | with_reducible exact True.intro | (first | exact ho | (simp; exact ho) | (simp; omega); done) | omega | simp | (simp; omega) | (simp +contextual; omega))
      refine s1 tok [5, 8, 9, 14, 104] ?_
      refine s1 tok [5, 8, 9, 14, 16] ?_
      refine AOpsO.nil ?_
      refine AW.seq ?_
      refine AW.seqRegionO [] ?_
      refine s1 tok [8, 9, 14, 16, 105] ?_ (h := by intro C; conv => lhs; simp [hvk, hvs, hvi, hln])
      refine s1 tok [8, 9, 14, 16, 106] ?_ (h := by intro C; conv => lhs; simp [hvk, hvs, hvi, hln])
      refine s1 tok [8, 9, 14, 16, 107] ?_ (h := by intro C; conv => lhs; simp [hvk, hvs, hvi, hln])
      refine s2 tok [8, 9, 14, 107, 108] 107 rfl rfl ?_ (h := by intro C; conv => lhs; simp [hvk, hvs, hvi, hln])
      refine s2 tok [8, 9, 14, 107, 109] 107 rfl rfl ?_ (h := by intro C; conv => lhs; simp [hvk, hvs, hvi, hln])
      refine s1 tok [8, 9, 14, 110] ?_ (h := by intro C; conv => lhs; simp [hvk, hvs, hvi, hln])
      refine s1 tok [8, 9, 14, 111] ?_ (h := by intro C; conv => lhs; simp [hvk, hvs, hvi, hln])
      refine s2 tok [8, 9, 14, 111, 112] 111 rfl rfl ?_ (h := by intro C; conv => lhs; simp [hvk, hvs, hvi, hln])
      refine s2 tok [8, 9, 14, 111, 113] 111 rfl rfl ?_ (h := by intro C; conv => lhs; simp [hvk, hvs, hvi, hln])
      refine s2 tok [8, 9, 14, 111, 114] 111 rfl rfl ?_ (h := by intro C; conv => lhs; simp [hvk, hvs, hvi, hln])
      refine s1 tok [8, 9, 14, 115] ?_ (h := by intro C; conv => lhs; simp [hvk, hvs, hvi, hln])
      refine s1 tok [8, 9, 14, 116] ?_ (h := by intro C; conv => lhs; simp [hvk, hvs, hvi, hln])
      refine s2 tok [8, 9, 14, 116, 117] 116 rfl rfl ?_ (h := by intro C; conv => lhs; simp [hvk, hvs, hvi, hln])
      refine s2 tok [8, 9, 14, 116, 118] 116 rfl rfl ?_ (h := by intro C; conv => lhs; simp [hvk, hvs, hvi, hln])
      refine s2 tok [8, 9, 14, 116, 119] 116 rfl rfl ?_ (h := by intro C; conv => lhs; simp [hvk, hvs, hvi, hln])
      refine s2 tok [8, 9, 14, 116, 119, 120] 116 rfl rfl ?_ (h := by intro C; conv => lhs; simp [hvk, hvs, hvi, hln])
      refine s2 tok [8, 9, 14, 116, 119, 121] 116 rfl rfl ?_ (h := by intro C; conv => lhs; simp [hvk, hvs, hvi, hln])
      refine s2 tok [8, 9, 14, 116, 122] 116 rfl rfl ?_ (h := by intro C; conv => lhs; simp [hvk, hvs, hvi, hln])
      refine s1 tok [8, 9, 14, 123] ?_ (h := by intro C; conv => lhs; simp [hvk, hvs, hvi, hln])
      refine s1 tok [8, 9, 14, 124] ?_ (h := by intro C; conv => lhs; simp [hvk, hvs, hvi, hln])
      refine s2 tok [8, 9, 14, 124, 125] 124 rfl rfl ?_ (h := by intro C; conv => lhs; simp [hvk, hvs, hvi, hln])
      refine s2 tok [8, 9, 14, 124, 126] 124 rfl rfl ?_ (h := by intro C; conv => lhs; simp [hvk, hvs, hvi, hln])
      refine s2 tok [8, 9, 14, 124, 127] 124 rfl rfl ?_ (h := by intro C; conv => lhs; simp [hvk, hvs, hvi, hln])
      refine s2 tok [8, 9, 14, 124, 127, 128] 124 rfl rfl ?_ (h := by intro C; conv => lhs; simp [hvk, hvs, hvi, hln])
      refine s2 tok [8, 9, 14, 124, 127, 129] 124 rfl rfl ?_ (h := by intro C; conv => lhs; simp [hvk, hvs, hvi, hln])
      refine s2 tok [8, 9, 14, 124, 130] 124 rfl rfl ?_ (h := by intro C; conv => lhs; simp [hvk, hvs, hvi, hln])
      refine s1 tok [8, 9, 14, 131] ?_ (h := by intro C; conv => lhs; simp [hvk, hvs, hvi, hln])
      refine AOpsO.nil ?_
      refine AW.cond (c := .tmp 131) (by conv => lhs; simp) trivial ?_ ?_
      · intro h131
        try simp at h131
      · intro h131
        try simp at h131
        refine AW.skip ?_
        refine AW.seq ?_
        refine AW.seqRegionO [] ?_
        refine s1 tok [8, 9, 14, 17] ?_
        refine AOpsO.nil ?_
        refine AW.block ?_
        refine AW.loop (α := Nat) (fun j => j ≤ ks.length) (fun j => ⟨upds 166 [(8, .ms 20), (9, .ms 21), (14, .ptr 14 0), (17, .p (.int .i64 j))], [], [(14, .vars 32 v.cells), (20, .row 9 1 (ks.map PD.str)), (21, .row 3 1 (ns.map fun n : Nat => PD.int .i64 (n : Int)))], 0⟩) (fun j => ks.length - j) (0) (by omega) ⟨upds_le (by simp), rfl, by simp [hvi, hvs, hvk], by simp⟩ ?_
        rintro j hj
        refine AW.seq ?_
        refine AW.seqRegionO [] ?_
        refine s1 tok [8, 9, 14, 17, 132] ?_
        refine s1 tok [8, 9, 14, 17, 132, 133] ?_
        refine s1 tok [8, 9, 14, 17, 132, 134] ?_
        refine s1 tok [8, 9, 14, 17, 135] ?_
        refine AOpsO.nil ?_
        refine AW.cond (c := .tmp 135) (by conv => lhs; simp) trivial ?_ ?_
        · intro h135
          try simp at h135
          have hkj : ks[j]? = some (ks.getD j []) := by rw [List.getD_eq_getElem?_getD, List.getElem?_eq_getElem (by omega)]; rfl
          have hnj : ns[j]? = some (ns.getD j 0) := by rw [List.getD_eq_getElem?_getD, List.getElem?_eq_getElem (by omega)]; rfl
          have hnn := hks (ns.getD j 0) (List.mem_of_getElem? hnj)
          have hn9 := n_wrap hnn
          generalize ks.getD j [] = ky at *
          generalize ns.getD j 0 = n at *
          have hdn : (nV n).num.digits = [UInt8.ofNat (48 + n)] := rfl
          generalize UInt8.ofNat (48 + n) = c at *
          refine AW.skip ?_
          refine AW.seq ?_
          refine AW.block ?_
          refine AW.seqDrawS tok mixed 28 [[14], [138], [17], [139, 140], [141], [8], [17], [143, 144], [145], [142, 146], [147], [14, 148], [149, 148], [17, 148], [150, 151, 148], [152, 148], [153, 148], [154, 148], [9, 148], [17, 148], [156, 157, 148], [158, 148], [159, 148], [160, 148], [161, 148], [162, 148], [155, 163, 148], [148, 164]] [.str ky, .str ky, (nV n).enc, .int .i64 n, .int .u8 c.toNat, .str [c]] [] (by kernel_rfl) ?_
          refine d1 ?_ (h := by intro C; conv => lhs; simp [hdn, hn9])
          refine d1 ?_ (h := by intro C; conv => lhs; simp [hdn, hn9]) (hv := by first | with_reducible exact True.intro | (first | (simp [hvs, hkj]; done) | (simp [hkj]; done) | (refine ⟨nV n, ?_⟩; simp [hvk, hnj, hdn]; done) | (simp [hvk, hnj]; done) | (simp [hnj]; done) | (simp [hn9]; done) | (simp [bytesP]; done); done) | omega | simp | (simp; omega) | (simp +contextual; omega))
          refine d1 ?_ (h := by intro C; conv => lhs; simp [hdn, hn9])
          refine d1 ?_ (h := by intro C; conv => lhs; simp [hdn, hn9]) (hv := by first | with_reducible exact True.intro | (first | (simp [hvs, hkj]; done) | (simp [hkj]; done) | (refine ⟨nV n, ?_⟩; simp [hvk, hnj, hdn]; done) | (simp [hvk, hnj]; done) | (simp [hnj]; done) | (simp [hn9]; done) | (simp [bytesP]; done); done) | omega | simp | (simp; omega) | (simp +contextual; omega))
          refine d1 ?_ (h := by intro C; conv => lhs; simp [hdn, hn9]) (hv := by first | with_reducible exact True.intro | (first | (simp [hvs, hkj]; done) | (simp [hkj]; done) | (refine ⟨nV n, ?_⟩; simp [hvk, hnj, hdn]; done) | (simp [hvk, hnj]; done) | (simp [hnj]; done) | (simp [hn9]; done) | (simp [bytesP]; done); done) | omega | simp | (simp; omega) | (simp +contextual; omega))
          refine d1 ?_ (h := by intro C; conv => lhs; simp [hdn, hn9])
          refine d1 ?_ (h := by intro C; conv => lhs; simp [hdn, hn9])
          refine d1 ?_ (h := by intro C; conv => lhs; simp [hdn, hn9]) (hv := by first | with_reducible exact True.intro | (first | (simp [hvs, hkj]; done) | (simp [hkj]; done) | (refine ⟨nV n, ?_⟩; simp [hvk, hnj, hdn]; done) | (simp [hvk, hnj]; done) | (simp [hnj]; done) | (simp [hn9]; done) | (simp [bytesP]; done); done) | omega | simp | (simp; omega) | (simp +contextual; omega))
          refine d1 ?_ (h := by intro C; conv => lhs; simp [hdn, hn9]) (hv := by first | with_reducible exact True.intro | (first | (simp [hvs, hkj]; done) | (simp [hkj]; done) | (refine ⟨nV n, ?_⟩; simp [hvk, hnj, hdn]; done) | (simp [hvk, hnj]; done) | (simp [hnj]; done) | (simp [hn9]; done) | (simp [bytesP]; done); done) | omega | simp | (simp; omega) | (simp +contextual; omega))
          refine d1 ?_ (h := by intro C; conv => lhs; simp [hdn, hn9]) (hv := by first | with_reducible exact True.intro | (first | (simp [hvs, hkj]; done) | (simp [hkj]; done) | (refine ⟨nV n, ?_⟩; simp [hvk, hnj, hdn]; done) | (simp [hvk, hnj]; done) | (simp [hnj]; done) | (simp [hn9]; done) | (simp [bytesP]; done); done) | omega | simp | (simp; omega) | (simp +contextual; omega))
          refine d1 ?_ (h := by intro C; conv => lhs; simp [hdn, hn9])
          refine d2 148 rfl rfl ?_ (h := by intro C; conv => lhs; simp [hdn, hn9])
          refine d2 148 rfl rfl ?_ (h := by intro C; conv => lhs; simp [hdn, hn9]) (hv := by first | with_reducible exact True.intro | (first | (simp [hvs, hkj]; done) | (simp [hkj]; done) | (refine ⟨nV n, ?_⟩; simp [hvk, hnj, hdn]; done) | (simp [hvk, hnj]; done) | (simp [hnj]; done) | (simp [hn9]; done) | (simp [bytesP]; done); done) | omega | simp | (simp; omega) | (simp +contextual; omega))
          refine d2 148 rfl rfl ?_ (h := by intro C; conv => lhs; simp [hdn, hn9])
          refine d2 148 rfl rfl ?_ (h := by intro C; conv => lhs; simp [hdn, hn9]) (hv := by first | with_reducible exact True.intro | (first | (simp [hvs, hkj]; done) | (simp [hkj]; done) | (refine ⟨nV n, ?_⟩; simp [hvk, hnj, hdn]; done) | (simp [hvk, hnj]; done) | (simp [hnj]; done) | (simp [hn9]; done) | (simp [bytesP]; done); done) | omega | simp | (simp; omega) | (simp +contextual; omega))
          refine d2 148 rfl rfl ?_ (h := by intro C; conv => lhs; simp [hdn, hn9])
          refine d2 148 rfl rfl ?_ (h := by intro C; conv => lhs; simp [hdn, hn9])
          refine d2 148 rfl rfl ?_ (h := by intro C; conv => lhs; simp [hdn, hn9]) (hv := by first | with_reducible exact True.intro | (first | (simp [hvs, hkj]; done) | (simp [hkj]; done) | (refine ⟨nV n, ?_⟩; simp [hvk, hnj, hdn]; done) | (simp [hvk, hnj]; done) | (simp [hnj]; done) | (simp [hn9]; done) | (simp [bytesP]; done); done) | omega | simp | (simp; omega) | (simp +contextual; omega))
          refine d2 148 rfl rfl ?_ (h := by intro C; conv => lhs; simp [hdn, hn9])
          refine d2 148 rfl rfl ?_ (h := by intro C; conv => lhs; simp [hdn, hn9])
          refine d2 148 rfl rfl ?_ (h := by intro C; conv => lhs; simp [hdn, hn9]) (hv := by first | with_reducible exact True.intro | (first | (simp [hvs, hkj]; done) | (simp [hkj]; done) | (refine ⟨nV n, ?_⟩; simp [hvk, hnj, hdn]; done) | (simp [hvk, hnj]; done) | (simp [hnj]; done) | (simp [hn9]; done) | (simp [bytesP]; done); done) | omega | simp | (simp; omega) | (simp +contextual; omega))
          refine d2 148 rfl rfl ?_ (h := by intro C; conv => lhs; simp [hdn, hn9]) (hv := by first | with_reducible exact True.intro | (first | (simp [hvs, hkj]; done) | (simp [hkj]; done) | (refine ⟨nV n, ?_⟩; simp [hvk, hnj, hdn]; done) | (simp [hvk, hnj]; done) | (simp [hnj]; done) | (simp [hn9]; done) | (simp [bytesP]; done); done) | omega | simp | (simp; omega) | (simp +contextual; omega))
          refine d2 148 rfl rfl ?_ (h := by intro C; conv => lhs; simp [hdn, hn9]) (hv := by first | with_reducible exact True.intro | (first | (simp [hvs, hkj]; done) | (simp [hkj]; done) | (refine ⟨nV n, ?_⟩; simp [hvk, hnj, hdn]; done) | (simp [hvk, hnj]; done) | (simp [hnj]; done) | (simp [hn9]; done) | (simp [bytesP]; done); done) | omega | simp | (simp; omega) | (simp +contextual; omega))
          refine d2 148 rfl rfl ?_ (h := by intro C; conv => lhs; simp [hdn, hn9]) (hv := by first | with_reducible exact True.intro | (first | (simp [hvs, hkj]; done) | (simp [hkj]; done) | (refine ⟨nV n, ?_⟩; simp [hvk, hnj, hdn]; done) | (simp [hvk, hnj]; done) | (simp [hnj]; done) | (simp [hn9]; done) | (simp [bytesP]; done); done) | omega | simp | (simp; omega) | (simp +contextual; omega))
          refine d2 148 rfl rfl ?_ (h := by intro C; conv => lhs; simp [hdn, hn9]) (hv := by first | with_reducible exact True.intro | (first | (simp [hvs, hkj]; done) | (simp [hkj]; done) | (refine ⟨nV n, ?_⟩; simp [hvk, hnj, hdn]; done) | (simp [hvk, hnj]; done) | (simp [hnj]; done) | (simp [hn9]; done) | (simp [bytesP]; done); done) | omega | simp | (simp; omega) | (simp +contextual; omega))
          refine d2 148 rfl rfl ?_ (h := by intro C; conv => lhs; simp [hdn, hn9]) (hv := by first | with_reducible exact True.intro | (first | (simp [hvs, hkj]; done) | (simp [hkj]; done) | (refine ⟨nV n, ?_⟩; simp [hvk, hnj, hdn]; done) | (simp [hvk, hnj]; done) | (simp [hnj]; done) | (simp [hn9]; done) | (simp [bytesP]; done); done) | omega | simp | (simp; omega) | (simp +contextual; omega))
          refine d2 148 rfl rfl ?_ (h := by intro C; conv => lhs; simp [hdn, hn9]) (hv := by first | with_reducible exact True.intro | (first | (simp [hvs, hkj]; done) | (simp [hkj]; done) | (refine ⟨nV n, ?_⟩; simp [hvk, hnj, hdn]; done) | (simp [hvk, hnj]; done) | (simp [hnj]; done) | (simp [hn9]; done) | (simp [bytesP]; done); done) | omega | simp | (simp; omega) | (simp +contextual; omega))
          refine d1 ?_ (h := by intro C; conv => lhs; simp [hdn, hn9]) (hv := by first | with_reducible exact True.intro | (first | (simp [hvs, hkj]; done) | (simp [hkj]; done) | (refine ⟨nV n, ?_⟩; simp [hvk, hnj, hdn]; done) | (simp [hvk, hnj]; done) | (simp [hnj]; done) | (simp [hn9]; done) | (simp [bytesP]; done); done) | omega | simp | (simp; omega) | (simp +contextual; omega))
          refine DGo.nil (by kernel_rfl) ⟨by kernel_rfl, ?_⟩
          refine AOpsO.nil ?_
          refine AW.cond (c := .tmp 165) (by conv => lhs; simp) trivial ?_ ?_
          · intro h165
            try simp at h165
          · intro h165
            try simp at h165
            refine AW.skip ?_
            refine AW.regionO [] ?_
            refine s1 tok [8, 9, 14, 136] ?_
            refine s1 tok [8, 9, 14, 137] ?_
            refine s1 tok [8, 9, 14, 17] ?_
            refine AOpsO.nil ?_
            exact ⟨j + 1, by omega, by omega, upds_le (by simp), rfl, by simp, by simp⟩
        · intro h135
          try simp at h135
          refine AW.exit ?_
          simp
          refine AW.seqRegionO [] ?_
          refine s1 tok [4] ?_
          refine AOpsO.nil ?_
          exact AW.ret ⟨.inr rfl, _, _, by (conv => lhs; simp), trivial, by simp⟩
end Go.Proofs.YtdlejiiiifhiiaaDoor
