import Derived.Test.YtgoepemmcibdaaaGreatDoorSVal10
import Derived.Test.YtgoepemmcibdaaaGreatDoorK1
import Derived.Test.YtgoepemmcibdaaaGreatDoorM3
namespace Go.Proofs.YtgoepemmcibdaaaGreatDoor
open Sy Go
set_option maxRecDepth 100000
set_option maxHeartbeats 4000000
set_option linter.unusedSimpArgs false
set_option linter.unusedVariables false
variable {G : Glob}

@[simp] def limbP (n : Nat) : PD := .int .u64 n
theorem limbP_len (l : List Nat) : (l.map limbP).length = l.length := by simp
theorem trim_ev (l : List Nat) : AFn Tryz.prog G 99 [.sl 1 (l.map limbP)] (.sl 1 ((trimL0 l).map limbP)) := by
  refine AFn.introU tok Tryz.func99 (by kernel_rfl) rfl rfl ?_
  simp only [Tryz.f99, enumA, List.map_cons, List.map_nil]
  refine AW.seqRegionO [] ?_
  refine s1 tok [0] ?_
  refine AOpsO.nil ?_
  refine AW.seq ?_
  refine AW.block ?_
  refine AW.loop (α := List Nat) (fun r => trimL0 r = trimL0 l) (fun r => ⟨upds 21 [(0, .p (.sl 1 (r.map limbP)))], [], [], 0⟩) (fun r => r.length) (l) rfl ⟨upds_le (by simp), rfl, by simp, by simp⟩ ?_
  rintro r hr
  refine AW.slFactU (i := 0) rfl (by decide) ?_
  intro hlen
  simp at hlen
  have hlast : 0 < r.length → r[r.length - 1]? = some (r.getD (r.length - 1) 0) := fun h => by simp [List.getD_eq_getElem?_getD, show r.length - 1 < r.length by omega]
  refine AW.seq ?_
  refine AW.seqRegionO [.int .u64 (r.getD (r.length - 1) 0 : Nat)] ?_
  refine s1 tok [0, 3] ?_
  refine s1 tok [0, 4] ?_ (hv := by first | with_reducible exact True.intro | ((intro h; refine ⟨h, by omega, _, hlast h, ?_⟩; simp); done) | omega | simp | (simp; omega) | (simp +contextual; omega))
  refine s1 tok [0, 5] ?_ (hv := by first | with_reducible exact True.intro | ((intro h; refine ⟨h, by omega, _, hlast h, ?_⟩; simp); done) | omega | simp | (simp; omega) | (simp +contextual; omega))
  refine s1 tok [0, 6] ?_
  refine s2 tok [0, 6, 7] 6 rfl rfl ?_
  refine s2 tok [0, 6, 7, 8] 6 rfl rfl ?_
  refine s2 tok [0, 6, 7, 9] 6 rfl rfl ?_ (hv := by first | with_reducible exact True.intro | ((intro h; refine ⟨h, by omega, _, hlast h, ?_⟩; simp); done) | omega | simp | (simp; omega) | (simp +contextual; omega))
  refine s2 tok [0, 6, 7, 10] 6 rfl rfl ?_ (hv := by first | with_reducible exact True.intro | ((intro h; refine ⟨h, by omega, _, hlast h, ?_⟩; simp); done) | omega | simp | (simp; omega) | (simp +contextual; omega))
  refine s2 tok [0, 6, 11] 6 rfl rfl ?_ (hv := by first | with_reducible exact True.intro | ((intro h; refine ⟨h, by omega, _, hlast h, ?_⟩; simp); done) | omega | simp | (simp; omega) | (simp +contextual; omega))
  refine s2 tok [0, 6, 12] 6 rfl rfl ?_ (hv := by first | with_reducible exact True.intro | ((intro h; refine ⟨h, by omega, _, hlast h, ?_⟩; simp); done) | omega | simp | (simp; omega) | (simp +contextual; omega))
  refine s2 tok [0, 6, 13] 6 rfl rfl ?_ (hv := by first | with_reducible exact True.intro | ((intro h; refine ⟨h, by omega, _, hlast h, ?_⟩; simp); done) | omega | simp | (simp; omega) | (simp +contextual; omega))
  refine s1 tok [0, 14] ?_ (hv := by first | with_reducible exact True.intro | ((intro h; refine ⟨h, by omega, _, hlast h, ?_⟩; simp); done) | omega | simp | (simp; omega) | (simp +contextual; omega))
  refine AOpsO.nil ?_
  refine AW.cond (c := .tmp 14) (by conv => lhs; simp) trivial ?_ ?_
  · intro h14
    try simp at h14
    obtain ⟨s, x, rfl⟩ : ∃ s x, r = s ++ [x] := ⟨r.dropLast, r.getLast (by rintro rfl; simp at h14), (List.dropLast_concat_getLast _).symm⟩
    simp at h14
    subst h14
    have hr' : trimL0 s = trimL0 l := by rw [← hr, trimL0_snoc]; simp
    have hsl : (s.length : Int) ≤ 9223372036854775807 := by simp at hlen; omega
    refine AW.skip ?_
    refine AW.block ?_
    refine AW.regionO [] ?_
    refine s1 tok [0, 15] ?_
    refine s1 tok [15, 16] ?_
    refine s1 tok [15, 17] ?_
    refine s1 tok [15, 18] ?_
    refine s1 tok [19] ?_
    refine s1 tok [0] ?_
    refine AOpsO.nil ?_
    exact ⟨s, hr', by simp, upds_le (by simp), rfl, by simp, by simp⟩
  · intro h14
    try simp at h14
    have hN : trimL0 r = r := by
      refine snocRec (p := fun r => (0 < r.length → ¬ r.getD (r.length - 1) 0 = 0) → trimL0 r = r) (fun _ => rfl) (fun s x _ h => ?_) r (fun h => by have := h14 h; simpa using this)
      have := h (by simp)
      rw [trimL0_snoc, if_neg (by simpa using this)]
    rw [← hr, hN]
    refine AW.exit ?_
    simp
    refine AW.seqRegionO [] ?_
    refine s1 tok [20] ?_
    refine s1 tok [2] ?_
    refine AOpsO.nil ?_
    exact AW.ret ⟨.inr rfl, _, _, by (conv => lhs; simp), trivial, by simp⟩
theorem wrap_u64 {x : Int} (h0 : 0 ≤ x) (h1 : x < 18446744073709551616) : IntKind.u64.wrap x = x := by simp [IntKind.wrap, IntKind.bits, IntKind.signed]; omega
theorem wrap_u8 {x : Int} (h0 : 0 ≤ x) (h1 : x < 256) : IntKind.u8.wrap x = x := by simp [IntKind.wrap, IntKind.bits, IntKind.signed]; omega
theorem natOf_ev (s : List UInt8) (hs : s.all isDig = true) (hl : s.length ≤ 1000000) : AFn Tryz.prog G 89 [.str s] (.sl 1 ((natL s).map limbP)) := by
  refine AFn.introU tok Tryz.func89 (by kernel_rfl) rfl rfl ?_
  simp only [Tryz.f89, enumA, List.map_cons, List.map_nil]
  refine AW.seqRegionO [] ?_
  refine s1 tok [0] ?_
  refine AOpsO.nil ?_
  refine AW.seqRegionO [] ?_
  refine s1 tok [0, 3] ?_
  refine AOpsO.nil ?_
  refine AW.seq ?_
  refine AW.seqRegionO [] ?_
  refine s1 tok [0, 3, 8] ?_
  refine s1 tok [0, 3, 9] ?_
  refine s1 tok [0, 3, 4] ?_
  refine AOpsO.nil ?_
  refine AW.block ?_
  refine AW.beginE 3 36 23 1 (by simp) (by simp) (by conv => lhs; simp) ?_
  refine AW.loop (α := Int × List Nat) (fun a => a.1 ≤ s.length ∧ -9 < a.1 ∧ a.2.length ≤ s.length - a.1.toNat ∧ a.2 ++ limbs s a.1.toNat = limbs s s.length) (fun a => ⟨upds 39 [(0, .p (.str s)), (3, .ms 36), (4, .p (.int .i64 a.1))], [], [(36, .row 23 1 (a.2.map limbP))], 0⟩) (fun a => a.1.toNat) (((s.length : Int), [])) ⟨by simp, by simp only []; omega, by simp, by simp⟩ ⟨upds_le (by simp), rfl, by simp, by simp⟩ ?_
  rintro ⟨e, acc⟩ ⟨h1, h2, hal, h3⟩
  simp only at h1 h2 h3 hal
  refine AW.seq ?_
  refine AW.seqRegionO [] ?_
  refine s1 tok [0, 3, 4, 10] ?_
  refine s1 tok [0, 3, 4, 11] ?_
  refine AOpsO.nil ?_
  refine AW.cond (c := .tmp 11) (by conv => lhs; simp) trivial ?_ ?_
  · intro h11
    try simp at h11
    obtain ⟨n, rfl⟩ : ∃ n : Nat, e = n := ⟨e.toNat, by omega⟩
    obtain ⟨c, hc⟩ : ∃ c, c = (s.take n).drop (n - 9) := ⟨_, rfl⟩
    have hcd : c.all isDig = true := by rw [hc]; exact all_drop (all_take hs n) _
    have hcl : c.length ≤ 9 := by rw [hc]; simp; omega
    have hvc : valD c = limbAt s n := by rw [hc]; rfl
    have hmx : (if 9 < (n : Int) then (n : Int) - 9 else 0).toNat = n - 9 := by split <;> omega
    refine AW.skip ?_
    refine AW.seq ?_
    refine AW.block ?_
    refine AW.seqRegionO [] ?_
    refine s1 tok [0, 3, 4, 5] ?_
    refine AOpsO.nil ?_
    refine AW.seq ?_
    refine AW.seqRegionO [] ?_
    refine s1 tok [0, 3, 4, 5, 14] ?_
    refine s1 tok [0, 3, 4, 5, 14, 15] ?_
    refine s1 tok [0, 3, 4, 5, 14, 16] ?_
    refine s1 tok [0, 3, 4, 5, 14, 17] ?_
    refine s1 tok [0, 3, 4, 5, 14, 17, 18] ?_
    refine s1 tok [0, 3, 4, 5, 19] ?_
    refine s1 tok [0, 3, 4, 5, 20] ?_
    refine s1 tok [0, 3, 4, 5, 20, 21] ?_
    refine s1 tok [0, 3, 4, 5, 20, 21, 22] ?_
    refine AOpsO.nil ?_
    refine AW.block ?_
    refine AW.loop (α := Nat) (fun k => k ≤ c.length) (fun k => ⟨upds 39 [(0, .p (.str s)), (3, .ms 36), (4, .p (.int .i64 n)), (5, .p (.int .u64 (valD (c.take k) : Nat))), (20, .p (.sl 1 (bytesP c))), (21, .p (.int .i64 c.length)), (22, .p (.int .i64 k))], [], [(36, .row 23 1 (acc.map limbP))], 0⟩) (fun k => c.length - k) (0) (by omega) ⟨upds_le (by simp [hmx, hc, valD]), rfl, by simp, by simp⟩ ?_
    rintro k hk
    have hck := valD_lt (all_take hcd k)
    have hck2 : (c.take k).length ≤ 8 → valD (c.take k) < 100000000 := fun h => Nat.lt_of_lt_of_le hck (Nat.pow_le_pow_right (n := 10) (by omega) h)
    have hix : ∀ k : Nat, k < c.length → c[k]? = some (c.getD k 0) := fun k h => byteAt_get h
    refine AW.seqRegionO [] ?_
    refine s1 tok [0, 3, 4, 5, 20, 21, 22, 23] ?_
    refine AOpsO.nil ?_
    refine AW.seq ?_
    refine AW.cond (c := .tmp 23) (by conv => lhs; simp) trivial ?_ ?_
    · intro h23
      try simp at h23
      have hdk := (isDig_iff _).1 (List.all_eq_true.1 hcd _ (List.mem_of_getElem? (hix k h23)))
      have hv8 : valD (c.take k) < 100000000 := hck2 (by simp; omega)
      have hsn : valD (c.take (k + 1)) = valD (c.take k) * 10 + ((c.getD k 0).toNat - 48) := by rw [List.take_add_one, hix k h23]; exact valD_snoc _ _
      have hbk : byteAt c k = ((c.getD k 0).toNat : Int) := rfl
      have hw1 : IntKind.u8.wrap (byteAt c k - 48) = byteAt c k - 48 := wrap_u8 (by omega) (by omega)
      have hw2 : IntKind.u64.wrap ((valD (c.take k) : Int) * 10) = (valD (c.take k) : Int) * 10 := wrap_u64 (by omega) (by omega)
      have hw3 : IntKind.u64.wrap ((valD (c.take k) : Int) * 10 + (byteAt c k - 48)) = (valD (c.take (k + 1)) : Int) := by rw [wrap_u64 (by omega) (by omega), hsn]; omega
      refine AW.skip ?_
      refine AW.seq ?_
      refine AW.block ?_
      refine AW.seqRegionO [.int .u8 (byteAt c k)] ?_
      refine s1 tok [0, 3, 4, 5, 20, 21, 22, 24] ?_ (hv := by first | with_reducible exact True.intro | (first | exact bytesP_get (hix k h23) | simp; done) | omega | simp | (simp; omega) | (simp +contextual; omega))
      refine s1 tok [0, 3, 4, 5, 20, 21, 22, 25] ?_ (hv := by first | with_reducible exact True.intro | (first | exact bytesP_get (hix k h23) | simp; done) | omega | simp | (simp; omega) | (simp +contextual; omega))
      refine s1 tok [0, 3, 4, 5, 7, 20, 21, 22] ?_
      refine AOpsO.nil ?_
      refine AW.regionO [] ?_
      refine s1 tok [0, 3, 4, 7, 20, 21, 22, 26] ?_
      refine s1 tok [0, 3, 4, 7, 20, 21, 22, 27] ?_
      refine s1 tok [0, 3, 4, 20, 21, 22, 27, 28] ?_
      refine s1 tok [0, 3, 4, 20, 21, 22, 27, 29] ?_
      refine s1 tok [0, 3, 4, 20, 21, 22, 27, 30] ?_
      refine s1 tok [0, 3, 4, 20, 21, 22, 31] ?_
      refine s1 tok [0, 3, 4, 5, 20, 21, 22] ?_
      refine AOpsO.nil ?_
      refine AW.regionO [] ?_
      refine s1 tok [0, 3, 4, 5, 20, 21, 32] ?_
      refine s1 tok [0, 3, 4, 5, 20, 21, 22] ?_
      refine AOpsO.nil ?_
      exact ⟨k + 1, by omega, by omega, upds_le (by simp [hw1, hw2, hw3]), rfl, by simp [hw1, hw2, hw3], by simp [hw1, hw2, hw3]⟩
    · intro h23
      try simp at h23
      have hkc : k = c.length := by omega
      subst hkc
      simp only [List.take_length, hvc]
      have hlz := limbs_pos (s := s) (e := n) (by omega)
      have h3' : acc ++ [limbAt s n] ++ limbs s ((n : Int) - 9).toNat = limbs s s.length := by
        rw [← h3, show ((n : Int)).toNat = n by omega, hlz, show ((n : Int) - 9).toNat = n - 9 by omega]; simp
      refine AW.exit ?_
      simp
      refine AW.regionO [.int .u64 (limbAt s n : Nat)] ?_
      refine s1 tok [0, 4, 5, 33] ?_
      refine s1 tok [0, 4, 33, 34] ?_
      refine s1 tok [0, 4, 33, 35] ?_ (hv := by first | with_reducible exact True.intro | ((simp; omega); done) | omega | simp | (simp; omega) | (simp +contextual; omega))
      refine s1 tok [0, 4, 36] ?_ (hv := by first | with_reducible exact True.intro | ((simp; omega); done) | omega | simp | (simp; omega) | (simp +contextual; omega))
      refine s1 tok [0, 3, 4] ?_
      refine AOpsO.nil ?_
      refine AW.regionO [] ?_
      refine s1 tok [0, 3, 12] ?_
      refine s1 tok [0, 3, 13] ?_
      refine s1 tok [0, 3, 4] ?_
      refine AOpsO.nil ?_
      exact ⟨(n : Int) - 9, acc ++ [limbAt s n], ⟨by omega, by omega, by simp; omega, h3'⟩, by omega, upds_le (by simp), rfl, by simp, by simp⟩
  · intro h11
    try simp at h11
    have hacc : acc = limbs s s.length := by rw [← h3, show e.toNat = 0 by omega, limbs_zero]; simp
    subst hacc
    refine AW.exit ?_
    simp
    refine AW.seqRegionO [.nilp, .sl 1 ((natL s).map limbP)] ?_
    refine s1 tok [37] ?_
    refine s1 tok [38] ?_ (hv := by first | with_reducible exact True.intro | (exact trim_ev _; done) | omega | simp | (simp; omega) | (simp +contextual; omega))
    refine s1 tok [2] ?_
    refine AOpsO.nil ?_
    exact AW.ret ⟨.inr rfl, _, _, by (conv => lhs; simp), trivial, by simp⟩
theorem natCmp_ev (l m : List Nat) (h1 : l.length ≤ 1000000) (h2 : m.length ≤ 1000000) : AFn Tryz.prog G 75 [.sl 1 (l.map limbP), .sl 1 (m.map limbP)] (.int .i64 (natCmp l m)) := by
  refine AFn.introU tok Tryz.func75 (by kernel_rfl) rfl rfl ?_
  simp only [Tryz.f75, enumA, List.map_cons, List.map_nil]
  have hixl : ∀ k : Nat, k < l.length → l[k]? = some (l.getD k 0) := fun k h => by simp [List.getD_eq_getElem?_getD, h]
  have hixm : ∀ k : Nat, k < m.length → m[k]? = some (m.getD k 0) := fun k h => by simp [List.getD_eq_getElem?_getD, h]
  refine AW.seqRegionO [] ?_
  refine s1 tok [0, 1] ?_
  refine AOpsO.nil ?_
  refine AW.seq ?_
  refine AW.seqRegionO [] ?_
  refine s1 tok [0, 1, 6] ?_
  refine s1 tok [0, 1, 7] ?_
  refine s1 tok [0, 1, 7, 8] ?_
  refine s1 tok [0, 1, 7, 9] ?_
  refine s1 tok [0, 1, 10] ?_
  refine AOpsO.nil ?_
  refine AW.cond (c := .tmp 10) (by conv => lhs; simp) trivial ?_ ?_
  · intro h10
    try simp at h10
    have hN : natCmp l m = (l.length : Int) - m.length := by simp only [natCmp]; rw [if_pos (by omega)]
    refine AW.seqRegionO [] ?_
    refine s1 tok [1, 11] ?_
    refine s1 tok [1, 12] ?_
    refine s1 tok [12, 13] ?_
    refine s1 tok [12, 14] ?_
    refine s1 tok [15] ?_
    refine s1 tok [4] ?_
    refine AOpsO.nil ?_
    exact AW.ret ⟨.inr rfl, _, _, by (conv => lhs; simp), trivial, by simp [hN]⟩
  · intro h10
    try simp at h10
    have hlen : l.length = m.length := by omega
    have hN : natCmp l m = topCmp l m l.length := by simp only [natCmp]; rw [if_neg (by omega)]
    rw [hN]
    refine AW.skip ?_
    refine AW.seq ?_
    refine AW.seqRegionO [] ?_
    refine s1 tok [0, 1, 16] ?_
    refine s1 tok [0, 1, 17] ?_
    refine s1 tok [0, 1, 18] ?_
    refine s1 tok [0, 1, 5] ?_
    refine AOpsO.nil ?_
    refine AW.block ?_
    refine AW.loop (α := Nat) (fun k => k ≤ l.length ∧ topCmp l m l.length = topCmp l m k) (fun k => ⟨upds 41 [(0, .p (.sl 1 (l.map limbP))), (1, .p (.sl 1 (m.map limbP))), (5, .p (.int .i64 (k - 1)))], [], [], 0⟩) (fun k => k) (l.length) ⟨Nat.le_refl _, rfl⟩ ⟨upds_le (by simp), rfl, by simp, by simp⟩ ?_
    rintro k ⟨hk, ht⟩
    refine AW.seq ?_
    refine AW.seqRegionO [] ?_
    refine s1 tok [0, 1, 5, 19] ?_
    refine s1 tok [0, 1, 5, 20] ?_
    refine AOpsO.nil ?_
    refine AW.cond (c := .tmp 20) (by conv => lhs; simp) trivial ?_ ?_
    · intro h20
      try simp at h20
      obtain ⟨k, rfl⟩ : ∃ j, k = j + 1 := ⟨k - 1, by omega⟩
      have hkl : k < l.length := by omega
      have hkm : k < m.length := by omega
      have hgl := hixl k hkl
      have hgm := hixm k hkm
      have hti : ((k + 1 : Nat) : Int) - 1 = k := by omega
      simp only [hti]
      generalize hx : l.getD k 0 = x at *
      generalize hy : m.getD k 0 = y at *
      simp only [topCmp, hx, hy] at ht
      rw [ht]
      refine AW.skip ?_
      refine AW.seq ?_
      refine AW.block ?_
      refine AW.seqRunDrawK tok mixed [0, 1, 5, 31] 9 [[0], [5], [23, 24], [25], [1], [5], [27, 28], [29], [26, 30]] [.int .u64 x, .int .u64 y] [] (by kernel_rfl) (by intro C; conv => lhs; simp) (by simp [hgl, hgm]) (by simp [Sm.sum, Sm.foot, Sm.tch, Sm.refs]; kernel_rfl) (by intro C; conv => lhs; simp) (by first | with_reducible exact True.intro | omega | simp | (simp; omega) | (simp +contextual; omega)) ?_
      refine AW.cond (c := .tmp 31) (by conv => lhs; simp) trivial ?_ ?_
      · intro h31
        try simp at h31
        rw [if_neg (by omega)]
        refine AW.seq ?_
        refine AW.seqRunDrawK tok mixed [40] 9 [[0], [5], [32, 33], [34], [1], [5], [36, 37], [38], [35, 39]] [.int .u64 x, .int .u64 y] [] (by kernel_rfl) (by intro C; conv => lhs; simp) (by simp [hgl, hgm]) (by simp [Sm.sum, Sm.foot, Sm.tch, Sm.refs]; kernel_rfl) (by intro C; conv => lhs; simp) (by first | with_reducible exact True.intro | omega | simp | (simp; omega) | (simp +contextual; omega)) ?_
        refine AW.cond (c := .tmp 40) (by conv => lhs; simp) trivial ?_ ?_
        · intro h40
          try simp at h40
          rw [if_pos (by omega)]
          refine AW.seqRegionO [] ?_
          refine s1 tok [4] ?_
          refine AOpsO.nil ?_
          exact AW.ret ⟨.inr rfl, _, _, by (conv => lhs; simp), trivial, by simp⟩
        · intro h40
          try simp at h40
          rw [if_neg (by omega)]
          refine AW.skip ?_
          refine AW.seqRegionO [] ?_
          refine s1 tok [4] ?_
          refine AOpsO.nil ?_
          exact AW.ret ⟨.inr rfl, _, _, by (conv => lhs; simp), trivial, by simp⟩
      · intro h31
        try simp at h31
        refine AW.skip ?_
        refine AW.regionO [] ?_
        refine s1 tok [0, 1, 21] ?_
        refine s1 tok [0, 1, 22] ?_
        refine s1 tok [0, 1, 5] ?_
        refine AOpsO.nil ?_
        exact ⟨k, ⟨by omega, by rw [if_pos (by omega)]⟩, by omega, upds_le (by simp), rfl, by simp, by simp⟩
    · intro h20
      try simp at h20
      have hk0 : k = 0 := by omega
      subst hk0
      rw [ht]
      simp only [topCmp]
      refine AW.exit ?_
      simp
      refine AW.seqRegionO [] ?_
      refine s1 tok [4] ?_
      refine AOpsO.nil ?_
      exact AW.ret ⟨.inr rfl, _, _, by (conv => lhs; simp), trivial, by simp⟩
/-- The digits of both with the same scale. -/
def padD (d : Dc) (sc : Int) : List UInt8 := d.digits ++ List.replicate (sc - d.scale).toNat 48
theorem alig1_ev (d : Dc) (sc : Int) (h1 : d.digits.length ≤ 1000) (h2 : 0 ≤ d.scale) (h3 : d.scale ≤ sc) (h4 : sc ≤ 1000) (hd : d.digits.all isDig = true) : AFn Tryz.prog G 88 [d.enc, .ref [.int .i64 sc]] (.sl 1 ((natL (padD d sc)).map limbP)) := by
  refine AFn.introU tok Tryz.func88 (by kernel_rfl) rfl rfl ?_
  simp only [Tryz.f88, enumA, List.map_cons, List.map_nil]
  have hre := Repeat_ev (G := G) [48] (sc - d.scale).toNat (by simp; omega)
  rw [zeros_rep, show (((sc - d.scale).toNat : Nat) : Int) = sc - d.scale by omega] at hre
  have hna := natOf_ev (G := G) (padD d sc) (dig_pad hd _) (by simp [padD]; omega)
  unfold padD at hna
  unfold padD
  refine AW.seqRegionO [] ?_
  refine s1 tok [1, 2] ?_
  refine s1 tok [1, 2] ?_
  refine AOpsO.nil ?_
  refine AW.seqRunDrawK tok mixed [3] 9 [[2], [4], [1], [2], [7], [6, 8], [9], [5, 10], [11]] [.nilp, .str (List.replicate (sc - d.scale).toNat 48), .nilp, .sl 1 ((natL (d.digits ++ List.replicate (sc - d.scale).toNat 48)).map limbP)] [] (by kernel_rfl) (by intro C; conv => lhs; simp) (by ((repeat' (first | with_reducible apply And.intro | intro _)) <;> first | exact (hre) | exact (hna) | assumption | omega | contradiction | simp_all)) (by simp [Sm.sum, Sm.foot, Sm.tch, Sm.refs]; kernel_rfl) (by intro C; conv => lhs; simp) (by first | with_reducible exact True.intro | omega | simp | (simp; omega) | (simp +contextual; omega)) ?_
  exact AW.ret ⟨.inr rfl, _, _, by (conv => lhs; simp), trivial, by simp⟩
def maxS (a b : Dc) : Int := if a.scale < b.scale then b.scale else a.scale
/-- What the alignment asks. -/
def okD (d : Dc) : Prop := d.digits.length ≤ 1000 ∧ 0 ≤ d.scale ∧ d.scale ≤ 1000 ∧ d.digits.all isDig = true
theorem aligned_ev (a b : Dc) (ha : okD a) (hb : okD b) : AFn Tryz.prog G 74 [a.enc, b.enc] (.tup [.sl 1 ((natL (padD a (maxS a b))).map limbP), .sl 1 ((natL (padD b (maxS a b))).map limbP), .int .i64 (maxS a b)]) := by
  refine AFn.introU tok Tryz.func74 (by kernel_rfl) rfl rfl ?_
  simp only [Tryz.f74, enumA, List.map_cons, List.map_nil]
  obtain ⟨a1, a2, a3, a4⟩ := ha
  obtain ⟨b1, b2, b3, b4⟩ := hb
  have hm1 : a.scale ≤ maxS a b := by unfold maxS; split <;> omega
  have hm2 : b.scale ≤ maxS a b := by unfold maxS; split <;> omega
  have hm3 : maxS a b ≤ 1000 := by unfold maxS; split <;> omega
  have e1 := alig1_ev (G := G) a (maxS a b) a1 a2 hm1 hm3 a4
  have e2 := alig1_ev (G := G) b (maxS a b) b1 b2 hm2 hm3 b4
  have hmx : (if a.scale < b.scale then b.scale else a.scale) = maxS a b := rfl
  refine AW.seqRegionO [] ?_
  refine s1 tok [1, 2] ?_
  refine s1 tok [2, 3] ?_
  refine s1 tok [2, 3] ?_
  refine s1 tok [2, 3] ?_
  refine s1 tok [2, 3] ?_
  refine AOpsO.nil ?_
  refine AW.seqRegionO [] ?_
  refine s1 tok [2, 3, 9] ?_
  refine s1 tok [2, 3, 10] ?_
  refine s1 tok [2, 3, 10, 11] ?_
  refine s1 tok [2, 3, 10, 12] ?_
  refine s1 tok [2, 3, 13] ?_
  refine s1 tok [2, 3, 7, 13] ?_
  refine s1 tok [2, 3, 7] ?_
  refine AOpsO.nil ?_
  refine AW.seqRegionO [] ?_
  refine s1 tok [2, 3, 7, 14] ?_
  refine s1 tok [2, 3, 7, 8] ?_
  refine AOpsO.nil ?_
  refine AW.freezeV 7 (by conv => lhs; simp [hmx]) ?_
  refine AW.seqRunDrawK tok mixed [4, 5, 6] 9 [[8], [2], [15, 16], [8], [3], [18, 19], [7], [17], [20]] [.nilp, .sl 1 ((natL (padD a (maxS a b))).map limbP), .nilp, .sl 1 ((natL (padD b (maxS a b))).map limbP)] [] (by kernel_rfl) (by intro C; conv => lhs; simp) (by ((repeat' (first | with_reducible apply And.intro | intro _)) <;> first | exact (e1) | exact (e2) | assumption | omega | contradiction | simp_all)) (by simp [Sm.sum, Sm.foot, Sm.tch, Sm.refs]; kernel_rfl) (by intro C; conv => lhs; simp) (by first | with_reducible exact True.intro | omega | simp | (simp; omega) | (simp +contextual; omega)) ?_
  exact AW.ret ⟨.inr rfl, _, _, by (conv => lhs; simp), trivial, by simp⟩
def rawCmp (a b : Dc) : Int := natCmp (natL (padD a (maxS a b))) (natL (padD b (maxS a b)))
def cmpD (a b : Dc) : Int := if a.neg = b.neg then (if a.neg = true then sgn (- rawCmp a b) else sgn (rawCmp a b)) else if a.neg = true then -1 else 1
theorem sgn_clamp (n : Int) : (if 1 < (if n < -1 then -1 else n) then 1 else (if n < -1 then -1 else n)) = sgn n := by unfold sgn; split <;> split <;> (try split) <;> omega
theorem cmpD_ev (a b : Dc) (ha : okD a) (hb : okD b) : AFn Tryz.prog G 44 [a.enc, b.enc] (.int .i64 (cmpD a b)) := by
  refine AFn.introU tok Tryz.func44 (by kernel_rfl) rfl rfl ?_
  simp only [Tryz.f44, enumA, List.map_cons, List.map_nil]
  have hal := aligned_ev (G := G) a b ha hb
  have hl : ∀ (d : Dc), okD d → ∀ sc : Int, sc ≤ 1000 → (natL (padD d sc)).length ≤ 1000000 := fun d hd sc hs => by
    have := natL_len (padD d sc); have := hd.1; have := hd.2.1; simp [padD] at *; omega
  have hm3 : maxS a b ≤ 1000 := by have := ha.2.2.1; have := hb.2.2.1; unfold maxS; split <;> omega
  have hcm := natCmp_ev (G := G) (natL (padD a (maxS a b))) (natL (padD b (maxS a b))) (hl a ha _ hm3) (hl b hb _ hm3)
  have hrg := natCmp_range (natL (padD a (maxS a b))) (natL (padD b (maxS a b))) (hl a ha _ hm3) (hl b hb _ hm3)
  rw [show natCmp (natL (padD a (maxS a b))) (natL (padD b (maxS a b))) = rawCmp a b from rfl] at hcm hrg
  have hwn : IntKind.i64.wrap (- rawCmp a b) = - rawCmp a b := by simp [IntKind.wrap, IntKind.bits, IntKind.signed]; omega
  refine AW.seqRegionO [] ?_
  refine s1 tok [1, 2] ?_
  refine s1 tok [2, 3] ?_
  refine s1 tok [2, 3] ?_
  refine AOpsO.nil ?_
  refine AW.seqRegionO [.nilp, .tup [.sl 1 ((natL (padD a (maxS a b))).map limbP), .sl 1 ((natL (padD b (maxS a b))).map limbP), .int .i64 (maxS a b)]] ?_
  refine s1 tok [2, 3, 10] ?_ (hv := by first | with_reducible exact True.intro | (exact hal; done) | omega | simp | (simp; omega) | (simp +contextual; omega))
  refine s1 tok [2, 3, 10, 11] ?_ (hv := by first | with_reducible exact True.intro | (exact hal; done) | omega | simp | (simp; omega) | (simp +contextual; omega))
  refine s1 tok [2, 3, 12] ?_ (hv := by first | with_reducible exact True.intro | (exact hal; done) | omega | simp | (simp; omega) | (simp +contextual; omega))
  refine s1 tok [2, 3, 9] ?_
  refine s1 tok [2, 3, 9, 13] ?_
  refine s1 tok [2, 3, 9, 13, 14] ?_
  refine s1 tok [2, 3, 13, 14, 15] ?_
  refine s1 tok [2, 3, 5, 14, 15] ?_
  refine s1 tok [2, 3, 5, 6, 15] ?_
  refine s1 tok [2, 3, 5, 6] ?_
  refine AOpsO.nil ?_
  refine AW.seqRegionO [.nilp, .int .i64 (rawCmp a b)] ?_
  refine s1 tok [2, 3, 6, 16] ?_
  refine s1 tok [2, 3, 16, 17] ?_
  refine s1 tok [2, 3, 18] ?_ (hv := by first | with_reducible exact True.intro | (exact hcm; done) | omega | simp | (simp; omega) | (simp +contextual; omega))
  refine s1 tok [2, 3, 8] ?_
  refine AOpsO.nil ?_
  refine AW.seq ?_
  refine AW.block ?_
  refine AW.seqRegionO [] ?_
  refine s1 tok [2, 3, 8, 20] ?_
  refine s1 tok [2, 3, 8, 21] ?_
  refine s1 tok [2, 8, 21, 22] ?_
  refine s1 tok [2, 8, 21, 23] ?_
  refine s1 tok [2, 8, 24] ?_
  refine s1 tok [2, 8, 19] ?_
  refine AOpsO.nil ?_
  refine AW.cond (c := .tmp 19) (by conv => lhs; simp) trivial ?_ ?_
  · intro h19
    try simp at h19
    refine AW.seqRegionO [] ?_
    refine s1 tok [2, 8] ?_
    refine AOpsO.nil ?_
    refine AW.seqRegionO [] ?_
    refine s1 tok [8, 25] ?_
    refine s1 tok [8, 26] ?_
    refine AOpsO.nil ?_
    refine AW.cond (c := .tmp 26) (by conv => lhs; simp) trivial ?_ ?_
    · intro h26
      try simp at h26
      have hC : cmpD a b = -1 := by unfold cmpD; rw [if_neg h19, if_pos h26]
      refine AW.regionO [] ?_
      refine s1 tok [8] ?_
      refine AOpsO.nil ?_
      refine AW.seqRegionO [] ?_
      refine s1 tok [32] ?_
      refine s1 tok [33] ?_
      refine s1 tok [34] ?_
      refine s1 tok [4] ?_
      refine AOpsO.nil ?_
      exact AW.ret ⟨.inr rfl, _, _, by (conv => lhs; simp), trivial, by simp [hC]⟩
    · intro h26
      try simp at h26
      have hC : cmpD a b = 1 := by unfold cmpD; rw [if_neg h19, if_neg (by simp [h26])]
      refine AW.skip ?_
      refine AW.seqRegionO [] ?_
      refine s1 tok [32] ?_
      refine s1 tok [33] ?_
      refine s1 tok [34] ?_
      refine s1 tok [4] ?_
      refine AOpsO.nil ?_
      exact AW.ret ⟨.inr rfl, _, _, by (conv => lhs; simp), trivial, by simp [hC]⟩
  · intro h19
    try simp at h19
    refine AW.seqRegionO [] ?_
    refine s1 tok [8, 28] ?_
    refine s1 tok [8, 29] ?_
    refine s1 tok [8, 27] ?_
    refine AOpsO.nil ?_
    refine AW.cond (c := .tmp 27) (by conv => lhs; simp) trivial ?_ ?_
    · intro h27
      try simp at h27
      have hC : cmpD a b = sgn (- rawCmp a b) := by unfold cmpD; rw [if_pos h19, if_pos h27]
      refine AW.regionO [] ?_
      refine s1 tok [30] ?_
      refine s1 tok [31] ?_
      refine s1 tok [8] ?_
      refine AOpsO.nil ?_
      refine AW.seqRegionO [] ?_
      refine s1 tok [32] ?_
      refine s1 tok [33] ?_
      refine s1 tok [34] ?_
      refine s1 tok [4] ?_
      refine AOpsO.nil ?_
      exact AW.ret ⟨.inr rfl, _, _, by (conv => lhs; simp), trivial, by (simp [hwn, hC]; unfold sgn; (repeat' split) <;> omega)⟩
    · intro h27
      try simp at h27
      have hC : cmpD a b = sgn (rawCmp a b) := by unfold cmpD; rw [if_pos h19, if_neg (by simp [h27])]
      refine AW.skip ?_
      refine AW.seqRegionO [] ?_
      refine s1 tok [32] ?_
      refine s1 tok [33] ?_
      refine s1 tok [34] ?_
      refine s1 tok [4] ?_
      refine AOpsO.nil ?_
      exact AW.ret ⟨.inr rfl, _, _, by (conv => lhs; simp), trivial, by simp [sgn_clamp, hC]⟩
end Go.Proofs.YtgoepemmcibdaaaGreatDoor
