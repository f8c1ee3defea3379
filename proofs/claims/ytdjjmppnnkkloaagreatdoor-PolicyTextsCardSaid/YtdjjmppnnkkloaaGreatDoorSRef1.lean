import Derived.Test.YtdjjmppnnkkloaaGreatDoorSVal
import Derived.Test.YtdjjmppnnkkloaaGreatDoorK1
namespace Go.Proofs.YtdjjmppnnkkloaaGreatDoor
open Sy Go
set_option maxRecDepth 100000
set_option maxHeartbeats 4000000
set_option linter.unusedSimpArgs false
set_option linter.unusedVariables false
variable {G : Glob}

theorem digit_ev (n : Int) : AFn Tryz.prog G 121 [.int .u8 n] (.bool (digitM n)) := by
  refine AFn.introU tok Tryz.func121 (by kernel_rfl) rfl rfl ?_
  simp only [Tryz.f121, enumA, List.map_cons, List.map_nil]
  refine rgn [] [[0]] ?_
  refine op1 tok ?_
  refine runEnd ?_
  refine rgn [] [[], [], [], [], [5, 7], [], [2]] ?_
  iterate 3 refine op1 tok ?_
  iterate 2 refine op2 tok ?_
  iterate 2 refine op1 tok ?_
  refine runEnd ?_
  exact AW.ret ⟨.inr rfl, _, _, by (conv => lhs; simp), trivial, by simp [digitM]⟩
def byteAt (s : List UInt8) (i : Nat) : Int := ((s.getD i 0).toNat : Int)
theorem byteAt_get {s : List UInt8} {i : Nat} (h : i < s.length) : s[i]? = some (s.getD i 0) := by simp [List.getD_eq_getElem?_getD, h]
def runM (s : List UInt8) (k : Nat) : Nat := ((s.drop k).takeWhile fun b => digitM b.toNat).length
theorem takeWhile_lt {p : UInt8 → Bool} : ∀ {l : List UInt8} {n : Nat}, n ≤ (l.takeWhile p).length → ((n < (l.takeWhile p).length) ↔ ∃ b, l[n]? = some b ∧ p b = true)
  | [], n, h => by simp at h; subst h; simp
  | a :: l, n, h => by
    rw [List.takeWhile_cons] at h ⊢
    by_cases ha : p a = true
    · rw [if_pos ha] at h ⊢
      cases n with
      | zero => simp [ha]
      | succ n => simpa using takeWhile_lt (l := l) (n := n) (by simpa using h)
    · rw [if_neg ha] at h ⊢
      simp at h; subst h
      simp [ha]
theorem runM_lt {s : List UInt8} {k n : Nat} (h : n ≤ runM s k) : n < runM s k ↔ (k + n < s.length ∧ digitM (byteAt s (k + n)) = true) := by
  unfold runM at h ⊢
  rw [takeWhile_lt h]
  constructor
  · rintro ⟨b, hb, hd⟩
    rw [List.getElem?_drop] at hb
    have := (List.getElem?_eq_some_iff.1 hb).1
    refine ⟨this, ?_⟩
    rw [byteAt, List.getD_eq_getElem?_getD, hb]; exact hd
  · rintro ⟨h1, h2⟩
    exact ⟨s.getD (k + n) 0, by rw [List.getElem?_drop]; exact byteAt_get h1, h2⟩
theorem runM_le (s : List UInt8) (k : Nat) : runM s k ≤ s.length := by
  unfold runM
  have := (List.takeWhile_sublist (l := s.drop k) fun b : UInt8 => digitM b.toNat).length_le
  simp at this; omega
theorem run_ev (s : List UInt8) (k : Nat) (hs : s.length ≤ 1000000) (hk : k ≤ 1000000) : AFn Tryz.prog G 92 [.str s, .int .i64 k] (.int .i64 (runM s k)) := by
  refine AFn.introU tok Tryz.func92 (by kernel_rfl) rfl rfl ?_
  simp only [Tryz.f92, enumA, List.map_cons, List.map_nil]
  refine rgn [] [[0, 1]] ?_
  refine op1 tok ?_
  refine runEnd ?_
  refine rgn [] [[]] ?_
  refine op1 tok ?_
  refine runEnd ?_
  refine AW.seq ?_
  refine AW.block ?_
  refine AW.loop (α := Nat) (fun n => n ≤ runM s k) (fun n => ⟨upds 23 [(0, .p (.str s)), (1, .p (.int .i64 k)), (5, .p (.int .i64 n))], [], [], 0⟩) (fun n => runM s k - n) (0) (by omega) ⟨upds_le (by simp), rfl, by simp, by simp⟩ ?_
  rintro n hn
  have hrl := runM_le s k
  have hlt := runM_lt hn
  have hd := digit_ev (G := G) (byteAt s (k + n))
  have hix : k + n < s.length → s[((k : Int) + n).toNat]? = some (s.getD (k + n) 0) := fun h => by rw [show ((k : Int) + n).toNat = k + n by omega]; exact byteAt_get h
  refine AW.seq ?_
  refine rgn [.int .u8 (byteAt s (k + n)), .nilp, .bool (digitM (byteAt s (k + n)))] [[], [], [], [], [], [0, 1, 5, 11], [], [], [], [], [], [0, 1, 5, 12, 17], [], [0, 1, 5, 19]] ?_
  iterate 7 refine op1 tok ?_ (hv := by first | with_reducible exact True.intro | (first | exact fun h => ⟨h, by omega, _, hix (by omega), rfl⟩ | simp [hd]; done) | omega | simp | (simp; omega) | (simp +contextual; omega))
  iterate 6 refine op2 tok ?_ (hv := by first | with_reducible exact True.intro | (first | exact fun h => ⟨h, by omega, _, hix (by omega), rfl⟩ | simp [hd]; done) | omega | simp | (simp; omega) | (simp +contextual; omega))
  refine op1 tok ?_ (hv := by first | with_reducible exact True.intro | (first | exact fun h => ⟨h, by omega, _, hix (by omega), rfl⟩ | simp [hd]; done) | omega | simp | (simp; omega) | (simp +contextual; omega))
  refine runEnd ?_
  refine cnd ?_ ?_
  · intro h19
    try simp at h19
    have hlt' := hlt.2 ⟨by omega, h19.2⟩
    refine AW.skip ?_
    refine AW.block ?_
    refine rgz [] [[], [], [0, 1, 5]] ?_
    iterate 3 refine op1 tok ?_
    refine runEnd ?_
    exact ⟨n + 1, by omega, by omega, upds_le (by simp), rfl, by simp, by simp⟩
  · intro h19
    try simp at h19
    have hge : n = runM s k := by
      refine Nat.le_antisymm hn (Nat.not_lt.1 fun h => ?_)
      have := hlt.1 h
      have := h19 (by omega)
      simp_all
    subst hge
    refine AW.exit ?_
    simp
    refine rgn [] [[], [4]] ?_
    iterate 2 refine op1 tok ?_
    refine runEnd ?_
    exact AW.ret ⟨.inr rfl, _, _, by (conv => lhs; simp), trivial, by simp⟩
def zerosM (n : Nat) : List UInt8 := List.replicate n 48
theorem zeros_ev (n : Int) (hn : n ≤ 1000000) : AFn Tryz.prog G 93 [.int .i64 n] (.str (zerosM n.toNat)) := by
  refine AFn.introU tok Tryz.func93 (by kernel_rfl) rfl rfl ?_
  simp only [Tryz.f93, enumA, List.map_cons, List.map_nil]
  refine rgn [] [[0]] ?_
  refine op1 tok ?_
  refine runEnd ?_
  refine rgn [] [[]] ?_
  refine op1 tok ?_
  refine runEnd ?_
  refine AW.seq ?_
  refine rgn [] [[]] ?_
  refine op1 tok ?_
  refine runEnd ?_
  refine AW.block ?_
  refine AW.loop (α := Nat) (fun k => k ≤ n.toNat) (fun k => ⟨upds 13 [(0, .p (.int .i64 n)), (3, .p (.str (zerosM k))), (4, .p (.int .i64 k))], [], [], 0⟩) (fun k => n.toNat - k) (0) (by omega) ⟨upds_le (by simp [zerosM]), rfl, by simp, by simp⟩ ?_
  rintro k hk
  refine AW.seq ?_
  refine rgn [] [[], [], [0, 3, 4, 7]] ?_
  iterate 3 refine op1 tok ?_
  refine runEnd ?_
  refine cnd ?_ ?_
  · intro h7
    try simp at h7
    refine AW.skip ?_
    refine AW.seq ?_
    refine AW.block ?_
    refine rgz [] [[], [], [0, 3, 4]] ?_
    iterate 3 refine op1 tok ?_ (hv := by first | with_reducible exact True.intro | (simp [zerosM]; omega; done) | omega | simp | (simp; omega) | (simp +contextual; omega))
    refine runEnd ?_
    refine rgz [] [[], [], [0, 3, 4]] ?_
    iterate 3 refine op1 tok ?_
    refine runEnd ?_
    exact ⟨k + 1, by omega, by omega, upds_le (by simp [zerosM, List.replicate_succ']), rfl, by simp [zerosM, List.replicate_succ'], by simp [zerosM, List.replicate_succ']⟩
  · intro h7
    try simp at h7
    have hkn : k = n.toNat := by omega
    subst hkn
    refine AW.exit ?_
    simp
    refine rgn [] [[], [2]] ?_
    iterate 2 refine op1 tok ?_
    refine runEnd ?_
    exact AW.ret ⟨.inr rfl, _, _, by (conv => lhs; simp), trivial, by simp⟩
def strip0 (s : List UInt8) : List UInt8 := s.dropWhile (· == 48)
def trail (d : List UInt8) : Nat → List UInt8 × Nat
  | 0 => (d, 0)
  | k + 1 => if d.getLast? = some 48 then trail d.dropLast k else (d, k + 1)
def NormM (neg : Bool) (digits : List UInt8) (scale : Nat) : Dc × Int :=
  let x := trail (strip0 digits) scale
  if x.1 = [] then (⟨false, [48], 0⟩, 0) else if 60 < x.1.length ∨ 60 < x.2 then (⟨false, [], 0⟩, 3) else (⟨neg, x.1, x.2⟩, 0)
theorem trail_le : ∀ (k : Nat) (d : List UInt8), (trail d k).1.length ≤ d.length ∧ (trail d k).2 ≤ k
  | 0, d => by simp [trail]
  | k + 1, d => by
    simp only [trail]
    split
    · have := trail_le k d.dropLast; simp at this; omega
    · simp
theorem byteAt_last {d : List UInt8} (h : 0 < d.length) : byteAt d (d.length - 1) = 48 ↔ d.getLast? = some 48 := by
  rw [List.getLast?_eq_getElem?, byteAt, List.getD_eq_getElem?_getD, byteAt_get (by omega)]
  simp only [Option.getD_some, Option.some.injEq]
  constructor
  · intro h2; exact UInt8.toNat_inj.1 (by have : ((d.getD (d.length - 1) 0).toNat : Int) = 48 := h2; show (d.getD (d.length - 1) 0).toNat = 48; omega)
  · intro h2; rw [h2]; rfl
theorem take_last (d : List UInt8) : d.take (d.length - 1) = d.dropLast := (List.dropLast_eq_take).symm
theorem Norm_ev (neg : Bool) (digits : List UInt8) (scale : Nat) (hd : digits.length ≤ 1000000) (hs : scale ≤ 1000000) : AFn Tryz.prog G 94 [.bool neg, .str digits, .int .i64 scale] (.tup [(NormM neg digits scale).1.enc, .int .i64 (NormM neg digits scale).2]) := by
  refine AFn.introU tok Tryz.func94 (by kernel_rfl) rfl rfl ?_
  simp only [Tryz.f94, enumA, List.map_cons, List.map_nil]
  refine rgn [] [[], [0, 1, 2, 6]] ?_
  iterate 2 refine op1 tok ?_
  refine runEnd ?_
  refine AW.seq ?_
  refine AW.block ?_
  refine AW.loop (α := List UInt8) (fun r => strip0 r = strip0 digits ∧ r.length ≤ digits.length) (fun r => ⟨upds 55 [(0, .p (.bool neg)), (1, .p (.str r)), (2, .p (.int .i64 scale)), (6, .ptr 6 0)], [], [(6, .vars 39 [.p (.bool false), .p (.str []), .p (.int .i64 0)])], 0⟩) (fun r => r.length) (digits) ⟨rfl, Nat.le_refl _⟩ ⟨upds_le (by simp), rfl, by simp, by simp⟩ ?_
  rintro r ⟨hr, hrl⟩
  have hix : 0 < r.length → r[0]? = some (r.getD 0 0) := fun h => byteAt_get h
  refine AW.seq ?_
  refine rgn [.int .u8 (byteAt r 0)] [[], [], [], [], [], [0, 1, 2, 6, 11, 13], [], [0, 1, 2, 6, 15]] ?_
  iterate 4 refine op1 tok ?_ (hv := by first | with_reducible exact True.intro | (first | exact fun h => ⟨h, _, hix (by omega), rfl⟩ | simp; done) | omega | simp | (simp; omega) | (simp +contextual; omega))
  iterate 3 refine op2 tok ?_ (hv := by first | with_reducible exact True.intro | (first | exact fun h => ⟨h, _, hix (by omega), rfl⟩ | simp; done) | omega | simp | (simp; omega) | (simp +contextual; omega))
  refine op1 tok ?_ (hv := by first | with_reducible exact True.intro | (first | exact fun h => ⟨h, _, hix (by omega), rfl⟩ | simp; done) | omega | simp | (simp; omega) | (simp +contextual; omega))
  refine runEnd ?_
  refine cnd ?_ ?_
  · intro h15
    try simp at h15
    obtain ⟨b, r, rfl⟩ : ∃ b r', r = b :: r' := by
      cases r with
      | nil => simp at h15
      | cons b r => exact ⟨b, r, rfl⟩
    have hb : b = 48 := UInt8.toNat_inj.1 (by have h9 : (b.toNat : Int) = 48 := h15.2; show b.toNat = 48; omega)
    have hr' : strip0 r = strip0 digits := by rw [← hr]; simp [strip0, hb]
    simp at hrl
    refine AW.skip ?_
    refine AW.block ?_
    refine rgz [] [[], [], [0, 1, 2, 6]] ?_
    iterate 3 refine op1 tok ?_
    refine runEnd ?_
    exact ⟨r, ⟨hr', by omega⟩, by simp, upds_le (by simp), rfl, by simp, by simp⟩
  · intro h15
    try simp at h15
    have hr' : strip0 digits = r := by
      rw [← hr]
      cases r with
      | nil => rfl
      | cons b r =>
        have hb : b ≠ 48 := by rintro rfl; simp [byteAt] at h15
        simp [strip0, hb]
    have hN : NormM neg digits scale = (if (trail r scale).1 = [] then (⟨false, [48], 0⟩, 0) else if 60 < (trail r scale).1.length ∨ 60 < (trail r scale).2 then (⟨false, [], 0⟩, 3) else (⟨neg, (trail r scale).1, (trail r scale).2⟩, 0)) := by simp only [NormM, hr']
    rw [hN]
    clear hN hix h15 hr hr'
    refine AW.exit ?_
    simp
    refine AW.seq ?_
    refine AW.block ?_
    refine AW.loop (α := List UInt8 × Nat) (fun a => trail r scale = trail a.1 a.2 ∧ a.2 ≤ scale ∧ a.1.length ≤ digits.length) (fun a => ⟨upds 55 [(0, .p (.bool neg)), (1, .p (.str a.1)), (2, .p (.int .i64 a.2)), (6, .ptr 6 0)], [], [(6, .vars 39 [.p (.bool false), .p (.str []), .p (.int .i64 0)])], 0⟩) (fun a => a.2) ((r, scale)) ⟨rfl, Nat.le_refl _, hrl⟩ ⟨upds_le (by simp), rfl, by simp, by simp⟩ ?_
    rintro ⟨d, k⟩ ⟨ht, hk, hdl⟩
    simp only at ht hk hdl
    have hix : 0 < d.length → d[d.length - 1]? = some (d.getD (d.length - 1) 0) := fun h => byteAt_get (by omega)
    refine AW.seq ?_
    refine rgn [.int .u8 (byteAt d (d.length - 1))] [[], [], [], [], [], [0, 1, 2, 6, 20, 23], [], [], [], [], [0, 1, 2, 6, 25, 26, 28], [], [], [0, 1, 2, 6, 25, 31], [0, 1, 2, 6, 32]] ?_
    iterate 15 first | refine op1 tok ?_ (hv := by first | with_reducible exact True.intro | (first | exact fun h1 h2 => ⟨⟨h1, h2⟩, by omega, by omega⟩ | exact fun h1 h2 => ⟨⟨h1, h2⟩, by omega, _, hix h2, rfl⟩ | simp; done) | omega | simp | (simp; omega) | (simp +contextual; omega)) | refine op2 tok ?_ (hv := by first | with_reducible exact True.intro | (first | exact fun h1 h2 => ⟨⟨h1, h2⟩, by omega, by omega⟩ | exact fun h1 h2 => ⟨⟨h1, h2⟩, by omega, _, hix h2, rfl⟩ | simp; done) | omega | simp | (simp; omega) | (simp +contextual; omega))
    refine runEnd ?_
    refine cnd ?_ ?_
    · intro h32
      try simp at h32
      obtain ⟨k, rfl⟩ : ∃ k', k = k' + 1 := ⟨k - 1, by omega⟩
      have hl := (byteAt_last h32.1.2).1 h32.2
      have ht' : trail r scale = trail d.dropLast k := by rw [ht]; simp only [trail]; rw [if_pos hl]
      refine AW.skip ?_
      refine AW.block ?_
      refine rgn [] [[], [], [], [], [0, 2, 6, 37], [0, 1, 2, 6]] ?_
      iterate 6 refine op1 tok ?_
      refine runEnd ?_
      refine rgz [] [[], [], [0, 1, 2, 6]] ?_
      iterate 3 refine op1 tok ?_
      refine runEnd ?_
      exact ⟨(d.dropLast, k), ⟨ht', by simp only []; omega, by simp; omega⟩, by simp, upds_le (by simp [take_last]), rfl, by simp [take_last], by simp [take_last]⟩
    · intro h32
      try simp at h32
      have htl : trail d k = (d, k) := by
        cases k with
        | zero => rfl
        | succ k =>
          simp only [trail]
          rw [if_neg]
          intro hl
          have hpos : 0 < d.length := by cases d with
            | nil => simp at hl
            | cons => simp
          have := (byteAt_last hpos).2 hl
          simp [hpos, this] at h32
      rw [ht, htl]
      refine AW.exit ?_
      simp
      refine AW.seq ?_
      refine rgn [] [[], [0, 1, 2, 6, 41]] ?_
      iterate 2 refine op1 tok ?_
      refine runEnd ?_
      refine cnd ?_ ?_
      · intro h41
        try simp at h41
        subst h41
        refine rgn [] [[], [], [6, 7]] ?_
        iterate 3 refine op1 tok ?_
        refine runEnd ?_
        exact AW.ret ⟨.inr rfl, _, _, by (conv => lhs; simp), trivial, by simp⟩
      · intro h41
        try simp at h41
        refine AW.skip ?_
        refine AW.seq ?_
        refine rgn [] [[], [], [], [], [], [0, 1, 2, 6, 46, 48], [0, 1, 2, 6, 49]] ?_
        iterate 4 refine op1 tok ?_
        iterate 2 refine op2 tok ?_
        refine op1 tok ?_
        refine runEnd ?_
        refine cnd ?_ ?_
        · intro h49
          try simp at h49
          have hbig : 60 < d.length ∨ 60 < k := by omega
          refine rgn [] [[], [], [6, 7]] ?_
          iterate 3 refine op1 tok ?_
          refine runEnd ?_
          exact AW.ret ⟨.inr rfl, _, _, by (conv => lhs; simp), trivial, by simp [h41, hbig]⟩
        · intro h49
          try simp at h49
          have hbig : ¬ (60 < d.length ∨ 60 < k) := by omega
          refine AW.skip ?_
          refine rgn [] [[], [], [], [6, 54], [], [6, 7]] ?_
          iterate 6 refine op1 tok ?_
          refine runEnd ?_
          exact AW.ret ⟨.inr rfl, _, _, by (conv => lhs; simp), trivial, by simp [h41, hbig]⟩
end Go.Proofs.YtdjjmppnnkkloaaGreatDoor
