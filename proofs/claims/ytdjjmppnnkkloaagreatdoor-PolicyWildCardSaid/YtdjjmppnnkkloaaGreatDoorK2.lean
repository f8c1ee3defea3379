import Derived.Test.YtdjjmppnnkkloaaGreatDoorK1
import Derived.Test.YtdjjmppnnkkloaaGreatDoorM4
import Derived.Shelf.LaysC
import Derived.Shelf.Strconv.AtoiAll
import Derived.Test.YtdjjmppnnkkloaaGreatDoorProg
namespace Go.Proofs.YtdjjmppnnkkloaaGreatDoor
open Sy Go
set_option maxRecDepth 100000
set_option maxHeartbeats 4000000
set_option linter.unusedSimpArgs false
set_option linter.unusedVariables false
variable {G : Glob}
theorem decL_drop (s : List UInt8) (pos : Nat) : decL s pos = Lib.decodeL (s.drop pos) := by
 unfold decL Lib.decodeL
 rw [Lib.decode_at, Lib.decode_at]
 have g : ∀ k, (⟨s.toArray⟩ : ByteArray).get! (pos + k) = (⟨(s.drop pos).toArray⟩ : ByteArray).get! (0 + k) := by
  intro k
  show s.toArray[pos + k]! = (s.drop pos).toArray[0 + k]!
  simp
 have g0 := g 0
 have g1 := g 1
 have g2 := g 2
 have g3 := g 3
 simp only [Nat.add_zero, Nat.zero_add] at g0 g1 g2 g3
 have hsz : (⟨s.toArray⟩ : ByteArray).size - pos = (⟨(s.drop pos).toArray⟩ : ByteArray).size - 0 := by simp [ByteArray.size]
 rw [hsz, g0, g1, g2, g3]
def qC (r : Nat) : List UInt8 :=
 if r = 34 ∨ r = 92 then 92 :: Lib.encodeRune r else if r = 10 then [92, 110] else if r = 13 then [92, 114] else if r = 9 then [92, 116]
 else if 32 ≤ r ∧ r ≠ 127 then Lib.encodeRune r else [92, 117, 48, 48, hexD (r / 16), hexD (r % 16)]
theorem decodeL_ok (l : List UInt8) : (Lib.decodeL l).1 < 55296 ∨ 57343 < (Lib.decodeL l).1 := by
 rw [decodeL_get l]
 unfold Lib.decodeN
 have := (l.getD 0 0).toNat_lt
 repeat' split
 all_goals simp only
 all_goals omega
theorem qC_lt (b : UInt8) (h : b.toNat < 128) : qC b.toNat = qb b := by
 have henc := ofNat_lt h
 have key : ∀ k : Fin 128, (k.val = 34 ∨ k.val = 92) = (UInt8.ofNat k.val = 34 ∨ UInt8.ofNat k.val = 92) ∧ (k.val = 10) = (UInt8.ofNat k.val = 10) ∧ (k.val = 13) = (UInt8.ofNat k.val = 13) ∧ (k.val = 9) = (UInt8.ofNat k.val = 9) ∧ (¬ (32 ≤ k.val ∧ k.val ≠ 127)) = (UInt8.ofNat k.val < 32 ∨ UInt8.ofNat k.val = 127) := by decide +kernel
 have k := key ⟨b.toNat, h⟩
 simp only [UInt8.ofNat_toNat] at k
 obtain ⟨k1, k2, k3, k4, k5⟩ := k
 unfold qC qb
 rw [henc]
 simp only [k1, k2, k3, k4, ← k5]
 split
 ·rfl
 ·split
  ·rfl
  ·split
   ·rfl
   ·split
    ·rfl
    ·split
     ·rfl
     ·rfl
theorem qC_big (r : Nat) (h : 128 ≤ r) : qC r = Lib.encodeRune r := by
 unfold qC
 rw [if_neg (by omega), if_neg (by omega), if_neg (by omega), if_neg (by omega), if_pos (by omega)]
theorem qBody_step {l : List UInt8} (hne : l ≠ []) (hv : Lib.validD l = true) : qBody l = qC (Lib.decodeL l).1 ++ qBody (l.drop (Lib.decodeL l).2) ∧ Lib.validD (l.drop (Lib.decodeL l).2) = true := by
 obtain ⟨b, t, rfl⟩ : ∃ b t, l = b :: t := by cases l with
  | nil => exact absurd rfl hne
  | cons b t => exact ⟨b, t, rfl⟩
 by_cases hb : b.toNat < 128
 ·rw [decodeL_lt hb, qC_lt b hb]
  rw [Lib.validD_cons b t hb] at hv
  exact ⟨rfl, hv⟩
 ·rw [Lib.validD_step _ hne] at hv
  split at hv
  ·cases hv
  ·rename_i hok
   obtain ⟨h1, h2⟩ := big_bytes (b :: t) hne hok (by simpa using by omega)
   have henc := Lib.encode_decode (b :: t) hne hok
   refine ⟨?_, hv⟩
   rw [qC_big _ h2, henc]
   conv => lhs; rw [← List.take_append_drop (Lib.decodeL (b :: t)).2 (b :: t)]
   rw [qBody_append, qBody_big h1]
theorem qC_len (r : Nat) : (qC r).length ≤ 6 := by
 have := (Lib.encodeRuneZ_length r).2
 unfold qC
 have h : (Lib.encodeRune r).length ≤ 4 := by simpa only [Lib.encodeRune, List.length_map] using this
 repeat' split
 all_goals simp <;> omega
theorem hexT : ∀ k : Fin 16, ([48, 49, 50, 51, 52, 53, 54, 55, 56, 57, 97, 98, 99, 100, 101, 102] : List UInt8)[k.val]? = some (hexD k.val) := by decide +kernel
theorem and15 : ∀ k : Fin 128, IntKind.i32.wrap ↑(k.val % 2 ^ IntKind.i32.bits &&& 15 % 2 ^ IntKind.i32.bits) = ((k.val % 16 : Nat) : Int) := by decide +kernel
theorem shr4 (r : Nat) : (r : Int).fdiv (2 ^ min 4 IntKind.i32.bits) = ((r / 16 : Nat) : Int) := (Int.fdiv_eq_ediv_of_nonneg _ (by decide)).trans (by show (r : Int) / 16 = _; omega)
theorem Quote_ev (s : List UInt8) (hv : Lib.validD s = true) (hs : s.length ≤ 1000000000) : AFn Tryz.prog G 51 [.str s] (.str (quoteT s)) := by
 refine AFn.introU tok Tryz.func51 (by kernel_rfl) rfl rfl ?_
 simp only [Tryz.f51, enumA, List.map_cons, List.map_nil]
 refine rgn [] [[0]] ?_
 refine op1 tok ?_
 refine runEnd ?_
 refine rgn [] [[]] ?_
 refine op1 tok ?_
 refine runEnd ?_
 refine AW.renE 3 2 (by simp) (by conv => lhs; simp) ?_
 refine AW.beginBox 2 3 1 5 1 (by simp; exact ⟨rfl, rfl⟩) (by simp) (by simp) (by conv => lhs; simp) ?_
 refine AW.seqRegionO [] ?_
 refine AOpsO.stepK [0, 3] (y_cx rfl (WriteByteF_ax [] 34 (by simp)) (by simp)) (by conv => lhs; simp) rfl ?_
 refine AOpsO.nil ?_
 refine AW.seq ?_
 refine rgn [] [[], [3, 8]] ?_
 iterate 2 refine op1 tok ?_
 refine runEnd ?_
 refine AW.block ?_
 refine AW.loop (α := Nat × List UInt8) (fun a => a.1 ≤ s.length ∧ Lib.validD (s.drop a.1) = true ∧ quoteT s = a.2 ++ (qBody (s.drop a.1) ++ [34]) ∧ a.2.length ≤ 6 * a.1 + 1) (fun a => ⟨upds 47 [(3, .ptr 2 0), (8, .it 8)], [], [(2, .vars 112 [.ptr 2 0, .ms 3]), (3, .row 5 1 (bytesP a.2)), (8, .iter s a.1)], 0⟩) (fun a => s.length - a.1) ((0, [34])) ⟨by simp, by simpa using hv, by simp [quoteT], by simp⟩ ⟨upds_le (by simp), rfl, by simp, by simp⟩ ?_
 rintro ⟨pos, out⟩ ⟨hp, hvp, hq, hol⟩
 simp only at hp hvp hq hol
 by_cases hs4 : pos < s.length
 ·
  refine rgn [.bool true] [[], []] ?_
  iterate 2 refine op1 tok ?_ (hv := by first | with_reducible exact True.intro | (simpa using hs4; done) | omega | simp | (simp; omega) | (simp +contextual; omega))
  refine runEnd ?_
  refine AW.seq ?_
  refine cnd ?_ ?_
  ·intro h10
   try simp at h10
   have hne : s.drop pos ≠ [] := by intro e; have := congrArg List.length e; simp at this; omega
   obtain ⟨hst, hvn⟩ := qBody_step hne hvp
   have hok := decodeL_ok (s.drop pos)
   have hmx := decodeL_max (s.drop pos)
   have hwl := Lib.decodeL_le (s.drop pos) hne
   rw [← decL_drop] at hst hvn hok hmx hwl
   rw [List.length_drop] at hwl
   rw [List.drop_drop] at hst hvn
   have hdp := decL_pos hs4
   generalize decL s pos = p at *
   obtain ⟨r, w⟩ := p
   simp only at *
   have hlen := qC_len r
   have hnext : quoteT s = out ++ qC r ++ (qBody (s.drop (pos + w)) ++ [34]) := by rw [hq, hst]; simp
   refine AW.skip ?_
   refine AW.block ?_
   refine rgn [] [[], [3, 5, 8]] ?_
   iterate 2 refine op1 tok ?_
   refine runEnd ?_
   refine rgn [] [[]] ?_
   refine op1 tok ?_
   refine runEnd ?_
   refine AW.block ?_
   refine AW.seq ?_
   refine rgn [] [[], [3, 5, 8, 12, 30]] ?_
   iterate 2 refine op1 tok ?_
   refine runEnd ?_
   refine cnd ?_ ?_
   ·intro h30
    try simp at h30
    refine AW.skip ?_
    refine cnd ?_ ?_
    ·intro h30
     try simp at h30
     refine AW.seqRegionO [] ?_
     refine AOpsO.stepK [3, 5, 8] (y_cx rfl (WriteByte_ax out 92 (by omega)) (by simp)) (by conv => lhs; simp) rfl ?_
     refine AOpsO.nil ?_
     have hqc : qC r = 92 :: Lib.encodeRune r := by unfold qC; rw [if_pos (by omega)]
     refine rgz [] [[]] ?_
     refine op1 tok ?_
     refine runOff ?_
     refine AOpsO.stepK [3, 8] (y_cx rfl (WriteRune_ax (out ++ [92]) r (by simp; omega) (by omega) (by omega) (by omega)) (by simp)) (by conv => lhs; simp) rfl ?_
     refine AOpsO.nil ?_
     exact ⟨(pos + w, out ++ qC r), ⟨by simp only []; omega, hvn, hnext, by simp; omega⟩, by simp only []; omega, upds_le (by simp [hqc, bytesP]), rfl, by simp [hqc, bytesP], by simp [hqc, bytesP]⟩
    ·intro h30
     try simp at h30
     omega
   ·intro h30
    try simp at h30
    refine rgz [] [[], [3, 5, 8, 12, 30]] ?_
    iterate 2 refine op1 tok ?_
    refine runEnd ?_
    refine cnd ?_ ?_
    ·intro h30
     try simp at h30
     refine AW.seqRegionO [] ?_
     refine AOpsO.stepK [3, 5, 8] (y_cx rfl (WriteByte_ax out 92 (by omega)) (by simp)) (by conv => lhs; simp) rfl ?_
     refine AOpsO.nil ?_
     have hqc : qC r = 92 :: Lib.encodeRune r := by unfold qC; rw [if_pos (by omega)]
     refine rgz [] [[]] ?_
     refine op1 tok ?_
     refine runOff ?_
     refine AOpsO.stepK [3, 8] (y_cx rfl (WriteRune_ax (out ++ [92]) r (by simp; omega) (by omega) (by omega) (by omega)) (by simp)) (by conv => lhs; simp) rfl ?_
     refine AOpsO.nil ?_
     exact ⟨(pos + w, out ++ qC r), ⟨by simp only []; omega, hvn, hnext, by simp; omega⟩, by simp only []; omega, upds_le (by simp [hqc, bytesP]), rfl, by simp [hqc, bytesP], by simp [hqc, bytesP]⟩
    ·intro h30
     try simp at h30
     refine rgn [] [[], [3, 5, 8, 12, 36]] ?_
     iterate 2 refine op1 tok ?_
     refine runEnd ?_
     refine cnd ?_ ?_
     ·intro h36
      try simp at h36
      have hqc : qC r = [92, 110] := by unfold qC; rw [if_neg (by omega), if_pos (by omega)]
      refine AW.regionO [] ?_
      refine AOpsO.stepK [3, 8] (y_cx rfl (WriteString_ax out [92, 110] (by omega) (by simp)) (by simp)) (by conv => lhs; simp) rfl ?_
      refine AOpsO.nil ?_
      exact ⟨(pos + w, out ++ qC r), ⟨by simp only []; omega, hvn, hnext, by simp; omega⟩, by simp only []; omega, upds_le (by simp [hqc, bytesP]), rfl, by simp [hqc, bytesP], by simp [hqc, bytesP]⟩
     ·intro h36
      try simp at h36
      refine rgn [] [[], [3, 5, 8, 12, 39]] ?_
      iterate 2 refine op1 tok ?_
      refine runEnd ?_
      refine cnd ?_ ?_
      ·intro h39
       try simp at h39
       have hqc : qC r = [92, 114] := by unfold qC; rw [if_neg (by omega), if_neg (by omega), if_pos (by omega)]
       refine AW.regionO [] ?_
       refine AOpsO.stepK [3, 8] (y_cx rfl (WriteString_ax out [92, 114] (by omega) (by simp)) (by simp)) (by conv => lhs; simp) rfl ?_
       refine AOpsO.nil ?_
       exact ⟨(pos + w, out ++ qC r), ⟨by simp only []; omega, hvn, hnext, by simp; omega⟩, by simp only []; omega, upds_le (by simp [hqc, bytesP]), rfl, by simp [hqc, bytesP], by simp [hqc, bytesP]⟩
      ·intro h39
       try simp at h39
       refine rgn [] [[], [3, 5, 8, 42]] ?_
       iterate 2 refine op1 tok ?_
       refine runEnd ?_
       refine cnd ?_ ?_
       ·intro h42
        try simp at h42
        have hqc : qC r = [92, 116] := by unfold qC; rw [if_neg (by omega), if_neg (by omega), if_neg (by omega), if_pos (by omega)]
        refine AW.regionO [] ?_
        refine AOpsO.stepK [3, 8] (y_cx rfl (WriteString_ax out [92, 116] (by omega) (by simp)) (by simp)) (by conv => lhs; simp) rfl ?_
        refine AOpsO.nil ?_
        exact ⟨(pos + w, out ++ qC r), ⟨by simp only []; omega, hvn, hnext, by simp; omega⟩, by simp only []; omega, upds_le (by simp [hqc, bytesP]), rfl, by simp [hqc, bytesP], by simp [hqc, bytesP]⟩
       ·intro h42
        try simp at h42
        refine AW.seq ?_
        refine rgn [] [[], [], [], [], [], [3, 5, 8, 18]] ?_
        iterate 3 refine op1 tok ?_
        iterate 2 refine op2 tok ?_
        refine op1 tok ?_
        refine runEnd ?_
        refine cnd ?_ ?_
        ·intro h18
         try simp at h18
         have hqc : qC r = Lib.encodeRune r := by unfold qC; rw [if_neg (by omega), if_neg (by omega), if_neg (by omega), if_neg (by omega), if_pos (by omega)]
         refine rgn [] [[]] ?_
         refine op1 tok ?_
         refine runOff ?_
         refine AOpsO.stepK [3, 8] (y_cx rfl (WriteRune_ax out r (by omega) (by omega) (by omega) (by omega)) (by simp)) (by conv => lhs; simp) rfl ?_
         refine AOpsO.nil ?_
         refine AW.exit ?_
         simp
         exact ⟨pos + w, out ++ qC r, ⟨by omega, hvn, by simpa using hnext, by simp; omega⟩, by omega, upds_le (by simp [hqc, bytesP]), rfl, by simp [hqc, bytesP], by simp [hqc, bytesP]⟩
        ·intro h18
         try simp at h18
         refine AW.skip ?_
         have hqc : qC r = [92, 117, 48, 48, hexD (r / 16), hexD (r % 16)] := by unfold qC; rw [if_neg (by omega), if_neg (by omega), if_neg (by omega), if_neg (by omega), if_neg (by omega)]
         refine AW.seqRegionO [] ?_
         refine AOpsO.stepK [3, 5, 8] (y_cx rfl (WriteString_ax out [92, 117, 48, 48] (by omega) (by simp)) (by simp)) (by conv => lhs; simp) rfl ?_
         refine AOpsO.nil ?_
         refine rgn [.int .u8 (hexD (r / 16)).toNat] [[], [], []] ?_
         iterate 3 refine op1 tok ?_ (hv := by first | with_reducible exact True.intro | (rw [shr4]; exact ⟨by omega, _, hexT ⟨r / 16, by omega⟩, rfl⟩; done) | omega | simp | (simp; omega) | (simp +contextual; omega))
         refine runOff ?_
         refine AOpsO.stepK [3, 5, 8] (y_cx rfl (WriteByte_ax (out ++ [92, 117, 48, 48]) (hexD (r / 16)) (by simp; omega)) (by simp)) (by conv => lhs; simp) rfl ?_
         refine AOpsO.nil ?_
         refine rgz [.int .u8 (hexD (r % 16)).toNat] [[], [], []] ?_
         iterate 3 refine op1 tok ?_ (hv := by first | with_reducible exact True.intro | (rw [and15 ⟨r, by omega⟩]; exact ⟨by omega, _, hexT ⟨r % 16, by omega⟩, rfl⟩; done) | omega | simp | (simp; omega) | (simp +contextual; omega))
         refine runOff ?_
         refine AOpsO.stepK [3, 8] (y_cx rfl (WriteByte_ax (out ++ [92, 117, 48, 48, hexD (r / 16)]) (hexD (r % 16)) (by simp; omega)) (by simp)) (by conv => lhs; simp) rfl ?_
         refine AOpsO.nil ?_
         exact ⟨(pos + w, out ++ qC r), ⟨by simp only []; omega, hvn, hnext, by simp; omega⟩, by simp only []; omega, upds_le (by simp [hqc, bytesP]), rfl, by simp [hqc, bytesP], by simp [hqc, bytesP]⟩
  ·intro h10
   try simp at h10
 ·
  refine rgn [.bool false] [[], []] ?_
  iterate 2 refine op1 tok ?_ (hv := by first | with_reducible exact True.intro | (simpa using hs4; done) | omega | simp | (simp; omega) | (simp +contextual; omega))
  refine runEnd ?_
  refine AW.seq ?_
  refine cnd ?_ ?_
  ·intro h10
   try simp at h10
  ·intro h10
   try simp at h10
   refine AW.exit ?_
   simp
   obtain rfl : pos = s.length := by omega
   simp only [List.drop_length, qBody, List.flatMap_nil, List.nil_append] at hq
   refine AW.seqRegionO [] ?_
   refine AOpsO.stepK [3] (y_cx rfl (WriteByte_ax out 34 (by omega)) (by simp)) (by conv => lhs; simp) rfl ?_
   refine AOpsO.nil ?_
   refine AW.seqRegionO [] ?_
   refine AOpsO.stepK [46] (y_cx rfl (String_ax (out ++ [34])) (by simp)) (by conv => lhs; simp) rfl ?_
   refine AOpsO.run [[2]] ?_
   refine op1 tok ?_
   refine runEnd ?_
   exact AW.ret ⟨.inr rfl, _, _, by (conv => lhs; simp), trivial, by simp [hq]⟩
def upC (c : UInt8) : UInt8 := if 65 ≤ c ∧ c ≤ 70 then c + 32 else c
def hexS : List UInt8 := [48, 49, 50, 51, 52, 53, 54, 55, 56, 57, 97, 98, 99, 100, 101, 102]
theorem hexV_at : ∀ k : Fin 256, Lib.indexByte hexS (upC (UInt8.ofNat k.val)) = match hexV (UInt8.ofNat k.val) with | none => -1 | some n => (n : Int) := by decide +kernel
theorem hexV_idx (c : UInt8) : Lib.indexByte hexS (upC c) = match hexV c with | none => -1 | some n => (n : Int) := by
 have := hexV_at ⟨c.toNat, c.toNat_lt⟩
 simpa using this
theorem hexV_lt {c : UInt8} {n : Nat} (h : hexV c = some n) : n < 16 := by
 unfold hexV at h
 have h0 := c.toNat_lt
 split at h
 ·rename_i h1; cases h; rw [UInt8.le_iff_toNat_le, UInt8.le_iff_toNat_le] at h1; simp at h1; omega
 ·split at h
  ·rename_i h1; cases h; rw [UInt8.le_iff_toNat_le, UInt8.le_iff_toNat_le] at h1; simp at h1; omega
  ·split at h
   ·rename_i h1; cases h; rw [UInt8.le_iff_toNat_le, UInt8.le_iff_toNat_le] at h1; simp at h1; omega
   ·cases h
theorem upC_T {c : UInt8} (h : 65 ≤ (c.toNat : Int) ∧ (c.toNat : Int) ≤ 70) : IntKind.u8.wrap ((c.toNat : Int) + 32) = ((upC c).toNat : Int) := by
 have key : ∀ k : Fin 256, 65 ≤ k.val ∧ k.val ≤ 70 → IntKind.u8.wrap ((k.val : Int) + 32) = ((upC (UInt8.ofNat k.val)).toNat : Int) := by decide +kernel
 have := key ⟨c.toNat, c.toNat_lt⟩ (by simp only []; omega)
 simpa using this
theorem upC_F {c : UInt8} (h : ¬ (65 ≤ (c.toNat : Int) ∧ (c.toNat : Int) ≤ 70)) : upC c = c := by
 unfold upC
 rw [if_neg]
 rw [UInt8.le_iff_toNat_le, UInt8.le_iff_toNat_le]
 simp; omega
theorem or_hex {x k : Nat} (hx : x < 4096) (hk : k < 16) : IntKind.i32.wrap ↑((IntKind.i32.wrap (↑x * 2 ^ min 4 IntKind.i32.bits) % 2 ^ IntKind.i32.bits).toNat ||| (IntKind.i32.wrap ↑k % 2 ^ IntKind.i32.bits).toNat) = ((16 * x + k : Nat) : Int) := by
 have hw : ∀ n : Nat, n < 70000 → IntKind.i32.wrap (n : Int) = n := fun n h => by simp [IntKind.wrap, IntKind.bits, IntKind.signed]; omega
 have e1 : (x : Int) * 2 ^ min 4 IntKind.i32.bits = ((16 * x : Nat) : Int) := by show (x : Int) * 16 = _; omega
 have e2 : ∀ n : Nat, n < 70000 → (((n : Int)) % 2 ^ IntKind.i32.bits).toNat = n := fun n h => by show ((n : Int) % 4294967296).toNat = n; omega
 rw [e1, hw (16 * x) (by omega), hw k (by omega), e2 (16 * x) (by omega), e2 k (by omega)]
 have : 16 * x ||| k = 16 * x + k := by
  have := Nat.shiftLeft_add_eq_or_of_lt (i := 4) (b := k) hk x
  rw [Nat.shiftLeft_eq] at this
  rw [show 16 * x = x * 2 ^ 4 by omega]
  exact this.symm
 rw [this, hw (16 * x + k) (by omega)]
theorem unit_ev (s : List UInt8) : AFn Tryz.prog G 128 [.str s] (.tup [.int .i32 ((unitL s).getD 0 : Nat), .bool (unitL s).isSome]) := by
 refine AFn.introU tok Tryz.func128 (by kernel_rfl) rfl rfl ?_
 simp only [Tryz.f128, enumA, List.map_cons, List.map_nil]
 have hw32 : ∀ n : Int, 0 ≤ n → n ≤ 1000000 → IntKind.i32.wrap n = n := fun n h1 h2 => by simp [IntKind.wrap, IntKind.bits, IntKind.signed]; omega
 refine rgn [] [[], [0]] ?_
 iterate 2 refine op1 tok ?_
 refine runEnd ?_
 refine AW.seq ?_
 refine rgn [] [[], [], [], [], [], [0, 11, 13], [], [0, 15]] ?_
 iterate 4 refine op1 tok ?_
 iterate 3 refine op2 tok ?_
 refine op1 tok ?_
 refine runEnd ?_
 refine cnd ?_ ?_
 ·intro h15
  try simp at h15
  have hu : unitL s = none := by
   unfold unitL; rw [if_pos (h15.imp (fun h => by omega) id)]
  refine rgn [] [[], []] ?_
  iterate 2 refine op1 tok ?_
  refine runEnd ?_
  exact AW.ret ⟨.inr rfl, _, _, by (conv => lhs; simp), trivial, by simp [hu]⟩
 ·intro h15
  try simp at h15
  have hu : unitL s = hexN ((s.drop 2).take 4) 0 := by
   unfold unitL; rw [if_neg (fun h => h.elim (fun h => by omega) (fun h => h h15.2))]
  rw [hu]
  have htl : (s.take 6).drop 2 = (s.drop 2).take 4 := by rw [List.drop_take]
  have hlen : ((s.drop 2).take 4).length = 4 := by simp; omega
  refine AW.skip ?_
  refine rgn [] [[]] ?_
  refine op1 tok ?_
  refine runEnd ?_
  refine AW.seq ?_
  refine rgn [] [[], [], [], [], [4, 18, 19, 20]] ?_
  iterate 5 refine op1 tok ?_ (hv := by first | with_reducible exact True.intro | (omega; done) | omega | simp | (simp; omega) | (simp +contextual; omega))
  refine runEnd ?_
  refine AW.block ?_
  rw [htl]; generalize (s.drop 2).take 4 = tl at *
  refine AW.loop (α := Nat × Nat) (fun a => a.1 ≤ 4 ∧ hexN (tl.drop a.1) a.2 = hexN tl 0 ∧ a.2 < 16 ^ a.1) (fun a => ⟨upds 43 [(4, .p (.int .i32 a.2)), (18, .p (.sl 1 (bytesP tl))), (19, .p (.int .i64 4)), (20, .p (.int .i64 a.1))], [], [], 0⟩) (fun a => 4 - a.1) ((0, 0)) ⟨by omega, rfl, by decide⟩ ⟨upds_le (by simp; omega), rfl, by simp, by simp⟩ ?_
  rintro ⟨i, x⟩ ⟨hi, hx, hxl⟩
  simp only at hi hx hxl
  have hix : i < 4 → tl[i]? = some (tl.getD i 0) := fun h => by simp [List.getD_eq_getElem?_getD, show i < tl.length by omega]
  refine rgn [] [[]] ?_
  refine op1 tok ?_
  refine runEnd ?_
  refine AW.seq ?_
  refine cnd ?_ ?_
  ·intro h21
   try simp at h21
   have hxl2 : x < 4096 := Nat.lt_of_lt_of_le hxl (Nat.pow_le_pow_right (by omega) (show i ≤ 3 by omega))
   have hc := hix (by omega)
   generalize tl.getD i 0 = c at *
   have hcl := c.toNat_lt
   have hdr : tl.drop i = c :: tl.drop (i + 1) := by
    rw [List.drop_eq_getElem_cons (by omega)]; congr 1
    have := List.getElem?_eq_getElem (l := tl) (i := i) (by omega)
    rw [hc] at this; exact (Option.some.inj this).symm
   have hstep : hexN tl 0 = (match hexV c with | none => none | some k => hexN (tl.drop (i + 1)) (16 * x + k)) := by rw [← hx, hdr]; rfl
   have hi2 := hexV_idx c
   have hIB : AFn Tryz.prog G 115 [.str hexS, .int .u8 (upC c).toNat] (.int .i64 (Lib.indexByte hexS (upC c))) := by
    have := IndexByte_ev (G := G) hexS ((upC c).toNat)
    simpa using this
   refine AW.skip ?_
   refine AW.seq ?_
   refine AW.block ?_
   refine rgn [.int .u8 c.toNat] [[], [], [4, 6, 18, 19, 20]] ?_
   iterate 3 refine op1 tok ?_ (hv := by first | with_reducible exact True.intro | (simp [bytesP, hc]; done) | omega | simp | (simp; omega) | (simp +contextual; omega))
   refine runEnd ?_
   refine AW.join (α := Unit) (fun _ => True) (fun a => ⟨upds 43 [(4, .p (.int .i32 x)), (6, .p (.int .u8 (upC c).toNat)), (18, .p (.sl 1 (bytesP tl))), (19, .p (.int .i64 4)), (20, .p (.int .i64 i))], [], [], 0⟩) ?_ ?_
   ·
    refine rgn [] [[], [], [], [], [], [4, 6, 18, 19, 20, 29]] ?_
    iterate 3 refine op1 tok ?_
    iterate 2 refine op2 tok ?_
    refine op1 tok ?_
    refine runEnd ?_
    refine cnd ?_ ?_
    ·intro h29
     try simp at h29
     refine rgz [] [[], [], [4, 6, 18, 19, 20]] ?_
     iterate 3 refine op1 tok ?_
     refine runEnd ?_
     exact ⟨(), trivial, upds_le (by simp [upC_T h29]), rfl, by simp [upC_T h29], by simp [upC_T h29]⟩
    ·intro h29
     try simp at h29
     refine AW.skip ?_
     exact ⟨(), trivial, upds_le (by simp [upC_F (c := c) (by omega)]), rfl, by simp [upC_F (c := c) (by omega)], by simp [upC_F (c := c) (by omega)]⟩
   ·
    rintro a hI
    refine rgn [.nilp, .int .i64 (Lib.indexByte hexS (upC c))] [[], [], [4, 7, 18, 19, 20]] ?_
    iterate 3 refine op1 tok ?_ (hv := by first | with_reducible exact True.intro | (exact hIB; done) | omega | simp | (simp; omega) | (simp +contextual; omega))
    refine runEnd ?_
    refine AW.seq ?_
    refine rgn [] [[], [4, 7, 18, 19, 20, 35]] ?_
    iterate 2 refine op1 tok ?_
    refine runEnd ?_
    refine cnd ?_ ?_
    ·intro h35
     try simp at h35
     have hn : hexN tl 0 = none := by
      rw [hstep]
      cases hk : hexV c with
      | none => rfl
      | some k => rw [hk] at hi2; simp only at hi2; omega
     refine rgn [] [[], []] ?_
     iterate 2 refine op1 tok ?_
     refine runEnd ?_
     exact AW.ret ⟨.inr rfl, _, _, by (conv => lhs; simp), trivial, by simp [hn]⟩
    ·intro h35
     try simp at h35
     obtain ⟨k, hk⟩ : ∃ k, hexV c = some k := by
      cases hk : hexV c with
      | none => rw [hk] at hi2; simp only at hi2; omega
      | some k => exact ⟨k, rfl⟩
     have hk16 := hexV_lt hk
     rw [hk] at hi2 hstep
     simp only at hi2 hstep
     rw [hi2]
     refine AW.skip ?_
     refine rgz [] [[], [], [], [18, 19, 20, 37, 39], [], [4, 18, 19, 20]] ?_
     iterate 6 refine op1 tok ?_
     refine runEnd ?_
     refine rgz [] [[], [4, 18, 19, 20]] ?_
     iterate 2 refine op1 tok ?_
     refine runEnd ?_
     exact ⟨(i + 1, 16 * x + k), ⟨by simp only []; omega, hstep.symm, by simp only []; rw [Nat.pow_succ]; omega⟩, by simp only []; omega, upds_le (by simp [or_hex hxl2 hk16]), rfl, by simp [or_hex hxl2 hk16], by simp [or_hex hxl2 hk16]⟩
  ·intro h21
   try simp at h21
   obtain rfl : i = 4 := by omega
   have hfin : hexN tl 0 = some x := by rw [← hx, List.drop_of_length_le (by omega)]; rfl
   refine AW.exit ?_
   simp
   refine rgn [] [[], [], [2, 3]] ?_
   iterate 3 refine op1 tok ?_
   refine runEnd ?_
   exact AW.ret ⟨.inr rfl, _, _, by (conv => lhs; simp), trivial, by simp [hfin]⟩
def escS : List UInt8 := [34, 92, 47, 98, 102, 110, 114, 116]
def escV : List UInt8 := [34, 92, 47, 8, 12, 10, 13, 9]
theorem esc_all : ∀ k : Fin 256, if (escT (UInt8.ofNat k.val)).isSome = true then 0 ≤ Lib.indexByte escS (UInt8.ofNat k.val) ∧ (Lib.indexByte escS (UInt8.ofNat k.val)).toNat < 8 ∧ escV[(Lib.indexByte escS (UInt8.ofNat k.val)).toNat]? = some (UInt8.ofNat ((escT (UInt8.ofNat k.val)).getD 0)) ∧ (escT (UInt8.ofNat k.val)).getD 0 < 256 else Lib.indexByte escS (UInt8.ofNat k.val) = -1 := by decide +kernel
theorem esc_at (c : UInt8) : if (escT c).isSome = true then 0 ≤ Lib.indexByte escS c ∧ (Lib.indexByte escS c).toNat < 8 ∧ escV[(Lib.indexByte escS c).toNat]? = some (UInt8.ofNat ((escT c).getD 0)) ∧ (escT c).getD 0 < 256 else Lib.indexByte escS c = -1 := by
 have := esc_all ⟨c.toNat, c.toNat_lt⟩
 simpa only [UInt8.ofNat_toNat] using this
theorem hexN_lt : ∀ (l : List UInt8) (x n : Nat), hexN l x = some n → n < (x + 1) * 16 ^ l.length
 | [], x, n, h => by simp [hexN] at h; subst h; simp
 | c :: l, x, n, h => by
  simp only [hexN] at h
  split at h
  ·cases h
  ·rename_i k hk
   have h1 := hexN_lt l _ n h
   have h2 := hexV_lt hk
   rw [List.length_cons, Nat.pow_succ]
   calc n < (16 * x + k + 1) * 16 ^ l.length := h1
    _ ≤ (16 * (x + 1)) * 16 ^ l.length := Nat.mul_le_mul_right _ (by omega)
    _ = (x + 1) * (16 ^ l.length * 16) := by rw [Nat.mul_comm 16, Nat.mul_assoc, Nat.mul_comm 16]
theorem unitL_lt (s : List UInt8) : (unitL s).getD 0 < 65536 := by
 cases h : unitL s with
 | none => simp
 | some n =>
  unfold unitL at h
  split at h
  ·cases h
  ·have h1 := hexN_lt _ _ _ h
   have h2 : ((s.drop 2).take 4).length ≤ 4 := by simp; omega
   have h3 : 16 ^ ((s.drop 2).take 4).length ≤ 16 ^ 4 := Nat.pow_le_pow_right (by omega) h2
   simp only [Option.getD_some]; omega
theorem shr10 (r : Nat) : (r : Int).fdiv (2 ^ min 10 IntKind.i32.bits) = ((r / 1024 : Nat) : Int) := (Int.fdiv_eq_ediv_of_nonneg _ (by decide)).trans (by show (r : Int) / 1024 = _; omega)
theorem shr10_54 (x : Nat) : ((x : Int).fdiv (2 ^ min 10 IntKind.i32.bits) = 54) = (x / 1024 = 54) := by rw [shr10]; exact propext (by omega)
theorem shr10_55 (x : Nat) : ((x : Int).fdiv (2 ^ min 10 IntKind.i32.bits) = 55) = (x / 1024 = 55) := by rw [shr10]; exact propext (by omega)
theorem and1023 {x : Nat} (h : x < 65536) : IntKind.i32.wrap ↑(x % 2 ^ IntKind.i32.bits &&& 1023 % 2 ^ IntKind.i32.bits) = ((x % 1024 : Nat) : Int) := by
 have e1 : x % 2 ^ IntKind.i32.bits = x := Nat.mod_eq_of_lt (by show x < 4294967296; omega)
 have e2 : 1023 % 2 ^ IntKind.i32.bits = 2 ^ 10 - 1 := rfl
 rw [e1, e2, Nat.and_two_pow_sub_one_eq_mod]
 simp [IntKind.wrap, IntKind.bits, IntKind.signed]; omega
theorem shl10 (x : Nat) : IntKind.i32.wrap (((x % 1024 : Nat) : Int) * 2 ^ min 10 IntKind.i32.bits) = ((x % 1024 * 1024 : Nat) : Int) := by
 have e : ((x % 1024 : Nat) : Int) * 2 ^ min 10 IntKind.i32.bits = ((x % 1024 * 1024 : Nat) : Int) := by show ((x % 1024 : Nat) : Int) * 1024 = _; omega
 rw [e]
 simp [IntKind.wrap, IntKind.bits, IntKind.signed]; omega
theorem escape_ev (s : List UInt8) (hs : s.length ≤ 1000000000000) : AFn Tryz.prog G 109 [.str s] (.tup [.int .i32 (escG s).1, .int .i64 (escG s).2.1, .bool (escG s).2.2]) := by
 refine AFn.introU tok Tryz.func109 (by kernel_rfl) rfl rfl ?_
 simp only [Tryz.f109, enumA, List.map_cons, List.map_nil]
 have hu1 := unit_ev (G := G) s
 have hu2 := unit_ev (G := G) (s.drop 6)
 have hl1 := unitL_lt s
 have hl2 := unitL_lt (s.drop 6)
 have hIB : ∀ c : UInt8, AFn Tryz.prog G 115 [.str escS, .int .u8 c.toNat] (.int .i64 (Lib.indexByte escS c)) := fun c => by
  have := IndexByte_ev (G := G) escS c.toNat
  simpa using this
 refine rgn [] [[], [], [0]] ?_
 iterate 3 refine op1 tok ?_
 refine runEnd ?_
 refine AW.seq ?_
 refine rgn [] [[], [], [0, 11]] ?_
 iterate 3 refine op1 tok ?_
 refine runEnd ?_
 refine cnd ?_ ?_
 ·intro h11
  try simp at h11
  have he : escG s = (0, 0, false) := by
   match s, h11 with
   | [], _ => rfl
   | [a], _ => rfl
   | a :: b :: t, h => simp at h; omega
  refine rgn [] [[], [], []] ?_
  iterate 3 refine op1 tok ?_
  refine runEnd ?_
  exact AW.ret ⟨.inr rfl, _, _, by (conv => lhs; simp), trivial, by simp [he]⟩
 ·intro h11
  try simp at h11
  obtain ⟨a, c, t, rfl⟩ : ∃ a c t, s = a :: c :: t := by
   match s, h11 with
   | [], h => simp at h
   | [a], h => simp at h
   | a :: c :: t, _ => exact ⟨a, c, t, rfl⟩
  have hat := esc_at c
  refine AW.skip ?_
  refine AW.seq ?_
  refine rgn [.int .u8 c.toNat, .nilp, .int .i64 (Lib.indexByte escS c)] [[], [], [], [0, 5]] ?_
  iterate 4 refine op1 tok ?_ (hv := by first | with_reducible exact True.intro | (first | exact hIB c | simp; done) | omega | simp | (simp; omega) | (simp +contextual; omega))
  refine runEnd ?_
  refine rgn [] [[], [0, 5, 16]] ?_
  iterate 2 refine op1 tok ?_
  refine runEnd ?_
  refine cnd ?_ ?_
  ·intro h16
   try simp at h16
   obtain ⟨v, hv⟩ : ∃ v, escT c = some v := by
    cases hv : escT c with
    | none => rw [hv] at hat; simp at hat; omega
    | some v => exact ⟨v, rfl⟩
   rw [hv] at hat
   simp only [Option.isSome_some, if_true, Option.getD_some] at hat
   have he : escG (a :: c :: t) = (v, 2, true) := by unfold escG; simp only [hv]
   have hvn : ((UInt8.ofNat v).toNat : Int) = v := by simp; omega
   refine rgn [.int .u8 (UInt8.ofNat v).toNat] [[], [], [], [2], [], []] ?_
   iterate 6 refine op1 tok ?_ (hv := by first | with_reducible exact True.intro | (first | exact ⟨hat.1, _, hat.2.2.1, rfl⟩ | simp; done) | omega | simp | (simp; omega) | (simp +contextual; omega))
   refine runEnd ?_
   exact AW.ret ⟨.inr rfl, _, _, by (conv => lhs; simp), trivial, by simp [he]; omega⟩
  ·intro h16
   try simp at h16
   have hv : escT c = none := by
    cases hv : escT c with
    | none => rfl
    | some v => rw [hv] at hat; simp at hat; omega
   have he : escG (a :: c :: t) = escU (unitL (a :: c :: t)) (unitL ((a :: c :: t).drop 6)) := by unfold escG; simp only [hv]
   rw [he]
   unfold escU
   have hlen6 : (unitL (a :: c :: t)).isSome = true → 6 ≤ (a :: c :: t).length := by
    unfold unitL; split
    ·intro h; cases h
    ·intro _; omega
   generalize unitL (a :: c :: t) = A at *
   generalize unitL ((a :: c :: t).drop 6) = B at *
   generalize A.getD 0 = x at *
   generalize B.getD 0 = y at *
   refine AW.skip ?_
   refine rgn [.nilp, .tup [.int .i32 x, .bool A.isSome]] [[], [], [], [], [], [0, 6, 24], [0, 6, 7]] ?_
   iterate 7 refine op1 tok ?_ (hv := by first | with_reducible exact True.intro | (exact hu1; done) | omega | simp | (simp; omega) | (simp +contextual; omega))
   refine runEnd ?_
   refine AW.seq ?_
   refine rgn [] [[], [], [], [], [], [0, 6, 7, 27, 30], [0, 6, 7, 31]] ?_
   iterate 3 refine op1 tok ?_
   iterate 3 refine op2 tok ?_
   refine op1 tok ?_
   refine runEnd ?_
   refine cnd ?_ ?_
   ·intro h31
    try simp at h31
    rw [shr10_54] at h31
    have hc : A.isSome = false ∨ x / 1024 ≠ 54 := h31.imp (fun h => by rw [h]; rfl) id
    rw [if_pos hc]
    refine rgn [] [[], [], [], [], [32, 34, 36], [], [], [2, 38], [], [2, 3, 4]] ?_
    iterate 3 refine op1 tok ?_
    iterate 3 refine op2 tok ?_
    iterate 4 refine op1 tok ?_
    refine runEnd ?_
    exact AW.ret ⟨.inr rfl, _, _, by (conv => lhs; simp), trivial, by simp [shr10_55]⟩
   ·intro h31
    try simp at h31
    rw [shr10_54] at h31
    have hA : A.isSome = true := by
     cases A with
     | none => exact absurd rfl h31.1
     | some v => rfl
    rw [if_neg (fun h => h.elim (fun h => by rw [hA] at h; cases h) (fun h => h h31.2))]
    have h6 := hlen6 hA
    have ht : List.take ((t.length : Int) + 1 + 1).toNat (a :: c :: t) = a :: c :: t := List.take_of_length_le (by simp; omega)
    have e1 := and1023 hl1
    have e2 := and1023 hl2
    have e3 := shl10 x
    refine AW.skip ?_
    refine rgn [.nilp, .tup [.int .i32 y, .bool B.isSome]] [[], [], [], [6, 39], [], [], [], [6, 7, 8]] ?_
    iterate 8 refine op1 tok ?_ (hv := by first | with_reducible exact True.intro | (first | (rw [ht]; exact hu2) | (simp at h6; omega); done) | omega | simp | (simp; omega) | (simp +contextual; omega))
    refine runEnd ?_
    refine rgn [] [[], [], [], [7, 8, 48], [], [], [], [8, 51, 52], [], [], [], [51, 53, 56], [], [], [], [2, 3, 4]] ?_
    iterate 9 refine op1 tok ?_ (hv := by first | with_reducible exact True.intro | (simp only [e1, e2, e3]; omega; done) | omega | simp | (simp; omega) | (simp +contextual; omega))
    iterate 3 refine op2 tok ?_ (hv := by first | with_reducible exact True.intro | (simp only [e1, e2, e3]; omega; done) | omega | simp | (simp; omega) | (simp +contextual; omega))
    iterate 4 refine op1 tok ?_ (hv := by first | with_reducible exact True.intro | (simp only [e1, e2, e3]; omega; done) | omega | simp | (simp; omega) | (simp +contextual; omega))
    refine runEnd ?_
    exact AW.ret ⟨.inr rfl, _, _, by (conv => lhs; simp), trivial, by simp [shr10_55, e1, e2]; simpa using e3⟩
theorem escG_ok {s : List UInt8} (h : (escG s).2.2 = true) : (escG s).1 ≤ 1114111 ∧ ((escG s).1 < 55296 ∨ 57343 < (escG s).1) ∧ 2 ≤ (escG s).2.1 ∧ (escG s).2.1 ≤ 12 := by
 match s with
 | [] => simp [escG] at h
 | [a] => simp [escG] at h
 | a :: c :: t =>
  have hat := esc_at c
  have h1 := unitL_lt (a :: c :: t)
  unfold escG at h ⊢
  cases hv : escT c with
  | some v =>
   simp only [hv, Option.isSome_some, if_true, Option.getD_some] at hat h ⊢
   omega
  | none =>
   simp only [hv] at h ⊢
   unfold escU at h ⊢
   generalize unitL (a :: c :: t) = A at *
   generalize unitL ((a :: c :: t).drop 6) = B at *
   generalize A.getD 0 = x at *
   generalize B.getD 0 = y at *
   by_cases hc : A.isSome = false ∨ x / 1024 ≠ 54
   ·rw [if_pos hc] at h ⊢
    simp only [Bool.and_eq_true, decide_eq_true_eq] at h
    have h54 : x / 1024 ≠ 54 := hc.resolve_left (fun e => by rw [h.1] at e; cases e)
    simp only
    omega
   ·rw [if_neg hc] at h ⊢
    simp only
    omega
theorem unqG_nil (f k : Nat) (out : List UInt8) : unqG f [] k out = ([], 0, 6) := by cases f <;> simp [unqG]
theorem enc_len (r : Int) : 1 ≤ (Lib.encodeRune r).length ∧ (Lib.encodeRune r).length ≤ 4 := by
 have := Lib.encodeRuneZ_length r
 simpa only [Lib.encodeRune, List.length_map] using this
theorem Unquote_ev (hG : U8 G) (s : List UInt8) (hs : s.length ≤ 1000000000) : AFn Tryz.prog G 73 [.str s] (.tup [.str (unquoteT s).1, .int .i64 (unquoteT s).2.1, .int .i64 (unquoteT s).2.2]) := by
 refine AFn.introU tok Tryz.func73 (by kernel_rfl) rfl rfl ?_
 simp only [Tryz.f73, enumA, List.map_cons, List.map_nil]
 have hpre : hasPre s [34] = decide (s.head? = some 34) := by cases s <;> simp [hasPre]
 refine rgn [] [[], [], [0]] ?_
 iterate 3 refine op1 tok ?_
 refine runEnd ?_
 refine AW.seq ?_
 refine rgn [.nilp, .bool (hasPre s [34])] [[], [], [0, 12]] ?_
 iterate 3 refine op1 tok ?_
 refine runEnd ?_
 refine cnd ?_ ?_
 ·intro h12
  try simp at h12
  have hu : unquoteT s = ([], 0, 6) := by
   unfold unquoteT; rw [if_neg]; rw [hpre] at h12; simpa using h12
  refine rgn [] [[], [], []] ?_
  iterate 3 refine op1 tok ?_
  refine runEnd ?_
  exact AW.ret ⟨.inr rfl, _, _, by (conv => lhs; simp), trivial, by simp [hu]⟩
 ·intro h12
  try simp at h12
  have hu : unquoteT s = unqG s.length (s.drop 1) 1 [] := by
   unfold unquoteT; rw [if_pos]; rw [hpre] at h12; simpa using h12
  rw [hu]
  have hs0 : 1 ≤ s.length := by cases s with
   | nil => rw [hpre] at h12; simp at h12
   | cons b s => simp
  refine AW.skip ?_
  refine rgn [] [[]] ?_
  refine op1 tok ?_
  refine runEnd ?_
  refine AW.seq ?_
  refine AW.renE 5 2 (by simp) (by conv => lhs; simp) ?_
  refine AW.beginBox 2 3 1 5 1 (by simp; exact ⟨rfl, rfl⟩) (by simp) (by simp) (by conv => lhs; simp) ?_
  refine rgn [] [[]] ?_
  refine op1 tok ?_
  refine runEnd ?_
  refine AW.block ?_
  refine AW.loop (α := Nat × List UInt8 × Bool × Nat) (fun a => unqG s.length (s.drop 1) 1 [] = unqG a.2.2.2 (s.drop a.1) a.1 a.2.1 ∧ s.length + 1 ≤ a.2.2.2 + a.1 ∧ a.2.1.length ≤ 4 * a.1 ∧ a.1 ≤ s.length + 12) (fun a => ⟨upds 61 [(0, .p (.str s)), (5, .ptr 2 0), (6, .p (.int .i64 a.1))], [], [(2, .vars 112 [if a.2.2.1 = true then .ptr 2 0 else .p .nilp, .ms 3]), (3, .row 5 1 (bytesP a.2.1))], 0⟩) (fun a => s.length + 12 - a.1) ((1, [], false, s.length)) ⟨rfl, by simp, by simp, by simp⟩ ⟨upds_le (by simp), rfl, by simp, by simp⟩ ?_
  rintro ⟨k, out, u, f⟩ ⟨hq, hf, hol, hk⟩
  simp only at hq hf hol hk
  rw [hq]
  clear hq hu
  refine AW.seq ?_
  by_cases hs5 : u = true
  ·
   first | rw [if_pos hs5] | rw [if_neg hs5]
   refine rgn [] [[], [], [], [0, 5, 6, 16]] ?_
   iterate 4 refine op1 tok ?_
   refine runEnd ?_
   refine cnd ?_ ?_
   ·intro h16
    try simp at h16
    obtain ⟨f, rfl⟩ : ∃ g, f = g + 1 := ⟨f - 1, by omega⟩
    have hne : s.drop k ≠ [] := by intro e; have := congrArg List.length e; simp at this; omega
    have hdec := DecodeRune_ev (G := G) hG (s.drop k) hne
    have hstep : unqG (f + 1) (s.drop k) k out = if (Lib.decodeL (s.drop k)).1 = 34 then (if 4096 < out.length then ([], 0, 3) else (out, k + 1, 0)) else if (Lib.decodeL (s.drop k)).1 < 32 ∨ ((Lib.decodeL (s.drop k)).1 = 65533 ∧ (Lib.decodeL (s.drop k)).2 = 1) then ([], 0, 6)
      else if (Lib.decodeL (s.drop k)).1 = 92 then (match escL (s.drop k) with
       | none => ([], 0, 6)
       | some (c, n) => unqG f ((s.drop k).drop n) (k + n) (out ++ Lib.encodeRune c))
      else unqG f ((s.drop k).drop (Lib.decodeL (s.drop k)).2) (k + (Lib.decodeL (s.drop k)).2) (out ++ Lib.encodeRune (Lib.decodeL (s.drop k)).1) := by
     simp only [unqG]; rw [if_neg hne] <;> rfl
    rw [hstep]
    clear hstep
    have hok := decodeL_ok (s.drop k)
    have hmx := decodeL_max (s.drop k)
    have hwl := Lib.decodeL_le (s.drop k) hne
    have hwp := decodeL_pos (s.drop k) hne
    have hesc := escape_ev (G := G) (s.drop k) (by simp; omega)
    have hEL : escL (s.drop k) = if (escG (s.drop k)).2.2 = true then some ((escG (s.drop k)).1, (escG (s.drop k)).2.1) else none := rfl
    have hEO := escG_ok (s := s.drop k)
    rw [hEL]
    clear hEL
    rw [List.length_drop] at hwl
    generalize Lib.decodeL (s.drop k) = p at *
    obtain ⟨r, w⟩ := p
    generalize escG (s.drop k) = q at *
    obtain ⟨c, n, ok⟩ := q
    simp only at *
    refine AW.skip ?_
    refine AW.block ?_
    refine rgn [.nilp, .tup [.int .i32 r, .int .i64 w]] [[], [], [], [], [0, 5, 6, 17], [], [], [], [0, 5, 6, 7, 8]] ?_
    iterate 9 refine op1 tok ?_ (hv := by first | with_reducible exact True.intro | (first | exact hdec | omega; done) | omega | simp | (simp; omega) | (simp +contextual; omega))
    refine runEnd ?_
    refine AW.seq ?_
    refine AW.block ?_
    refine rgn [] [[], [], [0, 5, 6, 7, 8, 24]] ?_
    iterate 3 refine op1 tok ?_
    refine runEnd ?_
    refine cnd ?_ ?_
    ·intro h24
     try simp at h24
     rw [if_pos (show r = 34 by omega)]
     refine AW.seq ?_
     refine AW.seqRegionO [] ?_
     refine AOpsO.stepK [5, 6, 27] (y_cx rfl (BLen_ax out) (by simp)) (by conv => lhs; simp) rfl ?_
     refine AOpsO.run [[5, 6, 28]] ?_
     refine op1 tok ?_
     refine runEnd ?_
     refine cnd ?_ ?_
     ·intro h28
      try simp at h28
      rw [if_pos (show 4096 < out.length by omega)]
      refine rgn [] [[], [], []] ?_
      iterate 3 refine op1 tok ?_
      refine runEnd ?_
      exact AW.ret ⟨.inr rfl, _, _, by (conv => lhs; simp), trivial, by simp⟩
     ·intro h28
      try simp at h28
      rw [if_neg (show ¬ 4096 < out.length by omega)]
      refine AW.skip ?_
      refine AW.seqRegionO [] ?_
      refine AOpsO.stepK [6, 29] (y_cx rfl (String_ax out) (by simp)) (by conv => lhs; simp) rfl ?_
      refine AOpsO.run [[], [], [], [2, 3], []] ?_
      iterate 5 refine op1 tok ?_
      refine runEnd ?_
      exact AW.ret ⟨.inr rfl, _, _, by (conv => lhs; simp), trivial, by simp⟩
    ·intro h24
     try simp at h24
     rw [if_neg (show ¬ r = 34 by omega)]
     refine rgn [] [[], [], [], [], [], [0, 5, 6, 7, 8, 35, 38], [], [], [], [0, 5, 6, 7, 8, 42], [0, 5, 6, 7, 8, 32]] ?_
     iterate 3 refine op1 tok ?_
     iterate 6 refine op2 tok ?_
     iterate 2 refine op1 tok ?_
     refine runEnd ?_
     refine cnd ?_ ?_
     ·intro h32
      try simp at h32
      rw [if_pos (show r < 32 ∨ (r = 65533 ∧ w = 1) by omega)]
      refine rgn [] [[], [], []] ?_
      iterate 3 refine op1 tok ?_
      refine runEnd ?_
      exact AW.ret ⟨.inr rfl, _, _, by (conv => lhs; simp), trivial, by simp⟩
     ·intro h32
      try simp at h32
      rw [if_neg (show ¬ (r < 32 ∨ (r = 65533 ∧ w = 1)) by omega)]
      refine rgn [] [[], [], [0, 5, 6, 7, 8, 43]] ?_
      iterate 3 refine op1 tok ?_
      refine runEnd ?_
      refine cnd ?_ ?_
      ·intro h43
       try simp at h43
       rw [if_pos (show r = 92 by omega)]
       refine rgn [] [[0, 5, 6]] ?_
       refine op1 tok ?_
       refine runEnd ?_
       refine rgn [.nilp, .tup [.int .i32 c, .int .i64 n, .bool ok]] [[], [], [], [], [0, 5, 6, 46], [], [], [], [], [], [0, 5, 6, 7, 8, 9]] ?_
       iterate 11 refine op1 tok ?_ (hv := by first | with_reducible exact True.intro | (first | exact hesc | omega; done) | omega | simp | (simp; omega) | (simp +contextual; omega))
       refine runEnd ?_
       refine rgn [] [[], [0, 5, 6, 7, 8, 55]] ?_
       iterate 2 refine op1 tok ?_
       refine runEnd ?_
       refine cnd ?_ ?_
       ·intro h55
        try simp at h55
        subst h55
        refine rgn [] [[], [], []] ?_
        iterate 3 refine op1 tok ?_
        refine runEnd ?_
        exact AW.ret ⟨.inr rfl, _, _, by (conv => lhs; simp), trivial, by simp⟩
       ·intro h55
        try simp at h55
        subst h55
        have hE := hEO rfl
        simp only [if_true]
        refine AW.skip ?_
        have hel := enc_len c
        refine rgn [] [[]] ?_
        refine op1 tok ?_
        refine runOff ?_
        refine AOpsO.stepK [0, 5, 6, 8] (y_cx rfl (WriteRune_ax out c (by omega) (by omega) (by omega) (by omega)) (by simp)) (by conv => lhs; simp) rfl ?_
        refine AOpsO.nil ?_
        refine rgz [] [[], [], [0, 5, 60], [0, 5, 6]] ?_
        iterate 4 refine op1 tok ?_
        refine runEnd ?_
        exact ⟨(k + n, out ++ Lib.encodeRune c, true, f), ⟨by rw [List.drop_drop], by simp only []; omega, by simp; omega, by simp only []; omega⟩, by simp only []; omega, upds_le (by simp [bytesP]), rfl, by simp [bytesP], by simp [bytesP]⟩
      ·intro h43
       try simp at h43
       rw [if_neg (show ¬ r = 92 by omega)]
       refine AW.skip ?_
       have hel := enc_len r
       refine rgn [] [[]] ?_
       refine op1 tok ?_
       refine runOff ?_
       refine AOpsO.stepK [0, 5, 6, 8] (y_cx rfl (WriteRune_ax out r (by omega) (by omega) (by omega) (by omega)) (by simp)) (by conv => lhs; simp) rfl ?_
       refine AOpsO.nil ?_
       refine rgz [] [[], [], [0, 5, 60], [0, 5, 6]] ?_
       iterate 4 refine op1 tok ?_
       refine runEnd ?_
       exact ⟨(k + w, out ++ Lib.encodeRune r, true, f), ⟨by rw [List.drop_drop], by simp only []; omega, by simp; omega, by simp only []; omega⟩, by simp only []; omega, upds_le (by simp [bytesP]), rfl, by simp [bytesP], by simp [bytesP]⟩
   ·intro h16
    try simp at h16
    rw [List.drop_of_length_le (show s.length ≤ k by omega), unqG_nil]
    refine AW.exit ?_
    simp
    refine rgn [] [[], [], []] ?_
    iterate 3 refine op1 tok ?_
    refine runEnd ?_
    exact AW.ret ⟨.inr rfl, _, _, by (conv => lhs; simp), trivial, by simp⟩
  ·
   first | rw [if_pos hs5] | rw [if_neg hs5]
   refine rgn [] [[], [], [], [0, 5, 6, 16]] ?_
   iterate 4 refine op1 tok ?_
   refine runEnd ?_
   refine cnd ?_ ?_
   ·intro h16
    try simp at h16
    obtain ⟨f, rfl⟩ : ∃ g, f = g + 1 := ⟨f - 1, by omega⟩
    have hne : s.drop k ≠ [] := by intro e; have := congrArg List.length e; simp at this; omega
    have hdec := DecodeRune_ev (G := G) hG (s.drop k) hne
    have hstep : unqG (f + 1) (s.drop k) k out = if (Lib.decodeL (s.drop k)).1 = 34 then (if 4096 < out.length then ([], 0, 3) else (out, k + 1, 0)) else if (Lib.decodeL (s.drop k)).1 < 32 ∨ ((Lib.decodeL (s.drop k)).1 = 65533 ∧ (Lib.decodeL (s.drop k)).2 = 1) then ([], 0, 6)
      else if (Lib.decodeL (s.drop k)).1 = 92 then (match escL (s.drop k) with
       | none => ([], 0, 6)
       | some (c, n) => unqG f ((s.drop k).drop n) (k + n) (out ++ Lib.encodeRune c))
      else unqG f ((s.drop k).drop (Lib.decodeL (s.drop k)).2) (k + (Lib.decodeL (s.drop k)).2) (out ++ Lib.encodeRune (Lib.decodeL (s.drop k)).1) := by
     simp only [unqG]; rw [if_neg hne] <;> rfl
    rw [hstep]
    clear hstep
    have hok := decodeL_ok (s.drop k)
    have hmx := decodeL_max (s.drop k)
    have hwl := Lib.decodeL_le (s.drop k) hne
    have hwp := decodeL_pos (s.drop k) hne
    have hesc := escape_ev (G := G) (s.drop k) (by simp; omega)
    have hEL : escL (s.drop k) = if (escG (s.drop k)).2.2 = true then some ((escG (s.drop k)).1, (escG (s.drop k)).2.1) else none := rfl
    have hEO := escG_ok (s := s.drop k)
    rw [hEL]
    clear hEL
    rw [List.length_drop] at hwl
    generalize Lib.decodeL (s.drop k) = p at *
    obtain ⟨r, w⟩ := p
    generalize escG (s.drop k) = q at *
    obtain ⟨c, n, ok⟩ := q
    simp only at *
    refine AW.skip ?_
    refine AW.block ?_
    refine rgn [.nilp, .tup [.int .i32 r, .int .i64 w]] [[], [], [], [], [0, 5, 6, 17], [], [], [], [0, 5, 6, 7, 8]] ?_
    iterate 9 refine op1 tok ?_ (hv := by first | with_reducible exact True.intro | (first | exact hdec | omega; done) | omega | simp | (simp; omega) | (simp +contextual; omega))
    refine runEnd ?_
    refine AW.seq ?_
    refine AW.block ?_
    refine rgn [] [[], [], [0, 5, 6, 7, 8, 24]] ?_
    iterate 3 refine op1 tok ?_
    refine runEnd ?_
    refine cnd ?_ ?_
    ·intro h24
     try simp at h24
     rw [if_pos (show r = 34 by omega)]
     refine AW.seq ?_
     refine AW.seqRegionO [] ?_
     refine AOpsO.stepK [5, 6, 27] (y_cx rfl (BLenF_ax out) (by simp)) (by conv => lhs; simp) rfl ?_
     refine AOpsO.run [[5, 6, 28]] ?_
     refine op1 tok ?_
     refine runEnd ?_
     refine cnd ?_ ?_
     ·intro h28
      try simp at h28
      rw [if_pos (show 4096 < out.length by omega)]
      refine rgn [] [[], [], []] ?_
      iterate 3 refine op1 tok ?_
      refine runEnd ?_
      exact AW.ret ⟨.inr rfl, _, _, by (conv => lhs; simp), trivial, by simp⟩
     ·intro h28
      try simp at h28
      rw [if_neg (show ¬ 4096 < out.length by omega)]
      refine AW.skip ?_
      refine AW.seqRegionO [] ?_
      refine AOpsO.stepK [6, 29] (y_cx rfl (StringF_ax out) (by simp)) (by conv => lhs; simp) rfl ?_
      refine AOpsO.run [[], [], [], [2, 3], []] ?_
      iterate 5 refine op1 tok ?_
      refine runEnd ?_
      exact AW.ret ⟨.inr rfl, _, _, by (conv => lhs; simp), trivial, by simp⟩
    ·intro h24
     try simp at h24
     rw [if_neg (show ¬ r = 34 by omega)]
     refine rgn [] [[], [], [], [], [], [0, 5, 6, 7, 8, 35, 38], [], [], [], [0, 5, 6, 7, 8, 42], [0, 5, 6, 7, 8, 32]] ?_
     iterate 3 refine op1 tok ?_
     iterate 6 refine op2 tok ?_
     iterate 2 refine op1 tok ?_
     refine runEnd ?_
     refine cnd ?_ ?_
     ·intro h32
      try simp at h32
      rw [if_pos (show r < 32 ∨ (r = 65533 ∧ w = 1) by omega)]
      refine rgn [] [[], [], []] ?_
      iterate 3 refine op1 tok ?_
      refine runEnd ?_
      exact AW.ret ⟨.inr rfl, _, _, by (conv => lhs; simp), trivial, by simp⟩
     ·intro h32
      try simp at h32
      rw [if_neg (show ¬ (r < 32 ∨ (r = 65533 ∧ w = 1)) by omega)]
      refine rgn [] [[], [], [0, 5, 6, 7, 8, 43]] ?_
      iterate 3 refine op1 tok ?_
      refine runEnd ?_
      refine cnd ?_ ?_
      ·intro h43
       try simp at h43
       rw [if_pos (show r = 92 by omega)]
       refine rgn [] [[0, 5, 6]] ?_
       refine op1 tok ?_
       refine runEnd ?_
       refine rgn [.nilp, .tup [.int .i32 c, .int .i64 n, .bool ok]] [[], [], [], [], [0, 5, 6, 46], [], [], [], [], [], [0, 5, 6, 7, 8, 9]] ?_
       iterate 11 refine op1 tok ?_ (hv := by first | with_reducible exact True.intro | (first | exact hesc | omega; done) | omega | simp | (simp; omega) | (simp +contextual; omega))
       refine runEnd ?_
       refine rgn [] [[], [0, 5, 6, 7, 8, 55]] ?_
       iterate 2 refine op1 tok ?_
       refine runEnd ?_
       refine cnd ?_ ?_
       ·intro h55
        try simp at h55
        subst h55
        refine rgn [] [[], [], []] ?_
        iterate 3 refine op1 tok ?_
        refine runEnd ?_
        exact AW.ret ⟨.inr rfl, _, _, by (conv => lhs; simp), trivial, by simp⟩
       ·intro h55
        try simp at h55
        subst h55
        have hE := hEO rfl
        simp only [if_true]
        refine AW.skip ?_
        have hel := enc_len c
        refine rgn [] [[]] ?_
        refine op1 tok ?_
        refine runOff ?_
        refine AOpsO.stepK [0, 5, 6, 8] (y_cx rfl (WriteRuneF_ax out c (by omega) (by omega) (by omega) (by omega)) (by simp)) (by conv => lhs; simp) rfl ?_
        refine AOpsO.nil ?_
        refine rgz [] [[], [], [0, 5, 60], [0, 5, 6]] ?_
        iterate 4 refine op1 tok ?_
        refine runEnd ?_
        exact ⟨(k + n, out ++ Lib.encodeRune c, true, f), ⟨by rw [List.drop_drop], by simp only []; omega, by simp; omega, by simp only []; omega⟩, by simp only []; omega, upds_le (by simp [bytesP]), rfl, by simp [bytesP], by simp [bytesP]⟩
      ·intro h43
       try simp at h43
       rw [if_neg (show ¬ r = 92 by omega)]
       refine AW.skip ?_
       have hel := enc_len r
       refine rgn [] [[]] ?_
       refine op1 tok ?_
       refine runOff ?_
       refine AOpsO.stepK [0, 5, 6, 8] (y_cx rfl (WriteRuneF_ax out r (by omega) (by omega) (by omega) (by omega)) (by simp)) (by conv => lhs; simp) rfl ?_
       refine AOpsO.nil ?_
       refine rgz [] [[], [], [0, 5, 60], [0, 5, 6]] ?_
       iterate 4 refine op1 tok ?_
       refine runEnd ?_
       exact ⟨(k + w, out ++ Lib.encodeRune r, true, f), ⟨by rw [List.drop_drop], by simp only []; omega, by simp; omega, by simp only []; omega⟩, by simp only []; omega, upds_le (by simp [bytesP]), rfl, by simp [bytesP], by simp [bytesP]⟩
   ·intro h16
    try simp at h16
    rw [List.drop_of_length_le (show s.length ≤ k by omega), unqG_nil]
    refine AW.exit ?_
    simp
    refine rgn [] [[], [], []] ?_
    iterate 3 refine op1 tok ?_
    refine runEnd ?_
    exact AW.ret ⟨.inr rfl, _, _, by (conv => lhs; simp), trivial, by simp⟩
end Go.Proofs.YtdjjmppnnkkloaaGreatDoor
namespace Go.Proofs.YtdjjmppnnkkloaaGreatDoor
open Sy Go
set_option maxRecDepth 100000
set_option maxHeartbeats 4000000
set_option linter.unusedSimpArgs false
set_option linter.unusedVariables false
variable {G : Glob}
theorem pre_hasPre (s p : List UInt8) : p.isPrefixOf s = hasPre s p := by
 rw [Bool.eq_iff_iff, hasPre_iff, List.isPrefixOf_iff_prefix]
 constructor
 ·rintro ⟨t, rfl⟩; exact ⟨t, rfl⟩
 ·rintro ⟨t, rfl⟩; exact ⟨t, rfl⟩
theorem nameLen_tw : ∀ r : List UInt8, nameLen r = r.takeWhile isNm
 | [] => by simp [nameLen]
 | c :: r => by
  have h : mayNameM [97, c] = isNm c := by
   have h97 : asF nameSet 97 = true := by decide
   simp [mayNameM, isNm, h97, letters]
  simp only [nameLen, List.takeWhile_cons, h, nameLen_tw r]
theorem guessB_pre (s : List UInt8) : guessB s = if hasPre s [42, 42] = true then ⟨5, [], 0⟩ else if hasPre s [46, 42] = true then ⟨3, [], 0⟩ else if hasPre s [91, 42] = true then ⟨4, [], 0⟩
 else if hasPre s [91, 34] = true then ⟨1, (unquoteT (s.drop 1)).1, 0⟩ else if hasPre s [91] = true then ⟨2, [], numG (s.drop 1) 0⟩ else if hasPre s [46] = true then ⟨1, nameLen (s.drop 1), 0⟩ else ⟨0, [], 0⟩ := by
 unfold guessB
 simp only [pre_hasPre, nameLen_tw]
theorem numG_go {s : List UInt8} {i : Nat} {n : Int} (h : i < s.length) : numG (s.drop i) n = if (48 ≤ ((s.getD i 0).toNat : Int) ∧ ((s.getD i 0).toNat : Int) ≤ 57) ∧ n ≤ 9999 then numG (s.drop (i + 1)) (n * 10 + (((s.getD i 0).toNat : Int) - 48)) else n := by
 have e : s.drop i = s.getD i 0 :: s.drop (i + 1) := by
  rw [List.drop_eq_getElem_cons h]; simp [List.getD_eq_getElem?_getD, h]
 rw [e]
 simp only [numG, isDig, digitM, Bool.and_eq_true, decide_eq_true_eq]
theorem guessB_ev (hG : U8 G) (s : List UInt8) (hs : s.length ≤ 1000000000) : AFn Tryz.prog G 104 [.str s] ((guessB s).enc) := by
 refine AFn.introU tok Tryz.func104 (by kernel_rfl) rfl rfl ?_
 simp only [Tryz.f104, enumA, List.map_cons, List.map_nil]
 rw [guessB_pre s]
 refine rgn [] [[]] ?_
 refine op1 tok ?_
 refine runEnd ?_
 refine AW.seq ?_
 refine AW.block ?_
 refine rgn [.nilp, .bool (hasPre s [42, 42])] [[], [], [0, 2, 9]] ?_
 iterate 3 refine op1 tok ?_
 refine runEnd ?_
 refine cnd ?_ ?_
 ·intro h9
  try simp at h9
  rw [if_pos h9]
  refine rgn [] [[], [2]] ?_
  iterate 2 refine op1 tok ?_
  refine runEnd ?_
  exact AW.ret ⟨.inr rfl, _, _, by (conv => lhs; simp), trivial, by simp⟩
 ·intro h9
  try simp at h9
  rw [if_neg (by simp [h9])]
  refine rgn [.nilp, .bool (hasPre s [46, 42])] [[], [], [0, 2, 13]] ?_
  iterate 3 refine op1 tok ?_
  refine runEnd ?_
  refine cnd ?_ ?_
  ·intro h13
   try simp at h13
   rw [if_pos h13]
   refine rgn [] [[], [2]] ?_
   iterate 2 refine op1 tok ?_
   refine runEnd ?_
   exact AW.ret ⟨.inr rfl, _, _, by (conv => lhs; simp), trivial, by simp⟩
  ·intro h13
   try simp at h13
   rw [if_neg (by simp [h13])]
   refine rgn [.nilp, .bool (hasPre s [91, 42])] [[], [], [0, 2, 17]] ?_
   iterate 3 refine op1 tok ?_
   refine runEnd ?_
   refine cnd ?_ ?_
   ·intro h17
    try simp at h17
    rw [if_pos h17]
    refine rgn [] [[], [2]] ?_
    iterate 2 refine op1 tok ?_
    refine runEnd ?_
    exact AW.ret ⟨.inr rfl, _, _, by (conv => lhs; simp), trivial, by simp⟩
   ·intro h17
    try simp at h17
    rw [if_neg (by simp [h17])]
    refine rgn [.nilp, .bool (hasPre s [91, 34])] [[], [], [0, 2, 21]] ?_
    iterate 3 refine op1 tok ?_
    refine runEnd ?_
    refine cnd ?_ ?_
    ·intro h21
     try simp at h21
     rw [if_pos h21]
     have hu := Unquote_ev (G := G) hG (s.drop 1) (by simp; omega)
     have hs1 : 1 ≤ s.length := by obtain ⟨t, rfl⟩ := hasPre_iff.1 h21; simp
     generalize unquoteT (s.drop 1) = u at *
     simp only [List.drop_one] at hu
     refine rgn [.nilp, .tup [.str u.1, .int .i64 u.2.1, .int .i64 u.2.2]] [[], [], [], [2, 24], [], [], [], [], [2, 3, 30], [2, 3]] ?_
     iterate 10 refine op1 tok ?_ (hv := by first | with_reducible exact True.intro | (first | exact hu | omega; done) | omega | simp | (simp; omega) | (simp +contextual; omega))
     refine runEnd ?_
     refine rgn [] [[], [], [2]] ?_
     iterate 3 refine op1 tok ?_
     refine runEnd ?_
     exact AW.ret ⟨.inr rfl, _, _, by (conv => lhs; simp), trivial, by simp⟩
    ·intro h21
     try simp at h21
     rw [if_neg (by simp [h21])]
     refine rgn [.nilp, .bool (hasPre s [91])] [[], [], [0, 2, 33]] ?_
     iterate 3 refine op1 tok ?_
     refine runEnd ?_
     refine cnd ?_ ?_
     ·intro h33
      try simp at h33
      rw [if_pos h33]
      have hs1 : 1 ≤ s.length := by obtain ⟨t, rfl⟩ := hasPre_iff.1 h33; simp
      refine rgn [] [[]] ?_
      refine op1 tok ?_
      refine runEnd ?_
      refine AW.seq ?_
      refine rgn [] [[]] ?_
      refine op1 tok ?_
      refine runEnd ?_
      refine AW.block ?_
      refine AW.loop (α := Nat × Nat) (fun a => numG (s.drop a.1) (a.2 : Nat) = numG (s.drop 1) 0 ∧ 1 ≤ a.1 ∧ a.1 ≤ s.length ∧ a.2 ≤ 99999) (fun a => ⟨upds 91 [(0, .p (.str s)), (2, .ptr 2 0), (6, .p (.int .i64 a.2)), (7, .p (.int .i64 a.1))], [], [(2, .vars 57 [.p (.int .i64 0), .p (.str []), .p (.int .i64 0)])], 0⟩) (fun a => s.length - a.1) ((1, 0)) ⟨rfl, by omega, by simp only []; omega, by simp only []; omega⟩ ⟨upds_le (by simp), rfl, by simp, by simp⟩ ?_
      rintro ⟨i, n⟩ ⟨hq, h1, h2, h3⟩
      simp only at hq h1 h2 h3
      rw [← hq]
      have hix : i < s.length → s[i]? = some (s.getD i 0) := fun h => by simp [List.getD_eq_getElem?_getD, h]
      have hgo := fun h => numG_go (s := s) (i := i) (n := (n : Int)) h
      have hb := (s.getD i 0).toNat_lt
      generalize s.getD i 0 = c at *
      refine AW.seq ?_
      refine rgn [.int .u8 c.toNat, .int .u8 c.toNat] [[], [], [], [], [0, 2, 6, 7, 40], [], [], [], [], [0, 2, 6, 7, 45], [], [], [], [], [0, 2, 6, 7, 46, 50], [], [], [], [0, 2, 6, 7, 52, 54], [0, 2, 6, 7, 55]] ?_
      iterate 20 first | refine op1 tok ?_ (hv := by first | with_reducible exact True.intro | (first | exact fun h => ⟨by omega, _, hix (by omega), rfl⟩ | exact fun h h2 => ⟨by omega, _, hix h, rfl⟩ | (simp; omega); done) | omega | simp | (simp; omega) | (simp +contextual; omega)) | refine op2 tok ?_ (hv := by first | with_reducible exact True.intro | (first | exact fun h => ⟨by omega, _, hix (by omega), rfl⟩ | exact fun h h2 => ⟨by omega, _, hix h, rfl⟩ | (simp; omega); done) | omega | simp | (simp; omega) | (simp +contextual; omega))
      refine runEnd ?_
      refine cnd ?_ ?_
      ·intro h55
       try simp at h55
       rw [hgo (by omega), if_pos (by omega)]
       have hw : IntKind.u8.wrap ((c.toNat : Int) - 48) = (c.toNat : Int) - 48 := by simp [IntKind.wrap, IntKind.bits, IntKind.signed]; omega
       have hix' := hix (by omega)
       have hcst : ((c.toNat - 48 : Nat) : Int) = (c.toNat : Int) - 48 := by omega
       refine AW.skip ?_
       refine AW.seq ?_
       refine AW.block ?_
       refine rgz [.int .u8 c.toNat] [[], [], [], [], [0, 2, 7, 59, 62], [], [], [0, 2, 7, 65], [0, 2, 6, 7]] ?_
       iterate 9 refine op1 tok ?_ (h := by intro C; conv => lhs; simp [hw]) (hv := by first | with_reducible exact True.intro | (first | exact ⟨_, hix', rfl⟩ | (simp [hw]; omega); done) | omega | simp | (simp; omega) | (simp +contextual; omega))
       refine runEnd ?_
       refine rgz [] [[], [], [0, 2, 6, 7]] ?_
       iterate 3 refine op1 tok ?_
       refine runEnd ?_
       exact ⟨(i + 1, n * 10 + (c.toNat - 48)), ⟨by simp only []; congr 1; omega, by simp only []; omega, by simp only []; omega, by simp only []; omega⟩, by simp only []; omega, upds_le (by simp [hcst]), rfl, by simp [hcst], by simp [hcst]⟩
      ·intro h55
       try simp at h55
       have hn : numG (s.drop i) n = n := by
        rcases Nat.lt_or_ge i s.length with h | h
        ·rw [hgo h, if_neg (by omega)]
        ·rw [List.drop_of_length_le h]; rfl
       rw [hn]
       refine AW.exit ?_
       simp
       refine rgn [] [[], [], [2]] ?_
       iterate 3 refine op1 tok ?_
       refine runEnd ?_
       exact AW.ret ⟨.inr rfl, _, _, by (conv => lhs; simp), trivial, by simp⟩
     ·intro h33
      try simp at h33
      rw [if_neg (by simp [h33])]
      refine rgn [.nilp, .bool (hasPre s [46])] [[], [], [0, 2, 68]] ?_
      iterate 3 refine op1 tok ?_
      refine runEnd ?_
      refine cnd ?_ ?_
      ·intro h68
       try simp at h68
       rw [if_pos h68]
       obtain ⟨r, rfl⟩ := hasPre_iff.1 h68
       simp only [List.cons_append, List.nil_append, List.drop_succ_cons, List.drop_zero, List.length_cons] at hs ⊢
       have hnl := nameLen_le r
       refine rgn [] [[]] ?_
       refine op1 tok ?_
       refine runEnd ?_
       refine AW.seq ?_
       refine AW.block ?_
       refine AW.loop (α := Nat) (fun n => n ≤ (nameLen r).length) (fun n => ⟨upds 91 [(0, .p (.str (46 :: r))), (2, .ptr 2 0), (8, .p (.int .i64 (n + 1)))], [], [(2, .vars 57 [.p (.int .i64 0), .p (.str []), .p (.int .i64 0)])], 0⟩) (fun n => r.length - n) (0) (by omega) ⟨upds_le (by simp), rfl, by simp, by simp⟩ ?_
       rintro n hn
       refine AW.seq ?_
       by_cases hs19 : n < r.length
       ·
        obtain ⟨c, hc⟩ : ∃ c, r[n]? = some c := ⟨r[n], by simp [hs19]⟩
        have hgo := nameLen_go r n c hn hc
        have hM := MayName_ev (G := G) [97, c]
        have hsl := drop_take1 (l := 46 :: r) (k := n + 1) (x := c) (by simpa using hc)
        refine rgn [.tup [.str [97, c]], .bool (mayNameM [97, c])] [[], [], [], [], [0, 2, 8, 75], [], [], [], [], [0, 2, 8, 75, 80], [], [], [0, 2, 8, 83]] ?_
        iterate 5 refine op1 tok ?_ (hv := by first | with_reducible exact True.intro | ((simp [hs19]; exact ⟨by rw [show ((n : Int) + 1 + 1).toNat = n + 1 + 1 by omega]; exact hsl, hM⟩); done) | omega | simp | (simp; omega) | (simp +contextual; omega))
        iterate 7 refine op2 tok ?_ (hv := by first | with_reducible exact True.intro | ((simp [hs19]; exact ⟨by rw [show ((n : Int) + 1 + 1).toNat = n + 1 + 1 by omega]; exact hsl, hM⟩); done) | omega | simp | (simp; omega) | (simp +contextual; omega))
        refine op1 tok ?_ (hv := by first | with_reducible exact True.intro | ((simp [hs19]; exact ⟨by rw [show ((n : Int) + 1 + 1).toNat = n + 1 + 1 by omega]; exact hsl, hM⟩); done) | omega | simp | (simp; omega) | (simp +contextual; omega))
        refine runEnd ?_
        refine cnd ?_ ?_
        ·intro h83
         try simp at h83
         have h8 := hgo.1 h83.2
         refine AW.skip ?_
         refine AW.block ?_
         refine rgz [] [[], [], [0, 2, 8]] ?_
         iterate 3 refine op1 tok ?_
         refine runEnd ?_
         exact ⟨n + 1, by omega, by omega, upds_le (by simp), rfl, by simp, by simp⟩
        ·intro h83
         try simp at h83
         have h8 : n = (nameLen r).length := by
          have : ¬ n < (nameLen r).length := fun h => by rw [hgo.2 h] at h83; simp [hs19] at h83
          omega
         have hk := nameLen_key 46 h8
         have hk2 : List.take n r = nameLen r := by rw [h8]; exact nameLen_take r
         refine AW.exit ?_
         simp
         refine rgn [] [[], [], [2, 88], [], [2]] ?_
         iterate 5 refine op1 tok ?_
         refine runEnd ?_
         exact AW.ret ⟨.inr rfl, _, _, by (conv => lhs; simp), trivial, by simp [hk, hk2]⟩
       ·
        refine rgn [.nilp, .bool false] [[], [], [], [], [0, 2, 8, 75], [], [], [], [], [0, 2, 8, 75, 80], [], [], [0, 2, 8, 83]] ?_
        iterate 5 refine op1 tok ?_
        iterate 7 refine op2 tok ?_
        refine op1 tok ?_
        refine runEnd ?_
        refine cnd ?_ ?_
        ·intro h83
         try simp at h83
        ·intro h83
         try simp at h83
         have h8 : n = (nameLen r).length := by omega
         have hk := nameLen_key 46 h8
         have hk2 : List.take n r = nameLen r := by rw [h8]; exact nameLen_take r
         refine AW.exit ?_
         simp
         refine rgn [] [[], [], [2, 88], [], [2]] ?_
         iterate 5 refine op1 tok ?_
         refine runEnd ?_
         exact AW.ret ⟨.inr rfl, _, _, by (conv => lhs; simp), trivial, by simp [hk, hk2]⟩
      ·intro h68
       try simp at h68
       rw [if_neg (by simp [h68])]
       refine AW.skip ?_
       refine rgn [] [[], [2]] ?_
       iterate 2 refine op1 tok ?_
       refine runEnd ?_
       exact AW.ret ⟨.inr rfl, _, _, by (conv => lhs; simp), trivial, by simp⟩
end Go.Proofs.YtdjjmppnnkkloaaGreatDoor
namespace Go.Proofs.YtdjjmppnnkkloaaGreatDoor
open Sy Go
set_option maxRecDepth 100000
set_option maxHeartbeats 4000000
set_option linter.unusedSimpArgs false
set_option linter.unusedVariables false
variable {G : Glob}
abbrev PW (G : Glob) : Prop := HasPow 3 G
theorem itoa_ev (hP : PW G) (n : Int) : AFn Tryz.prog G 52 [.int .i64 n] (.str (Lib.itoa n)) := ItoaN_ev hP (by kernel_rfl) n
theorem qBody_le6 (s : List UInt8) : (qBody s).length ≤ 6 * s.length := by
 have h1 : ∀ b : UInt8, (qb b).length ≤ 6 := fun b => by unfold qb; (repeat' split) <;> simp
 induction s with
 | nil => simp [qBody]
 | cons b s ih => have := h1 b; simp only [qBody, List.flatMap_cons, List.length_append, List.length_cons] at ih ⊢; omega
theorem written_le {t : Step} (h : mayM t = true) : (writtenT t).length ≤ 200 := by
 have ho := ok_may h
 unfold writtenT
 have hq := qBody_le6 t.key
 rcases ho with ⟨h1, _, _, _⟩ | ⟨h1, h2, h3, _⟩ | ⟨h1, h2, h3⟩
 ·have hk : t.key.length ≤ 24 := by
   unfold mayM stepM at h; rw [if_pos h1] at h; simp only [Bool.and_eq_true, decide_eq_true_eq] at h; omega
  rw [h1]; split
  ·simp; omega
  ·simp [quoteT]; omega
 ·obtain ⟨m, hm⟩ : ∃ m : Nat, t.n = m := ⟨t.n.toNat, by omega⟩
  obtain ⟨_, _, _, g4⟩ := itoa_good (k := m) (by omega)
  rw [if_neg (by omega), if_neg (by omega), if_pos h1, hm]
  simp; omega
 ·rw [if_neg (by omega), if_neg (by omega), if_neg (by omega)]
  split
  ·simp
  ·split <;> simp
theorem writtenB_ev (hP : PW G) (t : Step) (hm : mayM t = true) : AFn Tryz.prog G 85 [t.enc] (.str (writtenT t)) := by
 refine AFn.introU tok Tryz.func85 (by kernel_rfl) rfl rfl ?_
 simp only [Tryz.f85, enumA, List.map_cons, List.map_nil]
 have hM := MayName_ev (G := G) t.key
 have hlw := written_le hm
 unfold writtenT at hlw ⊢
 refine rgn [] [[], [1]] ?_
 iterate 2 refine op1 tok ?_
 refine runEnd ?_
 refine AW.seq ?_
 refine AW.block ?_
 refine rgn [.nilp, .bool (mayNameM t.key)] [[], [], [], [], [], [1, 7, 9], [], [], [1, 3]] ?_
 iterate 4 refine op1 tok ?_ (hv := by first | with_reducible exact True.intro | (simp +contextual [hM]; done) | omega | simp | (simp; omega) | (simp +contextual; omega))
 iterate 3 refine op2 tok ?_ (hv := by first | with_reducible exact True.intro | (simp +contextual [hM]; done) | omega | simp | (simp; omega) | (simp +contextual; omega))
 iterate 2 refine op1 tok ?_ (hv := by first | with_reducible exact True.intro | (simp +contextual [hM]; done) | omega | simp | (simp; omega) | (simp +contextual; omega))
 refine runEnd ?_
 refine cnd ?_ ?_
 ·intro h3
  try simp at h3
  rw [if_pos h3] at hlw ⊢
  simp at hlw
  refine rgn [] [[], [], [], [2]] ?_
  iterate 4 refine op1 tok ?_
  refine runEnd ?_
  exact AW.ret ⟨.inr rfl, _, _, by (conv => lhs; simp), trivial, by simp⟩
 ·intro h3
  try simp at h3
  rw [if_neg (by simpa using h3)] at hlw ⊢
  refine rgn [] [[], [], [], [1, 15]] ?_
  iterate 4 refine op1 tok ?_
  refine runEnd ?_
  refine cnd ?_ ?_
  ·intro h15
   try simp at h15
   rw [if_pos h15] at hlw ⊢
   have hv : Lib.validD t.key = true ∧ t.key.length ≤ 24 := by
    unfold mayM stepM at hm; rw [if_pos h15] at hm; simp only [Bool.and_eq_true, decide_eq_true_eq] at hm; exact ⟨hm.1.2, by omega⟩
   have hQ := Quote_ev (G := G) t.key hv.1 (by omega)
   simp at hlw
   refine rgn [.nilp, .str (quoteT t.key)] [[], [], [], [22], [], [2]] ?_
   iterate 6 refine op1 tok ?_ (hv := by first | with_reducible exact True.intro | (first | exact hQ | (simp; omega); done) | omega | simp | (simp; omega) | (simp +contextual; omega))
   refine runEnd ?_
   exact AW.ret ⟨.inr rfl, _, _, by (conv => lhs; simp), trivial, by simp⟩
  ·intro h15
   try simp at h15
   rw [if_neg h15] at hlw ⊢
   refine rgn [] [[], [], [], [1, 24]] ?_
   iterate 4 refine op1 tok ?_
   refine runEnd ?_
   refine cnd ?_ ?_
   ·intro h24
    try simp at h24
    rw [if_pos h24] at hlw ⊢
    have hI := itoa_ev hP t.n
    simp at hlw
    refine rgn [.nilp, .str (Lib.itoa t.n)] [[], [], [], [31], [], [2]] ?_
    iterate 6 refine op1 tok ?_ (hv := by first | with_reducible exact True.intro | (first | exact hI | (simp; omega); done) | omega | simp | (simp; omega) | (simp +contextual; omega))
    refine runEnd ?_
    exact AW.ret ⟨.inr rfl, _, _, by (conv => lhs; simp), trivial, by simp⟩
   ·intro h24
    try simp at h24
    rw [if_neg h24] at hlw ⊢
    refine rgn [] [[], [], [], [1, 33]] ?_
    iterate 4 refine op1 tok ?_
    refine runEnd ?_
    refine cnd ?_ ?_
    ·intro h33
     try simp at h33
     rw [if_pos h33]
     refine rgn [] [[]] ?_
     refine op1 tok ?_
     refine runEnd ?_
     exact AW.ret ⟨.inr rfl, _, _, by (conv => lhs; simp), trivial, by simp⟩
    ·intro h33
     try simp at h33
     rw [if_neg h33]
     refine rgn [] [[], [], [], [37]] ?_
     iterate 4 refine op1 tok ?_
     refine runEnd ?_
     refine cnd ?_ ?_
     ·intro h37
      try simp at h37
      rw [if_pos h37]
      refine rgn [] [[]] ?_
      refine op1 tok ?_
      refine runEnd ?_
      exact AW.ret ⟨.inr rfl, _, _, by (conv => lhs; simp), trivial, by simp⟩
     ·intro h37
      try simp at h37
      rw [if_neg h37]
      refine AW.skip ?_
      refine rgn [] [[]] ?_
      refine op1 tok ?_
      refine runEnd ?_
      exact AW.ret ⟨.inr rfl, _, _, by (conv => lhs; simp), trivial, by simp⟩
theorem parseB_ev (hG : U8 G) (hP : PW G) (s : List UInt8) (hs : s.length ≤ 100000000) : AFn Tryz.prog G 72 [.str s] (.tup [.sl 3 ((parseT s).1.map Step.enc), .int .i64 (parseT s).2]) := by
 refine AFn.introU tok Tryz.func72 (by kernel_rfl) rfl rfl ?_
 simp only [Tryz.f72, enumA, List.map_cons, List.map_nil]
 have hC := CutPrefix_ev (G := G) s [36]
 have hcl : (cutPre s [36]).length ≤ s.length := by unfold cutPre; split <;> simp
 have hin : parseO s = if hasPre s [36] = true then (parseF s.length (cutPre s [36])).map ([] ++ ·) else none := by
  unfold parseO cutPre; split
  ·rename_i h; simp
  ·rfl
 unfold parseT
 refine rgn [] [[], [0]] ?_
 iterate 2 refine op1 tok ?_
 refine runEnd ?_
 refine rgn [.nilp, .tup [.str (cutPre s [36]), .bool (hasPre s [36])]] [[], [], [], [], [11, 12], [], [4, 5]] ?_
 iterate 7 refine op1 tok ?_ (hv := by first | with_reducible exact True.intro | (simp [hC]; done) | omega | simp | (simp; omega) | (simp +contextual; omega))
 refine runEnd ?_
 refine rgn [] [[]] ?_
 refine op1 tok ?_
 refine runEnd ?_
 refine AW.seq ?_
 refine AW.block ?_
 refine AW.beginE 6 33 57 3 (by simp) (by simp) (by conv => lhs; simp) ?_
 refine AW.loop (α := List UInt8 × List Step × Bool × Nat) (fun a => parseO s = (if a.2.2.1 = true then (parseF a.2.2.2 a.1).map (a.2.1 ++ ·) else none) ∧ (a.2.2.1 = true → a.1.length ≤ a.2.2.2) ∧ a.2.1.length + a.1.length ≤ s.length + 1 ∧ (a.2.2.1 = true → a.2.1.length + a.1.length ≤ s.length)) (fun a => ⟨upds 42 [(4, .p (.str a.1)), (5, .p (.bool a.2.2.1)), (6, .ms 33)], [], [(33, .row 57 3 (a.2.1.map Step.enc))], 0⟩) (fun a => 2 * a.1.length + (if a.2.2.1 = true then 1 else 0)) ((cutPre s [36], [], hasPre s [36], s.length)) ⟨hin, fun _ => hcl, by simp; omega, by simp; omega⟩ ⟨upds_le (by simp), rfl, by simp, by simp⟩ ?_
 rintro ⟨rest, l, ok, f⟩ ⟨hq, hf, hl, hl2⟩
 simp only at hq hf hl hl2
 refine AW.seq ?_
 refine rgn [] [[], [], [], [], [4, 5, 6, 17]] ?_
 iterate 2 refine op1 tok ?_
 iterate 2 refine op2 tok ?_
 refine op1 tok ?_
 refine runEnd ?_
 refine cnd ?_ ?_
 ·intro h17
  try simp at h17
  obtain ⟨hok, hne⟩ := h17
  subst hok
  obtain ⟨f, rfl⟩ : ∃ g, f = g + 1 := ⟨f - 1, by have := List.length_pos_iff.2 hne; have := hf rfl; omega⟩
  have hg := guessB_ev hG rest (by omega)
  have hstep : (parseF (f + 1) rest) = if mayM (guessB rest) = true ∧ hasPre rest (writtenT (guessB rest)) = true then (parseF f (rest.drop (writtenT (guessB rest)).length)).map (guessB rest :: ·) else none := by
   simp only [parseF]; rw [if_neg hne]
  have hpos := List.length_pos_iff.2 hne
  rw [hstep] at hq
  clear hstep
  generalize guessB rest = t at *
  have hM := stepV_ev hG t
  simp at hg hM
  refine AW.skip ?_
  refine AW.block ?_
  refine rgn [.nilp, t.enc] [[], [], [], [4, 6, 7]] ?_
  iterate 4 refine op1 tok ?_ (hv := by first | with_reducible exact True.intro | (first | exact hg | simp; done) | omega | simp | (simp; omega) | (simp +contextual; omega))
  refine runEnd ?_
  refine rgn [.nilp, .bool (mayM t)] [[], [], [4, 5, 6, 7]] ?_
  iterate 3 refine op1 tok ?_ (hv := by first | with_reducible exact True.intro | (first | exact hM | simp; done) | omega | simp | (simp; omega) | (simp +contextual; omega))
  refine runEnd ?_
  refine rgn [] [[]] ?_
  refine op1 tok ?_
  refine runEnd ?_
  refine cnd ?_ ?_
  ·intro h22
   try simp at h22
   have hw := writtenB_ev hP t h22
   have hC2 := CutPrefix_ev (G := G) rest (writtenT t)
   have hwp := written_pos t
   simp at hw
   generalize hwt : writtenT t = w at *
   have hcut : cutPre rest w = if hasPre rest w = true then rest.drop w.length else rest := rfl
   refine rgn [.nilp, .str w, .nilp, .tup [.str (cutPre rest w), .bool (hasPre rest w)]] [[], [], [], [6, 7, 27], [], [], [], [], [4, 5, 6, 7]] ?_
   iterate 9 refine op1 tok ?_ (hv := by first | with_reducible exact True.intro | (first | exact hw | exact hC2 | simp; done) | omega | simp | (simp; omega) | (simp +contextual; omega))
   refine runEnd ?_
   have hl3 := hl2 rfl
   have hf3 := hf rfl
   have hE1 : parseO s = if hasPre rest w = true then (parseF f (cutPre rest w)).map ((l ++ [t]) ++ ·) else none := by
    rw [hq, hcut]
    by_cases hp : hasPre rest w = true
    ·simp [hp, h22, Option.map_map, Function.comp_def]
    ·simp [hp]
   have hE2 : hasPre rest w = true → (cutPre rest w).length + w.length = rest.length := fun hp => by
    rw [hcut, if_pos hp]
    obtain ⟨q, rfl⟩ := hasPre_iff.1 hp; simp; omega
   have hE3 : (cutPre rest w).length ≤ rest.length := by rw [hcut]; split <;> simp
   have hE4 : 2 * (cutPre rest w).length + (if hasPre rest w = true then 1 else 0) < 2 * rest.length + 1 := by
    by_cases hp : hasPre rest w = true
    ·rw [if_pos hp]; have := hE2 hp; omega
    ·rw [if_neg hp]; omega
   refine rgz [t.enc] [[], [], [], [4, 5, 33], [4, 5, 6]] ?_
   iterate 5 refine op1 tok ?_ (hv := by first | with_reducible exact True.intro | (first | (simp; omega) | simp; done) | omega | simp | (simp; omega) | (simp +contextual; omega))
   refine runEnd ?_
   exact ⟨(cutPre rest w, l ++ [t], hasPre rest w, f), ⟨hE1, fun hp => by have := hE2 hp; simp only []; omega, by simp; omega, fun hp => by have := hE2 hp; simp; omega⟩, by simpa using hE4, upds_le (by simp), rfl, by simp, by simp⟩
  ·intro h22
   try simp at h22
   refine AW.skip ?_
   exact ⟨(rest, l, false, f), ⟨by rw [hq]; simp [h22], fun hp => absurd hp (by simp), by simp only []; omega, fun hp => absurd hp (by simp)⟩, by simp, upds_le (by simp [h22]), rfl, by simp [h22], by simp [h22]⟩
 ·intro h17
  try simp at h17
  have hend : parseO s = if ok = true then some l else none := by
   rw [hq]
   cases ok with
   | false => rfl
   | true =>
    have : rest = [] := by simpa using h17
    subst this
    cases f <;> simp [parseF]
  rw [hend]
  refine AW.exit ?_
  simp
  refine AW.seq ?_
  refine AW.block ?_
  refine rgn [] [[], [], [6, 34]] ?_
  iterate 3 refine op1 tok ?_
  refine runEnd ?_
  refine cnd ?_ ?_
  ·intro h34
   try simp at h34
   subst h34
   refine rgn [] [[], []] ?_
   iterate 2 refine op1 tok ?_
   refine runEnd ?_
   exact AW.ret ⟨.inr rfl, _, _, by (conv => lhs; simp), trivial, by simp [finP]⟩
  ·intro h34
   try simp at h34
   subst h34
   simp only [if_true, finP]
   refine rgn [] [[], [], [], [6, 37]] ?_
   iterate 4 refine op1 tok ?_
   refine runEnd ?_
   refine cnd ?_ ?_
   ·intro h37
    try simp at h37
    rw [if_pos (by omega)]
    refine rgn [] [[], []] ?_
    iterate 2 refine op1 tok ?_
    refine runEnd ?_
    exact AW.ret ⟨.inr rfl, _, _, by (conv => lhs; simp), trivial, by simp⟩
   ·intro h37
    try simp at h37
    rw [if_neg (by omega)]
    refine AW.skip ?_
    refine rgn [] [[], [], [2, 3]] ?_
    iterate 3 refine op1 tok ?_
    refine runEnd ?_
    exact AW.ret ⟨.inr rfl, _, _, by (conv => lhs; simp), trivial, by simp⟩
theorem printS_take {l : List Step} {k : Nat} {t : Step} (h : l[k]? = some t) : printS (l.take (k + 1)) = printS (l.take k) ++ writtenT t := by
 simp [printS, List.take_add_one, h]
theorem flat_le {l : List Step} (h : l.all mayM = true) : (l.flatMap writtenT).length ≤ 200 * l.length := by
 induction l with
 | nil => simp
 | cons t l ih =>
  simp only [List.all_cons, Bool.and_eq_true] at h
  have := written_le h.1
  have := ih h.2
  simp only [List.flatMap_cons, List.length_append, List.length_cons]; omega
theorem printB_ev (hP : PW G) (l : List Step) (ha : l.all mayM = true) (hl : l.length ≤ 1000000) : AFn Tryz.prog G 50 [.sl 3 (l.map Step.enc)] (.str (printS l)) := by
 refine AFn.introU tok Tryz.func50 (by kernel_rfl) rfl rfl ?_
 simp only [Tryz.f50, enumA, List.map_cons, List.map_nil]
 refine rgn [] [[0]] ?_
 refine op1 tok ?_
 refine runEnd ?_
 refine rgn [] [[]] ?_
 refine op1 tok ?_
 refine runEnd ?_
 refine AW.seq ?_
 refine rgn [] [[], [], [3, 6, 7, 8]] ?_
 iterate 3 refine op1 tok ?_
 refine runEnd ?_
 refine AW.block ?_
 refine AW.loop (α := Nat) (fun k => k ≤ l.length) (fun k => ⟨upds 18 [(3, .p (.str (printS (l.take k)))), (6, .p (.sl 3 (l.map Step.enc))), (7, .p (.int .i64 l.length)), (8, .p (.int .i64 k))], [], [], 0⟩) (fun k => l.length - k) (0) (by omega) ⟨upds_le (by simp [printS]), rfl, by simp, by simp⟩ ?_
 rintro k hk
 refine rgn [] [[]] ?_
 refine op1 tok ?_
 refine runEnd ?_
 refine AW.seq ?_
 refine cnd ?_ ?_
 ·intro h9
  try simp at h9
  obtain ⟨t, ht⟩ : ∃ t, l[k]? = some t := ⟨l[k], by simp [h9]⟩
  have hmt := List.all_eq_true.1 ha t (List.mem_of_getElem? ht)
  have hw := writtenB_ev hP t hmt
  have hwl := written_le hmt
  have hpl : (printS (l.take k)).length ≤ 200 * k + 1 := by
   have := flat_le (l := l.take k) (List.all_eq_true.2 fun x hx => List.all_eq_true.1 ha x (List.mem_of_mem_take hx))
   simp only [printS, List.length_cons, List.length_take] at this ⊢; omega
  have hsn := printS_take ht
  simp at hw
  generalize writtenT t = w at *
  generalize printS (l.take k) = p at *
  refine AW.skip ?_
  refine AW.seq ?_
  refine AW.block ?_
  refine rgn [t.enc] [[], [], [], [3, 5, 6, 7, 8]] ?_
  iterate 4 refine op1 tok ?_ (hv := by first | with_reducible exact True.intro | (simp [ht]; done) | omega | simp | (simp; omega) | (simp +contextual; omega))
  refine runEnd ?_
  refine rgz [.nilp, .str w] [[], [], [], [6, 7, 8, 15], [3, 6, 7, 8]] ?_
  iterate 5 refine op1 tok ?_ (hv := by first | with_reducible exact True.intro | (first | exact hw | (simp; omega); done) | omega | simp | (simp; omega) | (simp +contextual; omega))
  refine runEnd ?_
  refine rgz [] [[], [3, 6, 7, 8]] ?_
  iterate 2 refine op1 tok ?_
  refine runEnd ?_
  exact ⟨k + 1, by omega, by omega, upds_le (by simp [hsn]), rfl, by simp [hsn], by simp [hsn]⟩
 ·intro h9
  try simp at h9
  rw [List.take_of_length_le h9]
  refine AW.exit ?_
  simp
  refine rgn [] [[], [2]] ?_
  iterate 2 refine op1 tok ?_
  refine runEnd ?_
  exact AW.ret ⟨.inr rfl, _, _, by (conv => lhs; simp), trivial, by simp⟩
end Go.Proofs.YtdjjmppnnkkloaaGreatDoor
namespace Go.Proofs
open Go.Shelf
def Tryz.laysC172_ren : Go.Shelf.Ren := ⟨fun | 172 => 110 | 244 => 129 | 245 => 130 | 247 => 149 | 279 => 150 | 280 => 151 | 281 => 152 | 282 => 153 | 287 => 165 | 316 => 166 | 171 => 52 | 205 => 167 | 321 => 172 | 322 => 173 | 243 => 90 | 246 => 120 | 283 => 142 | 284 => 143 | 285 => 144 | 286 => 145 | 129 => 160 | 317 => 159 | 318 => 161 | 319 => 162 | 320 => 163 | 337 => 170 | 338 => 171 | n => n, fun | 9 => 9 | 3 => 3 | 75 => 114 | 76 => 116 | 4 => 4 | 5 => 5 | 167 => 169 | 37 => 110 | 0 => 0 | 85 => 170 | 2 => 2 | 168 => 172 | 53 => 37 | 175 => 183 | 46 => 119 | 210 => 186 | 127 => 147 | 145 => 193 | 143 => 191 | 21 => 21 | 171 => 163 | 173 => 166 | 212 => 178 | 51 => 162 | 20 => 20 | 213 => 179 | 232 => 195 | 233 => 196 | 80 => 120 | n => n, fun | 15 => 4 | 16 => 5 | 17 => 3 | 18 => 6 | 19 => 7 | n => n⟩
theorem Tryz.laysC172 : Go.Proofs.LaysC.n172 Tryz.prog Tryz.laysC172_ren := {
 mixed := by kernel_rfl
 f129 := Tryz.func160.trans (congrArg some (by kernel_rfl))
 f171 := Tryz.func52.trans (congrArg some (by kernel_rfl))
 f172 := Tryz.func110.trans (congrArg some (by kernel_rfl))
 f205 := Tryz.func167.trans (congrArg some (by kernel_rfl))
 f243 := Tryz.func90.trans (congrArg some (by kernel_rfl))
 f244 := Tryz.func129.trans (congrArg some (by kernel_rfl))
 f245 := Tryz.func130.trans (congrArg some (by kernel_rfl))
 f246 := Tryz.func120.trans (congrArg some (by kernel_rfl))
 f247 := Tryz.func149.trans (congrArg some (by kernel_rfl))
 f279 := Tryz.func150.trans (congrArg some (by kernel_rfl))
 f280 := Tryz.func151.trans (congrArg some (by kernel_rfl))
 f281 := Tryz.func152.trans (congrArg some (by kernel_rfl))
 f282 := Tryz.func153.trans (congrArg some (by kernel_rfl))
 f283 := Tryz.func142.trans (congrArg some (by kernel_rfl))
 f284 := Tryz.func143.trans (congrArg some (by kernel_rfl))
 f285 := Tryz.func144.trans (congrArg some (by kernel_rfl))
 f286 := Tryz.func145.trans (congrArg some (by kernel_rfl))
 f287 := Tryz.func165.trans (congrArg some (by kernel_rfl))
 f316 := Tryz.func166.trans (congrArg some (by kernel_rfl))
 f317 := Tryz.func159.trans (congrArg some (by kernel_rfl))
 f318 := Tryz.func161.trans (congrArg some (by kernel_rfl))
 f319 := Tryz.func162.trans (congrArg some (by kernel_rfl))
 f320 := Tryz.func163.trans (congrArg some (by kernel_rfl))
 f321 := Tryz.func172.trans (congrArg some (by kernel_rfl))
 f322 := Tryz.func173.trans (congrArg some (by kernel_rfl))
 f337 := Tryz.func170.trans (congrArg some (by kernel_rfl))
 f338 := Tryz.func171.trans (congrArg some (by kernel_rfl))
 t0 := Tryz.underlying0
 a0 := Tryz.isAgg0
 z0 := Tryz.sizeOf0
 v0 := Tryz.zeroValue0
 t2 := Tryz.underlying2
 a2 := Tryz.isAgg2
 z2 := Tryz.sizeOf2
 v2 := Tryz.zeroValue2
 t3 := Tryz.underlying3
 a3 := Tryz.isAgg3
 z3 := Tryz.sizeOf3
 v3 := Tryz.zeroValue3
 t4 := Tryz.underlying4
 a4 := Tryz.isAgg4
 z4 := Tryz.sizeOf4
 v4 := Tryz.zeroValue4
 t5 := Tryz.underlying5
 a5 := Tryz.isAgg5
 z5 := Tryz.sizeOf5
 v5 := Tryz.zeroValue5
 t9 := Tryz.underlying9
 a9 := Tryz.isAgg9
 z9 := Tryz.sizeOf9
 v9 := Tryz.zeroValue9
 t20 := Tryz.underlying20
 a20 := Tryz.isAgg20
 z20 := Tryz.sizeOf20
 v20 := Tryz.zeroValue20
 t21 := Tryz.underlying21
 a21 := Tryz.isAgg21
 z21 := Tryz.sizeOf21
 v21 := Tryz.zeroValue21
 t37 := Tryz.underlying110
 a37 := Tryz.isAgg110
 z37 := Tryz.sizeOf110
 v37 := Tryz.zeroValue110
 t46 := Tryz.underlying119
 a46 := Tryz.isAgg119
 z46 := Tryz.sizeOf119
 v46 := Tryz.zeroValue119
 t51 := Tryz.underlying162
 a51 := Tryz.isAgg162
 z51 := Tryz.sizeOf162
 v51 := Tryz.zeroValue162
 t53 := Tryz.underlying37
 a53 := Tryz.isAgg37
 z53 := Tryz.sizeOf37
 v53 := Tryz.zeroValue37
 t75 := Tryz.underlying114
 a75 := Tryz.isAgg114
 z75 := Tryz.sizeOf114
 v75 := Tryz.zeroValue114
 t76 := Tryz.underlying116
 a76 := Tryz.isAgg116
 z76 := Tryz.sizeOf116
 v76 := Tryz.zeroValue116
 t85 := Tryz.underlying170
 a85 := Tryz.isAgg170
 z85 := Tryz.sizeOf170
 v85 := Tryz.zeroValue170
 t127 := Tryz.underlying147
 a127 := Tryz.isAgg147
 z127 := Tryz.sizeOf147
 v127 := Tryz.zeroValue147
 t143 := Tryz.underlying191
 a143 := Tryz.isAgg191
 z143 := Tryz.sizeOf191
 v143 := Tryz.zeroValue191
 t145 := Tryz.underlying193
 a145 := Tryz.isAgg193
 z145 := Tryz.sizeOf193
 v145 := Tryz.zeroValue193
 t167 := Tryz.underlying169
 a167 := Tryz.isAgg169
 z167 := Tryz.sizeOf169
 v167 := Tryz.zeroValue169
 t168 := Tryz.underlying172
 a168 := Tryz.isAgg172
 z168 := Tryz.sizeOf172
 v168 := Tryz.zeroValue172
 t171 := Tryz.underlying163
 a171 := Tryz.isAgg163
 z171 := Tryz.sizeOf163
 v171 := Tryz.zeroValue163
 t173 := Tryz.underlying166
 a173 := Tryz.isAgg166
 z173 := Tryz.sizeOf166
 v173 := Tryz.zeroValue166
 t175 := Tryz.underlying183
 a175 := Tryz.isAgg183
 z175 := Tryz.sizeOf183
 v175 := Tryz.zeroValue183
 t210 := Tryz.underlying186
 a210 := Tryz.isAgg186
 z210 := Tryz.sizeOf186
 v210 := Tryz.zeroValue186
 t212 := Tryz.underlying178
 a212 := Tryz.isAgg178
 z212 := Tryz.sizeOf178
 v212 := Tryz.zeroValue178
 t213 := Tryz.underlying179
 a213 := Tryz.isAgg179
 z213 := Tryz.sizeOf179
 t232 := Tryz.underlying195
 a232 := Tryz.isAgg195
 z232 := Tryz.sizeOf195
 v232 := Tryz.zeroValue195
 t233 := Tryz.underlying196
 a233 := Tryz.isAgg196
 z233 := Tryz.sizeOf196
 v233 := Tryz.zeroValue196
 g15 := by kernel_rfl
 g16 := by kernel_rfl
 g17 := by kernel_rfl
 g18 := by kernel_rfl
 g19 := by kernel_rfl
 t80 := Tryz.underlying120
 a80 := Tryz.isAgg120
 z80 := Tryz.sizeOf120
 v80 := Tryz.zeroValue120
 i0 := by kernel_rfl
 i2 := by kernel_rfl
 i3 := by kernel_rfl
 i4 := by kernel_rfl
 i5 := by kernel_rfl
 i9 := by kernel_rfl
 i20 := by kernel_rfl
 i21 := by kernel_rfl
 i37 := by kernel_rfl
 i46 := by kernel_rfl
 i51 := by kernel_rfl
 i53 := by kernel_rfl
 i75 := by kernel_rfl
 i76 := by kernel_rfl
 i80 := by kernel_rfl
 i85 := by kernel_rfl
 i127 := by kernel_rfl
 i143 := by kernel_rfl
 i145 := by kernel_rfl
 i167 := by kernel_rfl
 i168 := by kernel_rfl
 i171 := by kernel_rfl
 i173 := by kernel_rfl
 i175 := by kernel_rfl
 i210 := by kernel_rfl
 i212 := by kernel_rfl
 i232 := by kernel_rfl
 i233 := by kernel_rfl
 m15 := by kernel_rfl
 m16 := by kernel_rfl
 m17 := by kernel_rfl
 m18 := by kernel_rfl
 m19 := by kernel_rfl
 c0 := by kernel_rfl
 c2 := by kernel_rfl
 c3 := by kernel_rfl
 c4 := by kernel_rfl
 c5 := by kernel_rfl
 c9 := by kernel_rfl
 c20 := by kernel_rfl
 c21 := by kernel_rfl
 c37 := by kernel_rfl
 c46 := by kernel_rfl
 c51 := by kernel_rfl
 c53 := by kernel_rfl
 c75 := by kernel_rfl
 c76 := by kernel_rfl
 c80 := by kernel_rfl
 c85 := by kernel_rfl
 c127 := by kernel_rfl
 c143 := by kernel_rfl
 c145 := by kernel_rfl
 c167 := by kernel_rfl
 c168 := by kernel_rfl
 c171 := by kernel_rfl
 c173 := by kernel_rfl
 c175 := by kernel_rfl
 c210 := by kernel_rfl
 c212 := by kernel_rfl
 c213 := by kernel_rfl
 c232 := by kernel_rfl
 c233 := by kernel_rfl }
end Go.Proofs
namespace Go.Proofs.YtdjjmppnnkkloaaGreatDoor
open Sy Go
set_option linter.unusedVariables false
variable {G : Glob}
def HasErr (g1 g2 : Nat) (G : Glob) : Prop := G g1 = some [.err] ∧ G g2 = some [.err]
abbrev PE (G : Glob) : Prop := HasErr 4 5 G
def atoiT (s : List UInt8) : Int × PD := match Lib.atoiAll s with
 | .ok v => (v, .noerr)
 | .range => (Lib.atoiSat s, .err)
 | _ => (0, .err)
theorem err_cell {g : Nat} {M : FMap} {w : World} (hG : G g = some [.err]) (hg : GOK G M w) (hmem : ∀ b o v, M b o = some v → w.cell? ⟨b, o, none⟩ = some v) : ∃ t p, w.cell? ⟨g, 0, none⟩ = some (.iface t p) := by
 obtain ⟨h1, h2⟩ := hg.1 g _ hG
 obtain ⟨u, hu, _⟩ := h1 0 .err rfl
 have := h2 0 .err u rfl hu
 cases this
 exact ⟨_, _, hmem _ _ _ hu⟩
theorem Atoi_ev (hE : PE G) (s : List UInt8) (hs : s.length ≤ 281474976710656) : AFn Tryz.prog G 110 [.str s] (.tup [.int .i64 (atoiT s).1, (atoiT s).2]) := by
 refine AFn.of_calls (callable_of Tryz.func110 (by kernel_rfl) rfl) fun M w vs hg hmem hsz hrd => ?_
 obtain ⟨b, rfl, hb, hm⟩ := arg_str hsz hrd
 have hbs : b.size = s.length := str_size hb
 obtain ⟨t1, p1, hc1⟩ := err_cell hE.1 hg hmem
 obtain ⟨t2, p2, hc2⟩ := err_cell hE.2 hg hmem
 have two : ∀ (u : Value) (v : Int) (d : PD), Rd M (.int .i64 v) (.int .i64 v) → Rd M u d → Rd M (.tuple #[.int .i64 v, u]) (.tup [.int .i64 v, d]) := by
  intro u v d h1 h2
  refine .tup rfl fun i x y hx hy => ?_
  match i with
  | 0 => simp at hx hy; subst hx; subst hy; exact h1
  | 1 => simp at hx hy; subst hx; subst hy; exact h2
  | i + 2 => simp at hx
 have hsat := Lib.atoiSat_bounds s
 rcases h : Lib.atoiAll s with v | _ | _
 ·have hv := Lib.atoiAll_bounds h
  have ht : atoiT s = (v, .noerr) := by unfold atoiT; rw [h]
  rw [ht]
  refine (Any.strconv_Atoi_ok Tryz.laysC172 b (by omega) v (by rw [hb]; exact h) w).mono ?_
  rintro e w' ⟨rfl, hW⟩
  refine ⟨_, rfl, two _ _ _ (Rd.intOf (by simp only [kmin]; omega) (by simp only [kmax]; omega)) .noerr, ?_⟩
  rcases hW with rfl | ⟨t, rfl⟩
  ·exact RowKit.Below.refl _ _
  ·exact Lib.bytesWorld_below _ _ _
 ·have ht : atoiT s = (0, .err) := by unfold atoiT; rw [h]
  rw [ht]
  refine (Any.strconv_Atoi_syntax Tryz.laysC172 b (by omega) (by rw [hb]; exact h) _ w hc1 (.inr ⟨_, _, rfl⟩)).mono ?_
  rintro e w' ⟨N, rfl, _, _, hB⟩
  exact ⟨_, rfl, two _ _ _ (Rd.intOf (by simp [kmin]) (by simp [kmax])) .err, hB⟩
 ·have ht : atoiT s = (Lib.atoiSat s, .err) := by unfold atoiT; rw [h]
  rw [ht]
  refine (Any.strconv_Atoi_range Tryz.laysC172 b (by omega) (by rw [hb]; exact h) _ w hc2 (.inr ⟨_, _, rfl⟩)).mono ?_
  rintro e w' ⟨N, rfl, _, _, hB⟩
  rw [hb]
  exact ⟨_, rfl, two _ _ _ (Rd.intOf (by simp only [kmin]; omega) (by simp only [kmax]; omega)) .err, hB⟩
end Go.Proofs.YtdjjmppnnkkloaaGreatDoor
namespace Go.Proofs.YtdjjmppnnkkloaaGreatDoor
open Sy Go
set_option linter.unusedSimpArgs false
set_option linter.unusedVariables false
structure Mk where
 path : List Step
 mask : Int
 deriving DecidableEq
structure Pol where
 cats : List (List UInt8)
 marks : List Mk
 token : List UInt8
 fuel : Int
 quota : Int
 deriving DecidableEq
@[simp] def Mk.enc (m : Mk) : PD := .agg [.sl 3 (m.path.map Step.enc), .int .u64 m.mask]
@[simp] def Pol.enc (p : Pol) : PD := .agg [.sl 1 (p.cats.map PD.str), .sl 2 (p.marks.map Mk.enc), .str p.token, .int .i64 p.fuel, .int .i64 p.quota]
def pol0 : Pol := ⟨[], [], [], 0, 0⟩
def fuelM (n : Int) : Bool := decide (1 ≤ n) && decide (n ≤ 100000)
def badM (n : Nat) (m : Int) : Bool := decide (m = 0) || (decide ((n : Int) < 64) && decide (m / 2 ^ n ≠ 0))
def marksM (n : Nat) : List Mk → Int
 | [] => 0
 | m :: r => if mayL m.path ≠ 0 then mayL m.path else if badM n m.mask = true then 22 else marksM n r
def polMay (p : Pol) : Int :=
 if catsMayM p.cats ≠ 0 then catsMayM p.cats else if 16 < p.marks.length then 3 else if marksM p.cats.length p.marks ≠ 0 then marksM p.cats.length p.marks
 else if 24 < p.token.length ∨ Lib.validD p.token = false ∨ fuelM p.fuel = false ∨ fuelM p.quota = false then 22 else 0
def kwCats : List UInt8 := [99, 97, 116, 115]
def kwMark : List UInt8 := [109, 97, 114, 107]
def kwToken : List UInt8 := [116, 111, 107, 101, 110]
def kwFuel : List UInt8 := [102, 117, 101, 108]
def kwQuota : List UInt8 := [113, 117, 111, 116, 97]
def rowT (ws : List (List UInt8)) : List UInt8 := Lib.join ws [32] ++ [10]
def markT (cats : List (List UInt8)) (m : Mk) : List UInt8 := rowT [kwMark, namesT cats m.mask, printS m.path]
def headT (p : Pol) (k : Nat) : List UInt8 := rowT (kwCats :: p.cats) ++ (p.marks.take k).flatMap (markT p.cats)
def polPrint (p : Pol) : List UInt8 := headT p p.marks.length ++ rowT [kwToken, quoteT p.token] ++ rowT [kwFuel, Lib.itoa p.fuel] ++ rowT [kwQuota, Lib.itoa p.quota]
def isErr : PD → Bool
 | .noerr => false
 | _ => true
def numberM (s : List UInt8) : Int := if isErr (atoiT s).2 = true ∨ fuelM (atoiT s).1 = false then 0 else (atoiT s).1
def lineM (p : Pol) (s : List UInt8) : Pol × Bool :=
 let w := (cutB 32 s).1
 let rest := (cutB 32 s).2.1
 if w = kwCats then ({ p with cats := (splitB 32 rest).filter (fun x => !decide (x = [])) }, decide (catsMayM ((splitB 32 rest).filter (fun x => !decide (x = []))) = 0))
 else if w = kwMark then ({ p with marks := p.marks ++ [⟨(parseT (36 :: (cutB 36 rest).2.1)).1, (maskT p.cats (cutB 36 rest).1).1⟩] }, (cutB 36 rest).2.2 && decide ((maskT p.cats (cutB 36 rest).1).2 = 0) && decide ((parseT (36 :: (cutB 36 rest).2.1)).2 = 0))
 else if w = kwToken then ({ p with token := (unquoteT rest).1 }, decide ((unquoteT rest).2.2 = 0))
 else if w = kwFuel then ({ p with fuel := numberM rest }, true)
 else if w = kwQuota then ({ p with quota := numberM rest }, true)
 else (p, false)
def stepP (a : Pol × Bool) (l : List UInt8) : Pol × Bool := if a.2 = true then lineM a.1 l else a
def readP (s : List UInt8) : Pol × Bool := (splitB 10 (cutEnd 10 s)).foldl stepP (pol0, true)
def polParse (s : List UInt8) : Pol × Int := if (readP s).2 = true ∧ polMay (readP s).1 = 0 ∧ polPrint (readP s).1 = s then ((readP s).1, 0) else (pol0, 22)
theorem may_cats {cats : List (List UInt8)} (h : catsMayM cats = 0) : cats.length ≤ 64 ∧ cats.Nodup ∧ cats.all mayNameM = true := by
 unfold catsMayM at h
 split at h
 ·cases h
 ·split at h
  ·rename_i h1 h2
   simp only [Bool.and_eq_true, decide_eq_true_eq] at h2
   exact ⟨by omega, h2.1, h2.2⟩
  ·cases h
theorem name_le {s : List UInt8} (h : mayNameM s = true) : s.length ≤ 24 := by
 unfold mayNameM at h
 simp only [Bool.and_eq_true, decide_eq_true_eq] at h
 exact h.2.1
theorem cats_le {cats : List (List UInt8)} (h : catsMayM cats = 0) : ∀ c ∈ cats, c.length ≤ 24 := fun c hc => name_le (List.all_eq_true.1 (may_cats h).2.2 c hc)
theorem marks_may {n : Nat} : ∀ {l : List Mk}, marksM n l = 0 → ∀ m ∈ l, mayL m.path = 0 ∧ badM n m.mask = false
 | [], _, m, hm => by cases hm
 | x :: l, h, m, hm => by
  simp only [marksM] at h
  split at h
  ·rename_i h1; exact absurd h h1
  ·rename_i h1
   split at h
   ·cases h
   ·rename_i h2
    rcases List.mem_cons.1 hm with rfl | hm
    ·exact ⟨by simpa using h1, by simpa using h2⟩
    ·exact marks_may h m hm
theorem may_zeroL {l : List Step} (h : mayL l = 0) : l.all mayM = true ∧ l.length ≤ 8 := by
 unfold mayL at h
 split at h
 ·cases h
 ·split at h
  ·rename_i h1 h2; exact ⟨h2, by omega⟩
  ·cases h
structure PolOK (p : Pol) : Prop where
 cats : catsMayM p.cats = 0
 few : p.marks.length ≤ 16
 marks : marksM p.cats.length p.marks = 0
 token : p.token.length ≤ 24 ∧ Lib.validD p.token = true
 fuel : 1 ≤ p.fuel ∧ p.fuel ≤ 100000
 quota : 1 ≤ p.quota ∧ p.quota ≤ 100000
theorem may_pol {p : Pol} : polMay p = 0 ↔ PolOK p := by
 unfold polMay
 constructor
 ·intro h
  split at h
  ·rename_i h1; exact absurd h h1
  rename_i h1
  split at h
  ·cases h
  rename_i h2
  split at h
  ·rename_i h3; exact absurd h h3
  rename_i h3
  split at h
  ·cases h
  rename_i h4
  simp only [not_or, Bool.not_eq_false] at h4
  obtain ⟨g1, g2, g3, g4⟩ := h4
  simp only [fuelM, Bool.and_eq_true, decide_eq_true_eq] at g3 g4
  exact ⟨by simpa using h1, by omega, by simpa using h3, ⟨by omega, g2⟩, g3, g4⟩
 ·rintro ⟨h1, h2, h3, h4, h5, h6⟩
  rw [if_neg (by simp [h1]), if_neg (by omega), if_neg (by simp [h3]), if_neg]
  simp only [not_or, Bool.not_eq_false, fuelM, Bool.and_eq_true, decide_eq_true_eq]
  exact ⟨by omega, h4.2, h5, h6⟩
theorem names_le {cats : List (List UInt8)} (h : catsMayM cats = 0) (m : Int) : (namesT cats m).length ≤ 1600 := by
 unfold namesT
 have h1 := joinN_le 24 (pickC cats 0 m) fun x hx => cats_le h x (pick_sub hx)
 have h2 := pick_le m cats 0
 have h3 := (may_cats h).1
 have : (pickC cats 0 m).length * 25 ≤ 64 * 25 := Nat.mul_le_mul_right _ (by omega)
 omega
theorem row_len (ws : List (List UInt8)) (b : Nat) (h : ∀ x ∈ ws, x.length ≤ b) : (rowT ws).length ≤ ws.length * (b + 1) + 1 := by
 have := joinN_le b ws h
 simp only [rowT, List.length_append, List.length_cons, List.length_nil]; omega
theorem path_le {l : List Step} (h : mayL l = 0) : (printS l).length ≤ 1601 := by
 have hz := may_zeroL h
 have := flat_le hz.1
 simp only [printS, List.length_cons]; omega
theorem mark_le {cats : List (List UInt8)} (h : catsMayM cats = 0) {m : Mk} (hm : mayL m.path = 0) : (markT cats m).length ≤ 5000 := by
 have h1 := names_le h m.mask
 have h2 := path_le hm
 have := row_len [kwMark, namesT cats m.mask, printS m.path] 1601 (by
  intro x hx
  simp only [List.mem_cons, List.not_mem_nil, or_false] at hx
  rcases hx with rfl | rfl | rfl
  ·simp [kwMark]
  ·omega
  ·exact h2)
 simp only [List.length_cons, List.length_nil] at this
 unfold markT; omega
theorem catsrow_le {cats : List (List UInt8)} (h : catsMayM cats = 0) : (rowT (kwCats :: cats)).length ≤ 2000 := by
 have h1 := (may_cats h).1
 have := row_len (kwCats :: cats) 24 (by
  intro x hx
  rcases List.mem_cons.1 hx with rfl | hx
  ·simp [kwCats]
  ·exact cats_le h x hx)
 simp only [List.length_cons] at this; omega
theorem head_le {p : Pol} (h : PolOK p) (k : Nat) : (headT p k).length ≤ 2000 + 5000 * p.marks.length := by
 have h1 := catsrow_le h.cats
 have key : ∀ l : List Mk, (∀ m ∈ l, mayL m.path = 0) → (l.flatMap (markT p.cats)).length ≤ 5000 * l.length := by
  intro l
  induction l with
  | nil => simp
  | cons m l ih =>
   intro hl
   have := mark_le h.cats (hl m (by simp))
   have := ih fun x hx => hl x (by simp [hx])
   simp only [List.flatMap_cons, List.length_append, List.length_cons]; omega
 have h2 := key (p.marks.take k) fun m hm => (marks_may h.marks m (List.mem_of_mem_take hm)).1
 have h3 : (p.marks.take k).length ≤ p.marks.length := by simp; omega
 simp only [headT, List.length_append]; omega
theorem head_snoc {p : Pol} {k : Nat} {m : Mk} (h : p.marks[k]? = some m) : headT p (k + 1) = headT p k ++ markT p.cats m := by
 simp [headT, List.take_add_one, h]
end Go.Proofs.YtdjjmppnnkkloaaGreatDoor
namespace Go.Proofs.YtdjjmppnnkkloaaGreatDoor
open Sy Go
set_option maxRecDepth 100000
set_option maxHeartbeats 4000000
set_option linter.unusedSimpArgs false
set_option linter.unusedVariables false
variable {G : Glob}
def idxI (p : List UInt8 → Bool) (l : List (List UInt8)) : Int := match l.findIdx? p with
 | none => -1
 | some i => i
theorem idxI_at {p : List UInt8 → Bool} {l : List (List UInt8)} {k : Nat} {s : List UInt8} (hs : l[k]? = some s) (hall : ((l.take k).all fun s => !p s) = true) (hp : p s = true) : idxI p l = k := by
 have h : l.findIdx? p = some k := by
  rw [List.findIdx?_eq_some_iff_getElem]
  obtain ⟨hk, rfl⟩ := List.getElem?_eq_some_iff.1 hs
  refine ⟨hk, hp, fun j hj => ?_⟩
  have := List.all_eq_true.1 hall l[j] (List.mem_of_getElem? (i := j) (by rw [List.getElem?_take, if_pos hj]; simp [show j < l.length by omega]))
  simpa using this
 unfold idxI; rw [h]
theorem idxI_no {p : List UInt8 → Bool} {l : List (List UInt8)} (hall : (l.all fun s => !p s) = true) : idxI p l = -1 := by
 have h : l.findIdx? p = none := by
  rw [List.findIdx?_eq_none_iff]
  intro x hx
  have := List.all_eq_true.1 hall x hx
  simpa using this
 unfold idxI; rw [h]
theorem idxI_some {p : List UInt8 → Bool} {l : List (List UInt8)} (h : idxI p l ≠ -1) : ∃ (k : Nat) (s : List UInt8), idxI p l = k ∧ l[k]? = some s ∧ ((l.take k).all fun s => !p s) = true ∧ p s = true := by
 unfold idxI at h ⊢
 cases e : l.findIdx? p with
 | none => rw [e] at h; exact absurd rfl h
 | some k =>
  rw [List.findIdx?_eq_some_iff_getElem] at e
  obtain ⟨hk, hp, hn⟩ := e
  refine ⟨k, l[k], rfl, by simp [hk], List.all_eq_true.2 fun x hx => ?_, hp⟩
  obtain ⟨j, hj⟩ := List.mem_iff_getElem?.1 hx
  rw [List.getElem?_take] at hj
  split at hj
  ·rename_i hjk
   obtain ⟨_, rfl⟩ := List.getElem?_eq_some_iff.1 hj
   simpa using hn j hjk
  ·cases hj
theorem idxI_none {p : List UInt8 → Bool} {l : List (List UInt8)} (h : idxI p l = -1) : (l.all fun s => !p s) = true := by
 unfold idxI at h
 cases e : l.findIdx? p with
 | none =>
  rw [List.findIdx?_eq_none_iff] at e
  exact List.all_eq_true.2 fun x hx => by simpa using e x hx
 | some k => rw [e] at h; simp only at h; omega
theorem idxS_ax (g : FuncId) (p : List UInt8 → Bool) (l : List (List UInt8)) (hg : ∀ s : List UInt8, AFn Tryz.prog G g [.str s] (.bool (p s))) (hl : l.length ≤ 1000000000) : AX Tryz.prog G 102 [.ms 930, .p (.fn g)] [(930, .row 9 1 (l.map PD.str))] (.p (.int .i64 (idxI p l))) [930] [(930, .row 9 1 (l.map PD.str))] := by
 refine AX.introU tok 300 Tryz.func102 (by kernel_rfl) rfl rfl ?_
 simp only [Tryz.f102, enumA, List.map_cons, List.map_nil]
 refine rgn [] [[0, 1]] ?_
 refine op1 tok ?_
 refine runEnd ?_
 refine AW.seq ?_
 refine rgn [] [[], [], [0, 1, 7, 8]] ?_
 iterate 3 refine op1 tok ?_
 refine runEnd ?_
 refine AW.block ?_
 refine AW.loop (α := Nat) (fun k => k ≤ l.length ∧ ((l.take k).all fun s => !p s) = true) (fun k => ⟨upds 19 [(0, .ms 930), (1, .p (.fn g)), (7, .p (.int .i64 l.length)), (8, .p (.int .i64 k))], [930], [(930, .row 9 1 (l.map PD.str))], 300⟩) (fun k => l.length - k) (0) ⟨by omega, rfl⟩ ⟨upds_le (by simp), rfl, by simp, by simp⟩ ?_
 rintro k ⟨hk, hall⟩
 refine rgn [] [[]] ?_
 refine op1 tok ?_
 refine runEnd ?_
 refine AW.seq ?_
 refine cnd ?_ ?_
 ·intro h9
  try simp at h9
  obtain ⟨s, hs⟩ : ∃ s, l[k]? = some s := ⟨l[k], by simp [h9]⟩
  have hgs := hg s
  refine AW.skip ?_
  refine AW.seq ?_
  refine AW.block ?_
  refine rgn [] [[], [0, 1, 5, 7, 8]] ?_
  iterate 2 refine op1 tok ?_
  refine runEnd ?_
  refine rgn [.str s, .nilp, .bool (p s)] [[], [], [], [], [], [0, 1, 5, 7, 8, 16]] ?_
  iterate 6 refine op1 tok ?_ (hv := by first | with_reducible exact True.intro | (first | exact hgs | (simp [hs]; done) | (simp [hs]; omega); done) | omega | simp | (simp; omega) | (simp +contextual; omega))
  refine runEnd ?_
  refine cnd ?_ ?_
  ·intro h16
   try simp at h16
   have hi := idxI_at hs hall h16
   refine rgn [] [[], [4]] ?_
   iterate 2 refine op1 tok ?_
   refine runEnd ?_
   exact AW.ret ⟨.inr rfl, _, _, by (conv => lhs; simp), trivial, by simp [hi], by simp, by simp, by simp⟩
  ·intro h16
   try simp at h16
   refine AW.skip ?_
   refine rgz [] [[], [0, 1, 7, 8]] ?_
   iterate 2 refine op1 tok ?_
   refine runEnd ?_
   exact ⟨k + 1, ⟨by omega, by rw [List.take_add_one, hs, List.all_append, hall]; simp [h16]⟩, by omega, upds_le (by simp), rfl, by simp, by simp⟩
 ·intro h9
  try simp at h9
  rw [List.take_of_length_le h9] at hall
  have hi := idxI_no hall
  refine AW.exit ?_
  simp
  refine rgn [] [[]] ?_
  refine op1 tok ?_
  refine runEnd ?_
  exact AW.ret ⟨.inr rfl, _, _, by (conv => lhs; simp), trivial, by simp [hi], by simp, by simp, by simp⟩
def rowD (F J C : List (List UInt8)) : List PD := F.map PD.str ++ (J.map PD.str ++ C.map PD.str)
@[simp] theorem rowD_len (F J C : List (List UInt8)) : (rowD F J C).length = F.length + (J.length + C.length) := by simp [rowD]
theorem rowD_get {F J C : List (List UInt8)} {j : Nat} {v : List UInt8} (h : F.length + J.length = j) : (rowD F J (v :: C))[j]? = some (.str v) := by
 unfold rowD
 rw [List.getElem?_append_right (by simp; omega), List.getElem?_append_right (by simp; omega)]
 simp only [List.length_map]
 rw [show j - F.length - J.length = 0 by omega]; simp
theorem rowD_get0 {F J C : List (List UInt8)} {x : List UInt8} : (rowD F (x :: J) C)[F.length]? = some (.str x) := by
 unfold rowD
 rw [List.getElem?_append_right (by simp)]; simp
theorem rowD_set {F J C : List (List UInt8)} {x v : List UInt8} : (rowD F (x :: J) (v :: C)).set F.length (.str v) = rowD (F ++ [v]) (J ++ [v]) C := by
 unfold rowD
 rw [List.set_append_right _ _ (by simp)]; simp
theorem rowD_skip {F J C : List (List UInt8)} {v : List UInt8} : rowD F J (v :: C) = rowD F (J ++ [v]) C := by simp [rowD]
theorem rowD_cut (F J C : List (List UInt8)) (r : List PD) : ((rowD F J C).take F.length ++ r).take F.length = F.map PD.str := by
 unfold rowD
 rw [List.take_append_of_le_length (by simp), List.take_of_length_le (by simp), List.take_append_of_le_length (by simp), List.take_of_length_le (by simp)]
theorem delS_ax (g : FuncId) (p : List UInt8 → Bool) (l : List (List UInt8)) (hg : ∀ s : List UInt8, AFn Tryz.prog G g [.str s] (.bool (p s))) (hl : l.length ≤ 1000000000) : AX Tryz.prog G 69 [.ms 930, .p (.fn g)] [(930, .row 9 1 (l.map PD.str))] (.ms 930) [] [(930, .row 9 1 ((l.filter fun s => !p s).map PD.str))] := by
 refine AX.introU tok 400 Tryz.func69 (by kernel_rfl) rfl rfl ?_
 simp only [Tryz.f69, enumA, List.map_cons, List.map_nil]
 refine rgn [] [[0, 1]] ?_
 refine op1 tok ?_
 refine runEnd ?_
 refine rgn [] [[], []] ?_
 iterate 2 refine op1 tok ?_
 refine runOff ?_
 refine AOpsO.stepK [0, 1, 10] (y_cx rfl (idxS_ax g p l hg hl) (by simp)) (by conv => lhs; simp) rfl ?_
 refine AOpsO.run [[0, 1, 5]] ?_
 refine op1 tok ?_
 refine runEnd ?_
 refine AW.seq ?_
 refine rgn [] [[], [0, 1, 5, 12]] ?_
 iterate 2 refine op1 tok ?_
 refine runEnd ?_
 refine cnd ?_ ?_
 ·intro h12
  try simp at h12
  have hall := idxI_none h12
  have hf : (l.filter fun s => !p s) = l := List.filter_eq_self.2 fun x hx => List.all_eq_true.1 hall x hx
  rw [hf]
  refine rgn [] [[], [4]] ?_
  iterate 2 refine op1 tok ?_
  refine runEnd ?_
  exact AW.ret ⟨.inr rfl, _, _, by (conv => lhs; simp), trivial, by simp, by simp, by simp, by simp⟩
 ·intro h12
  try simp at h12
  obtain ⟨i0, s0, hi0, hs0, hall0, hp0⟩ := idxI_some h12
  rw [hi0]
  have hi0l := (List.getElem?_eq_some_iff.1 hs0).1
  have hf0 : ((l.take (i0 + 1)).filter fun s => !p s) = l.take i0 := by
   rw [List.take_add_one, hs0, List.filter_append, List.filter_eq_self.2 fun x hx => List.all_eq_true.1 hall0 x hx]
   simp [hp0]
  have hrow0 : l.map PD.str = rowD ((l.take (i0 + 1)).filter fun s => !p s) [s0] (l.drop (i0 + 1)) := by
   have e : l = l.take i0 ++ s0 :: l.drop (i0 + 1) := by
    obtain ⟨h, rfl⟩ := List.getElem?_eq_some_iff.1 hs0
    rw [← List.drop_eq_getElem_cons h, List.take_append_drop]
   rw [hf0]
   conv => lhs; rw [e]
   simp [rowD]
  have hfl0 : ((l.take (i0 + 1)).filter fun s => !p s).length = i0 := by rw [hf0]; simp; omega
  refine AW.skip ?_
  refine AW.seq ?_
  refine rgn [] [[], [], [0, 1, 5, 6]] ?_
  iterate 3 refine op1 tok ?_
  refine runEnd ?_
  refine AW.block ?_
  refine AW.loop (α := Nat × List (List UInt8)) (fun a => a.1 ≤ l.length ∧ ((l.take a.1).filter fun s => !p s).length + a.2.length = a.1 ∧ 1 ≤ a.2.length) (fun a => ⟨upds 42 [(0, .ms 930), (1, .p (.fn g)), (5, .p (.int .i64 ((l.take a.1).filter fun s => !p s).length)), (6, .p (.int .i64 a.1))], [930], [(930, .row 9 1 (rowD ((l.take a.1).filter fun s => !p s) a.2 (l.drop a.1)))], 400⟩) (fun a => l.length - a.1) ((i0 + 1, [s0])) ⟨by simp only []; omega, by simp only [hfl0]; simp, by simp⟩ ⟨upds_le (by simp [hfl0]), rfl, by simp [← hrow0], by simp⟩ ?_
  rintro ⟨j, J⟩ ⟨hj, hlen, hJ⟩
  simp only at hj hlen hJ
  have hdl : (l.drop j).length = l.length - j := by simp
  generalize hF : ((l.take j).filter fun s => !p s) = F at *
  generalize hD : l.drop j = D at *
  refine AW.seq ?_
  refine rgn [] [[], [], [], [0, 1, 5, 6, 19]] ?_
  iterate 4 refine op1 tok ?_
  refine runEnd ?_
  refine cnd ?_ ?_
  ·intro h19
   try simp at h19
   obtain ⟨v, C, rfl⟩ : ∃ v C, D = v :: C := by
    cases D with
    | nil => simp only [List.length_nil] at hdl h19; omega
    | cons v C => exact ⟨v, C, rfl⟩
   obtain ⟨x, J, rfl⟩ : ∃ x J', J = x :: J' := by
    cases J with
    | nil => simp at hJ
    | cons x J => exact ⟨x, J, rfl⟩
   have hv : l[j]? = some v := by
    have := congrArg List.head? hD
    rwa [List.head?_drop] at this
   have hC : l.drop (j + 1) = C := by
    rw [← List.drop_drop, hD]; rfl
   have hgv := hg v
   have hget := rowD_get (C := C) (v := v) hlen
   have hset := rowD_set (F := F) (J := J) (C := C) (x := x) (v := v)
   have hget0 := rowD_get0 (F := F) (J := J) (C := v :: C) (x := x)
   have hF1 : ((l.take (j + 1)).filter fun s => !p s) = F ++ (if p v = true then [] else [v]) := by
    rw [List.take_add_one, hv, List.filter_append, hF]
    by_cases hp : p v = true <;> simp [hp]
   simp only [List.length_cons] at hdl hlen hJ
   refine AW.skip ?_
   refine AW.seq ?_
   refine AW.block ?_
   refine rgn [.str v] [[], [], [], [], [0, 1, 5, 6, 7]] ?_
   iterate 5 refine op1 tok ?_ (hv := by first | with_reducible exact True.intro | (first | exact ⟨_, hget, rfl⟩ | (simp [hget]; done) | (simp; omega); done) | omega | simp | (simp; omega) | (simp +contextual; omega))
   refine runEnd ?_
   refine rgn [.nilp, .bool (p v)] [[], [], [], [0, 1, 5, 6, 7, 29]] ?_
   iterate 4 refine op1 tok ?_ (hv := by first | with_reducible exact True.intro | (exact hgv; done) | omega | simp | (simp; omega) | (simp +contextual; omega))
   refine runEnd ?_
   refine cnd ?_ ?_
   ·intro h29
    try simp at h29
    refine rgn [.str x, .str v] [[], [], [], [], [0, 1, 5, 6]] ?_
    iterate 5 refine op1 tok ?_ (hv := by first | with_reducible exact True.intro | (first | (simp [hget0]; done) | (simp [hget0]; omega); done) | omega | simp | (simp; omega) | (simp +contextual; omega))
    refine runEnd ?_
    refine rgz [] [[], [], [0, 1, 5, 6]] ?_
    iterate 3 refine op1 tok ?_
    refine runEnd ?_
    refine rgz [] [[], [], [0, 1, 5, 6]] ?_
    iterate 3 refine op1 tok ?_
    refine runEnd ?_
    exact ⟨(j + 1, J ++ [v]), ⟨by simp only []; omega, by simp [hF1, h29]; omega, by simp⟩, by simp only []; omega, upds_le (by simp [hF1, h29, hC, hset]), rfl, by simp [hF1, h29, hC, hset], by simp [hF1, h29, hC, hset]⟩
   ·intro h29
    try simp at h29
    refine AW.skip ?_
    refine rgz [] [[], [], [0, 1, 5, 6]] ?_
    iterate 3 refine op1 tok ?_
    refine runEnd ?_
    exact ⟨(j + 1, (x :: J) ++ [v]), ⟨by simp only []; omega, by simp [hF1, h29]; omega, by simp⟩, by simp only []; omega, upds_le (by simp [hF1, h29, hC, rowD_skip]), rfl, by simp [hF1, h29, hC, rowD_skip], by simp [hF1, h29, hC, rowD_skip]⟩
  ·intro h19
   try simp at h19
   have hjl : j = l.length := by omega
   subst hjl
   rw [List.take_length] at hF
   rw [hF]
   have hcut := rowD_cut F J D
   refine AW.exit ?_
   simp
   refine rgn [] [[], []] ?_
   iterate 2 refine op1 tok ?_
   refine runOff ?_
   refine AOpsO.clearFrom tok [0, 5, 38] (e0 := .str []) F.length rfl rfl rfl rfl rfl rfl rfl rfl rfl rfl (by simp) (by conv => lhs; simp) trivial (by conv => lhs; simp) trivial (by conv => lhs; simp) rfl (by first | (simp; done) | (simp; omega)) (by omega) (by simp) ?_
   simp only [St.put, upds_set, insA, St.keep, upds_mask, keepA, setBox]
   refine AOpsO.nil ?_
   refine rgn [] [[], []] ?_
   iterate 2 refine op1 tok ?_
   refine runOff ?_
   refine AOpsO.stepK [41] (y_cutRow tok rfl rfl F.length (by conv => lhs; simp) trivial (by conv => lhs; simp) trivial rfl (by conv => lhs; simp) (by first | (simp; done) | (simp; omega)) (by omega)) (by conv => lhs; simp [hcut]) rfl ?_
   refine AOpsO.run [[4]] ?_
   refine op1 tok ?_
   refine runEnd ?_
   exact AW.ret ⟨.inr rfl, _, _, by (conv => lhs; simp), trivial, by simp, by simp, by simp, by simp⟩
end Go.Proofs.YtdjjmppnnkkloaaGreatDoor
namespace Go.Proofs.YtdjjmppnnkkloaaGreatDoor
open Sy Go
set_option maxRecDepth 100000
set_option maxHeartbeats 4000000
set_option linter.unusedSimpArgs false
set_option linter.unusedVariables false
variable {G : Glob}
theorem fuelP_ev (n : Int) : AFn Tryz.prog G 47 [.int .i64 n] (.bool (fuelM n)) := by
 refine AFn.introU tok Tryz.func47 (by kernel_rfl) rfl rfl ?_
 simp only [Tryz.f47, enumA, List.map_cons, List.map_nil]
 refine rgn [] [[0]] ?_
 refine op1 tok ?_
 refine runEnd ?_
 refine rgn [] [[], [], [], [], [5, 7], [], [2]] ?_
 iterate 3 refine op1 tok ?_
 iterate 2 refine op2 tok ?_
 iterate 2 refine op1 tok ?_
 refine runEnd ?_
 exact AW.ret ⟨.inr rfl, _, _, by (conv => lhs; simp), trivial, by simp [fuelM]⟩
theorem atoi_two (s : List UInt8) : ∃ b : Bool, (atoiT s).2 = (if b = true then PD.err else .noerr) ∧ isErr (atoiT s).2 = b := by
 unfold atoiT
 split
 ·exact ⟨false, rfl, rfl⟩
 ·exact ⟨true, rfl, rfl⟩
 ·exact ⟨true, rfl, rfl⟩
theorem number_ev (hE : PE G) (s : List UInt8) (hs : s.length ≤ 1000000000) : AFn Tryz.prog G 74 [.str s] (.int .i64 (numberM s)) := by
 refine AFn.introU tok Tryz.func74 (by kernel_rfl) rfl rfl ?_
 simp only [Tryz.f74, enumA, List.map_cons, List.map_nil]
 have hA := Atoi_ev hE s (by omega)
 obtain ⟨b, hb, hb2⟩ := atoi_two s
 unfold numberM
 rw [hb2]
 rw [hb] at hA
 generalize (atoiT s).1 = v at *
 have hf := fuelP_ev (G := G) v
 refine rgn [] [[0]] ?_
 refine op1 tok ?_
 refine runEnd ?_
 by_cases hs1 : b = true
 ·
  first | (subst hs1; simp only [if_true] at hA) | (obtain rfl : b = false := (by simpa using hs1); simp only [Bool.false_eq_true, if_false] at hA)
  refine rgn [.nilp, .tup [.int .i64 v, .err]] [[], [], [], [], [8, 9], [], [3, 4]] ?_
  iterate 7 refine op1 tok ?_ (hv := by first | with_reducible exact True.intro | (exact hA; done) | omega | simp | (simp; omega) | (simp +contextual; omega))
  refine runEnd ?_
  refine AW.seq ?_
  refine rgn [.nilp, .bool (fuelM v)] [[]] ?_
  refine op1 tok ?_ (hv := by first | with_reducible exact True.intro | (first | exact hf | simp [hf]; done) | omega | simp | (simp; omega) | (simp +contextual; omega))
  refine runOff ?_
  refine AOpsO.stepK [3, 11] (y_errNe true rfl (by kernel_rfl) (by (conv => lhs; simp); rfl) trivial) (by conv => lhs; simp) rfl ?_
  refine AOpsO.run [[], [], [], [], [3, 16]] ?_
  refine op1 tok ?_ (hv := by first | with_reducible exact True.intro | (first | exact hf | simp [hf]; done) | omega | simp | (simp; omega) | (simp +contextual; omega))
  iterate 3 refine op2 tok ?_ (hv := by first | with_reducible exact True.intro | (first | exact hf | simp [hf]; done) | omega | simp | (simp; omega) | (simp +contextual; omega))
  refine op1 tok ?_ (hv := by first | with_reducible exact True.intro | (first | exact hf | simp [hf]; done) | omega | simp | (simp; omega) | (simp +contextual; omega))
  refine runEnd ?_
  refine cnd ?_ ?_
  ·intro h16
   try simp at h16
   rw [if_pos (.inl rfl)]
   refine rgn [] [[]] ?_
   refine op1 tok ?_
   refine runEnd ?_
   exact AW.ret ⟨.inr rfl, _, _, by (conv => lhs; simp), trivial, by simp⟩
  ·intro h16
   try simp at h16
 ·
  first | (subst hs1; simp only [if_true] at hA) | (obtain rfl : b = false := (by simpa using hs1); simp only [Bool.false_eq_true, if_false] at hA)
  refine rgn [.nilp, .tup [.int .i64 v, .noerr]] [[], [], [], [], [8, 9], [], [3, 4]] ?_
  iterate 7 refine op1 tok ?_ (hv := by first | with_reducible exact True.intro | (exact hA; done) | omega | simp | (simp; omega) | (simp +contextual; omega))
  refine runEnd ?_
  refine AW.seq ?_
  refine rgn [.nilp, .bool (fuelM v)] [[]] ?_
  refine op1 tok ?_ (hv := by first | with_reducible exact True.intro | (first | exact hf | simp [hf]; done) | omega | simp | (simp; omega) | (simp +contextual; omega))
  refine runOff ?_
  refine AOpsO.stepK [3, 11] (y_errNe false rfl (by kernel_rfl) (by (conv => lhs; simp); rfl) trivial) (by conv => lhs; simp) rfl ?_
  refine AOpsO.run [[], [], [], [], [3, 16]] ?_
  refine op1 tok ?_ (hv := by first | with_reducible exact True.intro | (first | exact hf | simp [hf]; done) | omega | simp | (simp; omega) | (simp +contextual; omega))
  iterate 3 refine op2 tok ?_ (hv := by first | with_reducible exact True.intro | (first | exact hf | simp [hf]; done) | omega | simp | (simp; omega) | (simp +contextual; omega))
  refine op1 tok ?_ (hv := by first | with_reducible exact True.intro | (first | exact hf | simp [hf]; done) | omega | simp | (simp; omega) | (simp +contextual; omega))
  refine runEnd ?_
  refine cnd ?_ ?_
  ·intro h16
   try simp at h16
   rw [if_pos (.inr h16)]
   refine rgn [] [[]] ?_
   refine op1 tok ?_
   refine runEnd ?_
   exact AW.ret ⟨.inr rfl, _, _, by (conv => lhs; simp), trivial, by simp⟩
  ·intro h16
   try simp at h16
   rw [if_neg (by simp [h16])]
   refine AW.skip ?_
   refine rgn [] [[], [2]] ?_
   iterate 2 refine op1 tok ?_
   refine runEnd ?_
   exact AW.ret ⟨.inr rfl, _, _, by (conv => lhs; simp), trivial, by simp⟩
theorem marksP_ev (hG : U8 G) (p : Pol) (hl : p.marks.length ≤ 1000000) : AFn Tryz.prog G 45 [p.enc] (.int .i64 (marksM p.cats.length p.marks)) := by
 refine AFn.introU tok Tryz.func45 (by kernel_rfl) rfl rfl ?_
 simp only [Tryz.f45, enumA, List.map_cons, List.map_nil]
 refine rgn [] [[], [1]] ?_
 iterate 2 refine op1 tok ?_
 refine runEnd ?_
 refine AW.seq ?_
 refine rgn [] [[], [], [], [1, 7, 8, 9]] ?_
 iterate 4 refine op1 tok ?_
 refine runEnd ?_
 refine AW.block ?_
 refine AW.loop (α := Nat) (fun k => k ≤ p.marks.length ∧ marksM p.cats.length p.marks = marksM p.cats.length (p.marks.drop k)) (fun k => ⟨upds 38 [(1, .ptr 1 0), (7, .p (.sl 2 (p.marks.map Mk.enc))), (8, .p (.int .i64 p.marks.length)), (9, .p (.int .i64 k))], [], [(1, .vars 25 [.p (.sl 1 (p.cats.map PD.str)), .p (.sl 2 (p.marks.map Mk.enc)), .p (.str p.token), .p (.int .i64 p.fuel), .p (.int .i64 p.quota)])], 0⟩) (fun k => p.marks.length - k) (0) ⟨by omega, rfl⟩ ⟨upds_le (by simp), rfl, by simp, by simp⟩ ?_
 rintro k ⟨hk, hq⟩
 refine rgn [] [[]] ?_
 refine op1 tok ?_
 refine runEnd ?_
 refine AW.seq ?_
 refine cnd ?_ ?_
 ·intro h10
  try simp at h10
  obtain ⟨x, hx⟩ : ∃ x, p.marks[k]? = some x := ⟨p.marks[k], by simp [h10]⟩
  have hdx : p.marks.drop k = x :: p.marks.drop (k + 1) := by
   obtain ⟨h, rfl⟩ := List.getElem?_eq_some_iff.1 hx
   exact List.drop_eq_getElem_cons h
  rw [hdx] at hq
  simp only [marksM] at hq
  have hM := May_ev hG x.path
  have hbad : badM p.cats.length x.mask = true ↔ (x.mask = 0 ∨ ((p.cats.length : Int) < 64 ∧ ¬ x.mask.fdiv (2 ^ min p.cats.length IntKind.u64.bits) = 0)) := by
   unfold badM
   simp only [Bool.or_eq_true, Bool.and_eq_true, decide_eq_true_eq]
   have e : ((p.cats.length : Int) < 64) → x.mask.fdiv (2 ^ min p.cats.length IntKind.u64.bits) = x.mask / 2 ^ p.cats.length := fun h => by
    rw [Nat.min_eq_left (by simp [IntKind.bits]; omega), Int.fdiv_eq_ediv_of_nonneg _ (Int.le_of_lt (Int.pow_pos (by decide)))]
   constructor
   ·rintro (h | ⟨h, h2⟩)
    ·exact .inl h
    ·exact .inr ⟨h, by rw [e h]; exact h2⟩
   ·rintro (h | ⟨h, h2⟩)
    ·exact .inl h
    ·exact .inr ⟨h, by rw [e h] at h2; exact h2⟩
  refine AW.skip ?_
  refine AW.seq ?_
  refine AW.block ?_
  refine rgn [x.enc] [[], [], [], [1, 4, 7, 8, 9]] ?_
  iterate 4 refine op1 tok ?_ (hv := by first | with_reducible exact True.intro | (simp [hx]; done) | omega | simp | (simp; omega) | (simp +contextual; omega))
  refine runEnd ?_
  refine AW.seq ?_
  refine rgn [.nilp, .int .i64 (mayL x.path)] [[], [], [], [1, 4, 5, 7, 8, 9]] ?_
  iterate 4 refine op1 tok ?_ (hv := by first | with_reducible exact True.intro | (exact hM; done) | omega | simp | (simp; omega) | (simp +contextual; omega))
  refine runEnd ?_
  refine rgn [] [[], [1, 4, 5, 7, 8, 9, 17]] ?_
  iterate 2 refine op1 tok ?_
  refine runEnd ?_
  refine cnd ?_ ?_
  ·intro h17
   try simp at h17
   rw [if_pos h17] at hq
   rw [hq]
   refine rgn [] [[], [2]] ?_
   iterate 2 refine op1 tok ?_
   refine runEnd ?_
   exact AW.ret ⟨.inr rfl, _, _, by (conv => lhs; simp), trivial, by simp⟩
  ·intro h17
   try simp at h17
   rw [if_neg (by simp [h17])] at hq
   refine AW.skip ?_
   refine rgn [] [[], [], [], [], [], [1, 4, 7, 8, 9, 22, 24], [], [], [], [1, 7, 8, 9, 22, 27, 28], [], [], [], [], [1, 7, 8, 9, 22, 27, 33], [], [], [1, 7, 8, 9, 36]] ?_
   iterate 4 refine op1 tok ?_
   iterate 13 refine op2 tok ?_
   refine op1 tok ?_
   refine runEnd ?_
   refine cnd ?_ ?_
   ·intro h36
    try simp at h36
    rw [if_pos (hbad.2 h36)] at hq
    rw [hq]
    refine rgn [] [[]] ?_
    refine op1 tok ?_
    refine runEnd ?_
    exact AW.ret ⟨.inr rfl, _, _, by (conv => lhs; simp), trivial, by simp⟩
   ·intro h36
    try simp at h36
    rw [if_neg fun h => by
     rcases hbad.1 h with h | ⟨h, h2⟩
     ·exact h36.1 h
     ·exact h2 (h36.2 h)] at hq
    refine AW.skip ?_
    refine rgz [] [[], [1, 7, 8, 9]] ?_
    iterate 2 refine op1 tok ?_
    refine runEnd ?_
    exact ⟨k + 1, ⟨by omega, hq⟩, by omega, upds_le (by simp), rfl, by simp, by simp⟩
 ·intro h10
  try simp at h10
  rw [List.drop_of_length_le h10] at hq
  rw [hq]
  simp only [marksM]
  refine AW.exit ?_
  simp
  refine rgn [] [[]] ?_
  refine op1 tok ?_
  refine runEnd ?_
  exact AW.ret ⟨.inr rfl, _, _, by (conv => lhs; simp), trivial, by simp⟩
theorem polMay_ev (hG : U8 G) (p : Pol) : AFn Tryz.prog G 15 [p.enc] (.int .i64 (polMay p)) := by
 refine AFn.introU tok Tryz.func15 (by kernel_rfl) rfl rfl ?_
 simp only [Tryz.f15, enumA, List.map_cons, List.map_nil]
 have h1 := catsMay_ev (G := G) p.cats
 have h2 := fun h => marksP_ev hG p h
 have h3 := Valid_ev hG p.token
 have h4 := fuelP_ev (G := G) p.fuel
 have h5 := fuelP_ev (G := G) p.quota
 unfold polMay
 simp only [Pol.enc] at h2
 generalize catsMayM p.cats = c at *
 generalize marksM p.cats.length p.marks = m at *
 refine rgn [] [[], [1]] ?_
 iterate 2 refine op1 tok ?_
 refine runEnd ?_
 refine AW.seq ?_
 refine rgn [.nilp, .int .i64 c] [[], [], [], [1, 3]] ?_
 iterate 4 refine op1 tok ?_ (hv := by first | with_reducible exact True.intro | (exact h1; done) | omega | simp | (simp; omega) | (simp +contextual; omega))
 refine runEnd ?_
 refine rgn [] [[], [1, 3, 9]] ?_
 iterate 2 refine op1 tok ?_
 refine runEnd ?_
 refine cnd ?_ ?_
 ·intro h9
  try simp at h9
  rw [if_pos h9]
  refine rgn [] [[], [2]] ?_
  iterate 2 refine op1 tok ?_
  refine runEnd ?_
  exact AW.ret ⟨.inr rfl, _, _, by (conv => lhs; simp), trivial, by simp⟩
 ·intro h9
  try simp at h9
  rw [if_neg (by simp [h9])]
  refine AW.skip ?_
  refine AW.seq ?_
  refine rgn [] [[], [], [], [1, 14]] ?_
  iterate 4 refine op1 tok ?_
  refine runEnd ?_
  refine cnd ?_ ?_
  ·intro h14
   try simp at h14
   rw [if_pos (by omega)]
   refine rgn [] [[]] ?_
   refine op1 tok ?_
   refine runEnd ?_
   exact AW.ret ⟨.inr rfl, _, _, by (conv => lhs; simp), trivial, by simp⟩
  ·intro h14
   try simp at h14
   rw [if_neg (by omega)]
   have h2' := h2 (by omega)
   refine AW.skip ?_
   refine AW.seq ?_
   refine rgn [.nilp, .int .i64 m] [[], [], [1, 4]] ?_
   iterate 3 refine op1 tok ?_ (hv := by first | with_reducible exact True.intro | (first | exact h2' | (simp; exact h2'); done) | omega | simp | (simp; omega) | (simp +contextual; omega))
   refine runEnd ?_
   refine rgn [] [[], [1, 4, 18]] ?_
   iterate 2 refine op1 tok ?_
   refine runEnd ?_
   refine cnd ?_ ?_
   ·intro h18
    try simp at h18
    rw [if_pos h18]
    refine rgn [] [[], [2]] ?_
    iterate 2 refine op1 tok ?_
    refine runEnd ?_
    exact AW.ret ⟨.inr rfl, _, _, by (conv => lhs; simp), trivial, by simp⟩
   ·intro h18
    try simp at h18
    rw [if_neg (by simp [h18])]
    refine AW.skip ?_
    refine AW.seq ?_
    refine rgn [.nilp, .bool (Lib.validD p.token), .nilp, .bool (fuelM p.fuel), .nilp, .bool (fuelM p.quota)] [[], [], [], [], [1, 24], [], [], [], [], [1, 29], [], [], [], [], [1, 30, 34], [], [], [36, 37], [], [], [], [41]] ?_
    iterate 22 first | refine op1 tok ?_ (hv := by first | with_reducible exact True.intro | (first | exact h3 | ((repeat' (first | with_reducible apply And.intro | intro _)) <;> first | exact (h3) | exact (h4) | exact (h5) | assumption | omega | contradiction | simp_all); done) | omega | simp | (simp; omega) | (simp +contextual; omega)) | refine op2 tok ?_ (hv := by first | with_reducible exact True.intro | (first | exact h3 | ((repeat' (first | with_reducible apply And.intro | intro _)) <;> first | exact (h3) | exact (h4) | exact (h5) | assumption | omega | contradiction | simp_all); done) | omega | simp | (simp; omega) | (simp +contextual; omega))
    refine runEnd ?_
    refine cnd ?_ ?_
    ·intro h41
     try simp at h41
     rw [if_pos]
     rotate_left
     ·rcases h41 with ((h | h) | h) | h
      ·exact .inl (by omega)
      ·exact .inr (.inl h)
      ·exact .inr (.inr (.inl h))
      ·exact .inr (.inr (.inr h))
     refine rgn [] [[]] ?_
     refine op1 tok ?_
     refine runEnd ?_
     exact AW.ret ⟨.inr rfl, _, _, by (conv => lhs; simp), trivial, by simp⟩
    ·intro h41
     try simp at h41
     rw [if_neg (by obtain ⟨⟨⟨a, b⟩, c⟩, d⟩ := h41; simp [b, c, d]; omega)]
     refine AW.skip ?_
     refine rgn [] [[]] ?_
     refine op1 tok ?_
     refine runEnd ?_
     exact AW.ret ⟨.inr rfl, _, _, by (conv => lhs; simp), trivial, by simp⟩
theorem rowP_ev (ws : List (List UInt8)) (hn : ws.length ≤ 1000) (hl : (rowT ws).length ≤ 1000000) : AFn Tryz.prog G 48 [.sl 1 (ws.map PD.str)] (.str (rowT ws)) := by
 refine AFn.introU tok Tryz.func48 (by kernel_rfl) rfl rfl ?_
 simp only [Tryz.f48, enumA, List.map_cons, List.map_nil]
 unfold rowT at hl ⊢
 rw [List.length_append] at hl
 have hj := Join_ev (G := G) ws [32] (by omega) (by omega)
 refine rgn [] [[0]] ?_
 refine op1 tok ?_
 refine runEnd ?_
 refine rgn [.nilp, .str (Lib.join ws [32])] [[], [], [], [2]] ?_
 iterate 4 refine op1 tok ?_ (hv := by first | with_reducible exact True.intro | (first | exact hj | (simp at hl ⊢; omega); done) | omega | simp | (simp; omega) | (simp +contextual; omega))
 refine runEnd ?_
 exact AW.ret ⟨.inr rfl, _, _, by (conv => lhs; simp), trivial, by simp⟩
theorem polPrint_ev (hP : PW G) (p : Pol) (h : PolOK p) : AFn Tryz.prog G 16 [p.enc] (.str (polPrint p)) := by
 refine AFn.introU tok Tryz.func16 (by kernel_rfl) rfl rfl ?_
 simp only [Tryz.f16, enumA, List.map_cons, List.map_nil]
 have hcl := (may_cats h.cats).1
 have hcr := catsrow_le h.cats
 have hfew := h.few
 have hr0 := rowP_ev (G := G) (kwCats :: p.cats) (by simp; omega) (by omega)
 have hq1 := Quote_ev (G := G) p.token h.token.2 (by have := h.token.1; omega)
 have hqb := qBody_le6 p.token
 have hql : (quoteT p.token).length ≤ 146 := by simp only [quoteT, List.length_cons, List.length_append, List.length_nil]; have := h.token.1; omega
 have hr1 := rowP_ev (G := G) [kwToken, quoteT p.token] (by simp) (by
  have := row_len [kwToken, quoteT p.token] 146 (by intro x hx; simp only [List.mem_cons, List.not_mem_nil, or_false] at hx; rcases hx with rfl | rfl; simp [kwToken]; exact hql)
  simp only [List.length_cons, List.length_nil] at this; omega)
 have ki : ∀ n : Int, 1 ≤ n ∧ n ≤ 100000 → (Lib.itoa n).length ≤ 21 := fun n hn => Lib.itoa_length_le n (by omega) (by omega)
 have rowk : ∀ (k : List UInt8) (n : Int), k.length ≤ 21 → 1 ≤ n ∧ n ≤ 100000 → (rowT [k, Lib.itoa n]).length ≤ 45 := fun k n hk hn => by
  have h1 := ki n hn
  have := row_len [k, Lib.itoa n] 21 (by intro x hx; simp only [List.mem_cons, List.not_mem_nil, or_false] at hx; rcases hx with rfl | rfl; exact hk; exact h1)
  simp only [List.length_cons, List.length_nil] at this; omega
 have l2 := rowk kwFuel p.fuel (by decide) h.fuel
 have l3 := rowk kwQuota p.quota (by decide) h.quota
 have l1 : (rowT [kwToken, quoteT p.token]).length ≤ 300 := by
  have := row_len [kwToken, quoteT p.token] 146 (by intro x hx; simp only [List.mem_cons, List.not_mem_nil, or_false] at hx; rcases hx with rfl | rfl; simp [kwToken]; exact hql)
  simp only [List.length_cons, List.length_nil] at this; omega
 have hr2 := rowP_ev (G := G) [kwFuel, Lib.itoa p.fuel] (by simp) (by omega)
 have hr3 := rowP_ev (G := G) [kwQuota, Lib.itoa p.quota] (by simp) (by omega)
 have hi2 := itoa_ev hP p.fuel
 have hi3 := itoa_ev hP p.quota
 have h0 : rowT (kwCats :: p.cats) = headT p 0 := by simp [headT]
 have hhl := fun k => head_le h k
 rw [h0] at hr0
 unfold polPrint
 simp only [kwCats, kwToken, kwFuel, kwQuota, List.map_cons, List.map_nil] at hr0 hr1 hr2 hr3 l1 l2 l3 ⊢
 generalize rowT [[116, 111, 107, 101, 110], quoteT p.token] = t1 at *
 generalize rowT [[102, 117, 101, 108], Lib.itoa p.fuel] = t2 at *
 generalize rowT [[113, 117, 111, 116, 97], Lib.itoa p.quota] = t3 at *
 refine rgn [] [[], [1]] ?_
 iterate 2 refine op1 tok ?_
 refine runEnd ?_
 refine rgn [.str [99, 97, 116, 115], .nilp, .str (headT p 0)] [[], [], [], [], [1, 10], [1, 3]] ?_
 iterate 6 refine op1 tok ?_ (hv := by first | with_reducible exact True.intro | (first | exact hr0 | (simp; omega); done) | omega | simp | (simp; omega) | (simp +contextual; omega))
 refine runEnd ?_
 refine AW.seq ?_
 refine rgn [] [[], [], [], [1, 3, 12, 13, 14]] ?_
 iterate 4 refine op1 tok ?_
 refine runEnd ?_
 refine AW.block ?_
 refine AW.loop (α := Nat) (fun k => k ≤ p.marks.length) (fun k => ⟨upds 50 [(1, .ptr 1 0), (3, .p (.str (headT p k))), (12, .p (.sl 2 (p.marks.map Mk.enc))), (13, .p (.int .i64 p.marks.length)), (14, .p (.int .i64 k))], [], [(1, .vars 25 [.p (.sl 1 (p.cats.map PD.str)), .p (.sl 2 (p.marks.map Mk.enc)), .p (.str p.token), .p (.int .i64 p.fuel), .p (.int .i64 p.quota)])], 0⟩) (fun k => p.marks.length - k) (0) (by omega) ⟨upds_le (by simp), rfl, by simp, by simp⟩ ?_
 rintro k hk
 refine rgn [] [[]] ?_
 refine op1 tok ?_
 refine runEnd ?_
 refine AW.seq ?_
 refine cnd ?_ ?_
 ·intro h15
  try simp at h15
  obtain ⟨x, hx⟩ : ∃ x, p.marks[k]? = some x := ⟨p.marks[k], by simp [h15]⟩
  have hmx := marks_may h.marks x (List.mem_of_getElem? hx)
  have hnm := catsNames_ev (G := G) p.cats x.mask hcl (fun c hc => by have := cats_le h.cats c hc; omega)
  have hpp := printB_ev hP x.path (may_zeroL hmx.1).1 (by have := (may_zeroL hmx.1).2; omega)
  have hml := mark_le h.cats hmx.1
  have hrw := rowP_ev (G := G) [kwMark, namesT p.cats x.mask, printS x.path] (by simp) (by unfold markT at hml; omega)
  have hsn := head_snoc hx
  have hhk := hhl k
  unfold markT at hml hsn
  simp only [kwMark, List.map_cons, List.map_nil] at hrw hsn hml
  generalize namesT p.cats x.mask = nm at *
  generalize printS x.path = pp at *
  generalize rowT [[109, 97, 114, 107], nm, pp] = rw' at *
  generalize headT p k = hd at *
  refine AW.skip ?_
  refine AW.seq ?_
  refine AW.block ?_
  refine rgn [x.enc] [[], [], [], [1, 3, 5, 12, 13, 14]] ?_
  iterate 4 refine op1 tok ?_ (hv := by first | with_reducible exact True.intro | (simp [hx]; done) | omega | simp | (simp; omega) | (simp +contextual; omega))
  refine runEnd ?_
  refine AW.drawS tok mixed 12 [[3], [1], [19], [5], [21], [20, 22], [5], [24], [25], [23, 26], [27], [18, 28]] [.nilp, .str nm, .nilp, .str pp, .str [109, 97, 114, 107], .str nm, .str pp, .nilp, .str rw'] [] (by kernel_rfl) ?_
  iterate 12 refine d1 ?_ (hv := by first | with_reducible exact True.intro | (first | exact hnm | exact hpp | exact hrw | (simp; omega); done) | omega | simp | (simp; omega) | (simp +contextual; omega))
  refine DGo.nil (by kernel_rfl) ⟨by kernel_rfl, ?_⟩
  refine AOpsO.run [[1, 3, 12, 13, 14]] ?_
  refine op1 tok ?_
  refine runEnd ?_
  refine rgz [] [[], [1, 3, 12, 13, 14]] ?_
  iterate 2 refine op1 tok ?_
  refine runEnd ?_
  exact ⟨k + 1, by omega, by omega, upds_le (by simp [hsn]), rfl, by simp [hsn], by simp [hsn]⟩
 ·intro h15
  try simp at h15
  obtain rfl : k = p.marks.length := by omega
  have hhk := hhl p.marks.length
  refine AW.exit ?_
  simp
  refine AW.seqDrawS tok mixed 19 [[3], [1], [32], [33], [34], [35], [31, 36], [1], [38], [39], [40], [41], [37, 42], [1], [44], [45], [46], [47], [43, 48]] [.nilp, .str (quoteT p.token), .str [116, 111, 107, 101, 110], .str (quoteT p.token), .nilp, .str t1, .nilp, .str (Lib.itoa p.fuel), .str [102, 117, 101, 108], .str (Lib.itoa p.fuel), .nilp, .str t2, .nilp, .str (Lib.itoa p.quota), .str [113, 117, 111, 116, 97], .str (Lib.itoa p.quota), .nilp, .str t3] [] (by kernel_rfl) ?_
  iterate 19 refine d1 ?_ (hv := by first | with_reducible exact True.intro | (first | exact hq1 | exact hr1 | exact hi2 | exact hr2 | exact hi3 | exact hr3 | (simp; omega); done) | omega | simp | (simp; omega) | (simp +contextual; omega))
  refine DGo.nil (by kernel_rfl) ⟨by kernel_rfl, ?_⟩
  refine AOpsO.run [[2]] ?_
  refine op1 tok ?_
  refine runEnd ?_
  exact AW.ret ⟨.inr rfl, _, _, by (conv => lhs; simp), trivial, by simp⟩
end Go.Proofs.YtdjjmppnnkkloaaGreatDoor
namespace Go.Proofs.YtdjjmppnnkkloaaGreatDoor
open Sy Go
set_option maxRecDepth 100000
set_option maxHeartbeats 4000000
set_option linter.unusedSimpArgs false
set_option linter.unusedVariables false
variable {G : Glob}
theorem lineF_ev (s : List UInt8) : AFn Tryz.prog G 70 [.str s] (.bool (decide (s = []))) := by
 refine AFn.introU tok Tryz.func70 (by kernel_rfl) rfl rfl ?_
 simp only [Tryz.f70, enumA, List.map_cons, List.map_nil]
 refine rgn [] [[0]] ?_
 refine op1 tok ?_
 refine runEnd ?_
 refine rgn [] [[], [], [2]] ?_
 iterate 3 refine op1 tok ?_
 refine runEnd ?_
 exact AW.ret ⟨.inr rfl, _, _, by (conv => lhs; simp), trivial, by simp⟩
theorem cut_le (c : UInt8) (s : List UInt8) : (cutB c s).1.length ≤ s.length ∧ (cutB c s).2.1.length ≤ s.length := by
 by_cases h : c ∈ s
 ·obtain ⟨a, r, rfl, hn⟩ := mem_split h
  rw [cutB_at hn]; simp; omega
 ·rw [cutB_no h]; simp
theorem line_ax (hG : U8 G) (hP : PW G) (hE : PE G) (p : Pol) (s : List UInt8) (hc : catsMayM p.cats = 0) (hn : p.marks.length ≤ 100000) (hs : s.length ≤ 10000000) : AX Tryz.prog G 30 [.ptr 2 0, .p (.str s)] [(2, .vars 25 [.p (.sl 1 (p.cats.map PD.str)), .ms 3, .p (.str p.token), .p (.int .i64 p.fuel), .p (.int .i64 p.quota)]), (3, .row 59 2 (p.marks.map Mk.enc))] (.p (.bool (lineM p s).2)) [2] [(2, .vars 25 [.p (.sl 1 ((lineM p s).1.cats.map PD.str)), .ms 3, .p (.str (lineM p s).1.token), .p (.int .i64 (lineM p s).1.fuel), .p (.int .i64 (lineM p s).1.quota)]), (3, .row 59 2 ((lineM p s).1.marks.map Mk.enc))] := by
 refine AX.introU tok 900 Tryz.func30 (by kernel_rfl) rfl rfl ?_
 simp only [Tryz.f30, enumA, List.map_cons, List.map_nil]
 generalize hL : lineM p s = L
 have hcut := Cut_ev (G := G) s 32
 obtain ⟨hl1, hl2⟩ := cut_le 32 s
 unfold lineM at hL
 generalize cutB 32 s = c at *
 obtain ⟨w, rest, fnd⟩ := c
 simp only at hL hl1 hl2 hcut
 refine rgn [] [[0, 1]] ?_
 refine op1 tok ?_
 refine runEnd ?_
 refine rgn [.nilp, .tup [.str w, .str rest, .bool fnd]] [[], [], [], [], [], [0, 22, 23, 24], [], [], [0, 5, 6]] ?_
 iterate 9 refine op1 tok ?_ (hv := by first | with_reducible exact True.intro | (exact hcut; done) | omega | simp | (simp; omega) | (simp +contextual; omega))
 refine runEnd ?_
 refine rgn [] [[]] ?_
 refine op1 tok ?_
 refine runEnd ?_
 refine AW.seq ?_
 refine rgn [] [[0, 6, 8, 25]] ?_
 refine op1 tok ?_
 refine runEnd ?_
 refine AW.block ?_
 refine rgn [] [[], [0, 6, 8, 25, 26]] ?_
 iterate 2 refine op1 tok ?_
 refine runEnd ?_
 refine cnd ?_ ?_
 ·intro h26
  try simp at h26
  rw [if_pos (show w = kwCats from h26)] at hL
  have hsp := Split_ar (G := G) rest 32 (by omega)
  have hwl : (splitB 32 rest).length ≤ 10000001 := by rw [splitB_len]; have : rest.count 32 ≤ rest.length := List.count_le_length; omega
  generalize splitB 32 rest = ws at *
  have hdl := delS_ax (G := G) 70 (fun s => decide (s = [])) ws lineF_ev (by omega)
  generalize hfw : ws.filter (fun x => !decide (x = [])) = cs at *
  have hcm := catsMay_ev (G := G) cs
  subst hL
  refine rgn [.nilf, .sl 1 (ws.map PD.str), .clo 9 []] [[], [], []] ?_
  iterate 3 refine op1 tok ?_ (hv := by first | with_reducible exact True.intro | (first | exact hsp | (simp; exact hsp); done) | omega | simp | (simp; omega) | (simp +contextual; omega))
  refine runOff ?_
  refine AOpsO.stepK [0, 28, 31] (y_cx rfl hdl (by simp)) (by conv => lhs; simp) rfl ?_
  refine AOpsO.run [[], [], [0]] ?_
  iterate 3 refine op1 tok ?_ (hv := by first | with_reducible exact True.intro | (first | exact hsp | (simp; exact hsp); done) | omega | simp | (simp; omega) | (simp +contextual; omega))
  refine runEnd ?_
  refine rgz [.nilp, .int .i64 (catsMayM cs)] [[], [], [], [37], [], [], [8]] ?_
  iterate 7 refine op1 tok ?_ (hv := by first | with_reducible exact True.intro | (first | exact hcm | (simp; exact hcm); done) | omega | simp | (simp; omega) | (simp +contextual; omega))
  refine runEnd ?_
  refine rgn [] [[], [4]] ?_
  iterate 2 refine op1 tok ?_
  refine runEnd ?_
  exact AW.ret ⟨.inr rfl, _, _, by (conv => lhs; simp), trivial, by simp, by simp, by simp, by simp⟩
 ·intro h26
  try simp at h26
  rw [if_neg (show ¬ w = kwCats from h26)] at hL
  refine rgn [] [[], [0, 6, 8, 25, 40]] ?_
  iterate 2 refine op1 tok ?_
  refine runEnd ?_
  refine cnd ?_ ?_
  ·intro h40
   try simp at h40
   rw [if_pos (show w = kwMark from h40)] at hL
   have hcut2 := Cut_ev (G := G) rest 36
   obtain ⟨hk1, hk2⟩ := cut_le 36 rest
   generalize cutB 36 rest = d at *
   obtain ⟨nm, pat, fd⟩ := d
   simp only at hL hk1 hk2 hcut2
   have hmk := catsMask_ev (G := G) p.cats nm (may_cats hc).2.1 (may_cats hc).1 (by omega)
   have hpp := parseB_ev hG hP (36 :: pat) (by simp; omega)
   generalize maskT p.cats nm = mk at *
   generalize parseT (36 :: pat) = st at *
   subst hL
   refine rgn [.nilp, .tup [.str nm, .str pat, .bool fd]] [[], [], [], [], [], [0, 45, 46, 47], [], [], [0, 9, 10, 11]] ?_
   iterate 9 refine op1 tok ?_ (hv := by first | with_reducible exact True.intro | (exact hcut2; done) | omega | simp | (simp; omega) | (simp +contextual; omega))
   refine runEnd ?_
   refine rgn [.nilp, .tup [.int .u64 mk.1, .int .i64 mk.2]] [[], [], [], [], [0, 10, 11, 52, 53], [], [], [], [0, 10, 11, 55, 56], [], [0, 10, 11, 12, 13]] ?_
   iterate 11 refine op1 tok ?_ (hv := by first | with_reducible exact True.intro | (exact hmk; done) | omega | simp | (simp; omega) | (simp +contextual; omega))
   refine runEnd ?_
   refine rgn [.nilp, .tup [.sl 3 (st.1.map Step.enc), .int .i64 st.2]] [[], [], [], [0, 11, 12, 13, 57], [], [], [], [0, 11, 12, 13, 14, 15]] ?_
   iterate 8 refine op1 tok ?_ (hv := by first | with_reducible exact True.intro | (first | exact hpp | (simp; omega); done) | omega | simp | (simp; omega) | (simp +contextual; omega))
   refine runEnd ?_
   refine rgn [.agg [.sl 3 (st.1.map Step.enc), .int .u64 mk.1]] [[], [], [], [], [11, 12, 13, 14, 15, 63, 67], [], [], [11, 13, 15, 63, 67, 70], [], [], [11, 13, 15, 72, 73], [], [11, 13, 15]] ?_
   iterate 13 refine op1 tok ?_ (hv := by first | with_reducible exact True.intro | (first | (simp; omega) | simp; done) | omega | simp | (simp; omega) | (simp +contextual; omega))
   refine runEnd ?_
   refine rgz [] [[], [], [], [15, 76, 78], [], [], [80, 81], [], [], [8]] ?_
   iterate 10 first | refine op1 tok ?_ | refine op2 tok ?_
   refine runEnd ?_
   refine rgn [] [[], [4]] ?_
   iterate 2 refine op1 tok ?_
   refine runEnd ?_
   exact AW.ret ⟨.inr rfl, _, _, by (conv => lhs; simp), trivial, by simp, by simp, by simp, by simp⟩
  ·intro h40
   try simp at h40
   rw [if_neg (show ¬ w = kwMark from h40)] at hL
   refine rgn [] [[], [0, 6, 8, 25, 84]] ?_
   iterate 2 refine op1 tok ?_
   refine runEnd ?_
   refine cnd ?_ ?_
   ·intro h84
    try simp at h84
    rw [if_pos (show w = kwToken from h84)] at hL
    have hu := Unquote_ev (G := G) hG rest (by omega)
    generalize unquoteT rest = u at *
    subst hL
    refine rgn [.nilp, .tup [.str u.1, .int .i64 u.2.1, .int .i64 u.2.2]] [[], [], [], [], [], [0, 89, 90, 91], [], [], [0, 16, 18]] ?_
    iterate 9 refine op1 tok ?_ (hv := by first | with_reducible exact True.intro | (exact hu; done) | omega | simp | (simp; omega) | (simp +contextual; omega))
    refine runEnd ?_
    refine rgz [] [[], [], [], [92, 93, 95], [], [], [95], [8]] ?_
    iterate 8 refine op1 tok ?_
    refine runEnd ?_
    refine rgn [] [[], [4]] ?_
    iterate 2 refine op1 tok ?_
    refine runEnd ?_
    exact AW.ret ⟨.inr rfl, _, _, by (conv => lhs; simp), trivial, by simp, by simp, by simp, by simp⟩
   ·intro h84
    try simp at h84
    rw [if_neg (show ¬ w = kwToken from h84)] at hL
    refine rgn [] [[], [0, 6, 8, 25, 98]] ?_
    iterate 2 refine op1 tok ?_
    refine runEnd ?_
    refine cnd ?_ ?_
    ·intro h98
     try simp at h98
     rw [if_pos (show w = kwFuel from h98)] at hL
     have hnum := number_ev hE rest (by omega)
     subst hL
     refine rgz [.nilp, .int .i64 (numberM rest)] [[], [], [], [8, 102, 103], [], [8]] ?_
     iterate 6 refine op1 tok ?_ (hv := by first | with_reducible exact True.intro | (exact hnum; done) | omega | simp | (simp; omega) | (simp +contextual; omega))
     refine runEnd ?_
     refine rgn [] [[], [4]] ?_
     iterate 2 refine op1 tok ?_
     refine runEnd ?_
     exact AW.ret ⟨.inr rfl, _, _, by (conv => lhs; simp), trivial, by simp, by simp, by simp, by simp⟩
    ·intro h98
     try simp at h98
     rw [if_neg (show ¬ w = kwFuel from h98)] at hL
     refine rgn [] [[], [0, 6, 8, 105]] ?_
     iterate 2 refine op1 tok ?_
     refine runEnd ?_
     refine cnd ?_ ?_
     ·intro h105
      try simp at h105
      rw [if_pos (show w = kwQuota from h105)] at hL
      have hnum := number_ev hE rest (by omega)
      subst hL
      refine rgz [.nilp, .int .i64 (numberM rest)] [[], [], [], [8, 109, 110], [], [8]] ?_
      iterate 6 refine op1 tok ?_ (hv := by first | with_reducible exact True.intro | (exact hnum; done) | omega | simp | (simp; omega) | (simp +contextual; omega))
      refine runEnd ?_
      refine rgn [] [[], [4]] ?_
      iterate 2 refine op1 tok ?_
      refine runEnd ?_
      exact AW.ret ⟨.inr rfl, _, _, by (conv => lhs; simp), trivial, by simp, by simp, by simp, by simp⟩
     ·intro h105
      try simp at h105
      rw [if_neg (show ¬ w = kwQuota from h105)] at hL
      subst hL
      refine rgz [] [[]] ?_
      refine op1 tok ?_
      refine runEnd ?_
      refine rgn [] [[], [4]] ?_
      iterate 2 refine op1 tok ?_
      refine runEnd ?_
      exact AW.ret ⟨.inr rfl, _, _, by (conv => lhs; simp), trivial, by simp, by simp, by simp, by simp⟩
end Go.Proofs.YtdjjmppnnkkloaaGreatDoor
namespace Go.Proofs.YtdjjmppnnkkloaaGreatDoor
open Sy Go
set_option maxRecDepth 100000
set_option maxHeartbeats 4000000
set_option linter.unusedSimpArgs false
set_option linter.unusedVariables false
variable {G : Glob}
theorem line_cats {p : Pol} {s : List UInt8} (h : catsMayM p.cats = 0) (h2 : (lineM p s).2 = true) : catsMayM (lineM p s).1.cats = 0 := by
 unfold lineM at h2 ⊢
 simp only at h2 ⊢
 split
 ·rename_i h1; rw [if_pos h1] at h2; simpa using h2
 ·split
  ·exact h
  ·split
   ·exact h
   ·split
    ·exact h
    ·split <;> exact h
theorem line_marks (p : Pol) (s : List UInt8) : (lineM p s).1.marks.length ≤ p.marks.length + 1 := by
 unfold lineM
 simp only
 repeat' split
 all_goals simp
theorem cutEnd_le (c : UInt8) (s : List UInt8) : (cutEnd c s).length ≤ s.length := by
 unfold cutEnd; split <;> simp
theorem split_le {c : UInt8} : ∀ {s : List UInt8} {l : List UInt8}, l ∈ splitB c s → l.length ≤ s.length
 | [], l, h => by simp [splitB] at h; simp [h]
 | b :: r, l, h => by
  simp only [splitB] at h
  split at h
  ·rcases List.mem_cons.1 h with rfl | h
   ·simp
   ·have := split_le h; simp; omega
  ·split at h
   ·rename_i e; exact absurd e (splitB_ne c r)
   ·rename_i x t e
    have hx := fun l => split_le (c := c) (s := r) (l := l)
    rw [e] at hx
    rcases List.mem_cons.1 h with rfl | h
    ·have := hx x (by simp); simp; omega
    ·have := hx l (List.mem_cons.2 (.inr h)); simp; omega
theorem polParse_ev (hG : U8 G) (hP : PW G) (hE : PE G) (s : List UInt8) (hs : s.length ≤ 90000) : AFn Tryz.prog G 11 [.str s] (.tup [(polParse s).1.enc, .int .i64 (polParse s).2]) := by
 refine AFn.introU tok Tryz.func11 (by kernel_rfl) rfl rfl ?_
 simp only [Tryz.f11, enumA, List.map_cons, List.map_nil]
 have htr := TrimSuffix_ev (G := G) s 10
 have htl := cutEnd_le 10 s
 have hsp := Split_ar (G := G) (cutEnd 10 s) 10 (by omega)
 have hwl : (splitB 10 (cutEnd 10 s)).length ≤ 90001 := by rw [splitB_len]; have : (cutEnd 10 s).count 10 ≤ (cutEnd 10 s).length := List.count_le_length; omega
 have hll : ∀ l ∈ splitB 10 (cutEnd 10 s), l.length ≤ 90000 := fun l hl => by have := split_le hl; omega
 have hrd : readP s = (splitB 10 (cutEnd 10 s)).foldl stepP (pol0, true) := rfl
 generalize splitB 10 (cutEnd 10 s) = ws at *
 generalize cutEnd 10 s = tr at *
 unfold polParse
 generalize readP s = R at *
 refine rgn [] [[], [0, 2]] ?_
 iterate 2 refine op1 tok ?_
 refine runEnd ?_
 refine rgn [] [[]] ?_
 refine op1 tok ?_
 refine runEnd ?_
 refine AW.renE 2 802 (by simp) (by conv => lhs; simp) ?_
 refine AW.renE 4 2 (by simp) (by conv => lhs; simp) ?_
 refine AW.fillE 2 [some 1] (by conv => lhs; simp) ?_
 refine AW.beginBox 2 3 1 59 2 (by simp; exact ⟨rfl, rfl⟩) (by simp) (by simp) (by conv => lhs; simp) ?_
 refine rgn [] [[]] ?_
 refine op1 tok ?_
 refine runEnd ?_
 refine AW.seq ?_
 refine rgn [.nilp, .str tr, .nilf, .sl 1 (ws.map PD.str), .clo 9 []] [[], [], [], [], [0, 2, 4, 5, 10, 11, 12]] ?_
 iterate 5 refine op1 tok ?_ (hv := by first | with_reducible exact True.intro | (first | exact htr | exact hsp | (simp; exact hsp); done) | omega | simp | (simp; omega) | (simp +contextual; omega))
 refine runEnd ?_
 refine AW.block ?_
 refine AW.loop (α := Nat × Pol × Bool) (fun a => a.1 ≤ ws.length ∧ R = (ws.drop a.1).foldl stepP a.2 ∧ (a.2.2 = true → catsMayM a.2.1.cats = 0) ∧ a.2.1.marks.length ≤ a.1) (fun a => ⟨upds 37 [(0, .p (.str s)), (2, .ptr 802 0), (4, .ptr 2 0), (5, .p (.bool a.2.2)), (10, .ms 10), (11, .p (.int .i64 ws.length)), (12, .p (.int .i64 a.1))], [], [(10, .row 9 1 (ws.map PD.str)), (3, .row 59 2 (a.2.1.marks.map Mk.enc)), (2, .vars 25 [.p (.sl 1 (a.2.1.cats.map PD.str)), .ms 3, .p (.str a.2.1.token), .p (.int .i64 a.2.1.fuel), .p (.int .i64 a.2.1.quota)]), (802, .vars 25 [.nilsl, .nilsl, .p (.str []), .p (.int .i64 0), .p (.int .i64 0)])], 0⟩) (fun a => ws.length - a.1) ((0, pol0, true)) ⟨by simp only []; omega, hrd, fun _ => by rfl, by simp [pol0]⟩ ⟨upds_le (by simp), rfl, by simp [pol0], by simp⟩ ?_
 rintro ⟨k, q, ok⟩ ⟨hk, hq, hc, hm⟩
 simp only at hk hq hc hm
 refine rgn [] [[]] ?_
 refine op1 tok ?_
 refine runEnd ?_
 refine AW.seq ?_
 refine cnd ?_ ?_
 ·intro h13
  try simp at h13
  obtain ⟨l, hl⟩ : ∃ l, ws[k]? = some l := ⟨ws[k], by simp [h13]⟩
  rw [drop_get hl] at hq
  simp only [List.foldl_cons] at hq
  have hlen := hll l (List.mem_of_getElem? hl)
  refine AW.skip ?_
  refine AW.seq ?_
  refine AW.block ?_
  refine rgn [.str l] [[], [], [0, 2, 4, 5, 7, 10, 11, 12]] ?_
  iterate 3 refine op1 tok ?_ (hv := by first | with_reducible exact True.intro | (simp [hl]; done) | omega | simp | (simp; omega) | (simp +contextual; omega))
  refine runEnd ?_
  by_cases hs6 : ok = true
  ·
   subst hs6
   refine rgz [] [[], [], []] ?_
   iterate 2 refine op1 tok ?_
   refine op2 tok ?_
   refine runOff ?_
   refine AOpsO.stepKIf [0, 2, 4, 10, 11, 12, 17, 19] 17 rfl rfl (y_cx rfl (line_ax hG hP hE q l (hc rfl) (by omega) (by omega)) (by simp)) (by simp) (by conv => lhs; simp) ?_
   refine AOpsO.run [[], [0, 2, 4, 5, 10, 11, 12]] ?_
   iterate 2 refine op1 tok ?_
   refine runEnd ?_
   refine rgz [] [[], [0, 2, 4, 5, 10, 11, 12]] ?_
   iterate 2 refine op1 tok ?_
   refine runEnd ?_
   exact ⟨(k + 1, lineM q l), ⟨by simp only []; omega, hq, fun h => line_cats (hc rfl) h, by have := line_marks q l; simp only []; omega⟩, by simp only []; omega, upds_le (by simp), rfl, by simp, by simp⟩
  ·
   obtain rfl : ok = false := (by simpa using hs6)
   refine rgz [] [[], [], [], [0, 2, 4, 10, 11, 12, 17, 19], [], [0, 2, 4, 5, 10, 11, 12]] ?_
   iterate 2 refine op1 tok ?_
   iterate 2 refine op2 tok ?_
   iterate 2 refine op1 tok ?_
   refine runEnd ?_
   refine rgz [] [[], [0, 2, 4, 5, 10, 11, 12]] ?_
   iterate 2 refine op1 tok ?_
   refine runEnd ?_
   exact ⟨(k + 1, q, false), ⟨by simp only []; omega, hq, fun h => absurd h (by simp), by simp only []; omega⟩, by simp only []; omega, upds_le (by simp), rfl, by simp, by simp⟩
 ·intro h13
  try simp at h13
  rw [List.drop_of_length_le h13] at hq
  simp only [List.foldl_nil] at hq
  subst hq
  have hM := polMay_ev hG q
  have hPr := fun h => polPrint_ev (G := G) hP q (may_pol.1 h)
  simp only [Pol.enc] at hM hPr
  refine AW.exit ?_
  simp
  refine AW.seq ?_
  refine AW.freezeE 3 (by conv => lhs; simp) ?_
  refine rgn [.nilp, .int .i64 (polMay q), .nilp, .str (polPrint q)] [[], [], [], [], [0, 2, 4, 24, 26], [], [], [0, 2, 4, 29], [], [], [], [2, 4, 29, 33], [2, 4, 34]] ?_
  iterate 13 first | refine op1 tok ?_ (hv := by first | with_reducible exact True.intro | (first | exact hM | ((repeat' (first | with_reducible apply And.intro | intro _)) <;> first | exact (hM) | exact (hPr (by omega)) | exact (hPr) | assumption | omega | contradiction | simp_all); done) | omega | simp | (simp; omega) | (simp +contextual; omega)) | refine op2 tok ?_ (hv := by first | with_reducible exact True.intro | (first | exact hM | ((repeat' (first | with_reducible apply And.intro | intro _)) <;> first | exact (hM) | exact (hPr (by omega)) | exact (hPr) | assumption | omega | contradiction | simp_all); done) | omega | simp | (simp; omega) | (simp +contextual; omega))
  refine runEnd ?_
  refine cnd ?_ ?_
  ·intro h34
   try simp at h34
   rw [if_neg (by
    rintro ⟨h1, h2, h3⟩
    rcases h34 with (h | h) | h
    ·rw [h1] at h; cases h
    ·exact h h2
    ·exact h h3)]
   refine rgn [] [[], [], [2, 3]] ?_
   iterate 3 refine op1 tok ?_
   refine runEnd ?_
   exact AW.ret ⟨.inr rfl, _, _, by (conv => lhs; simp), trivial, by simp [pol0]⟩
  ·intro h34
   try simp at h34
   rw [if_pos ⟨h34.1.1, h34.1.2, h34.2⟩]
   refine AW.skip ?_
   refine rgn [] [[], [], [2, 3]] ?_
   iterate 3 refine op1 tok ?_
   refine runEnd ?_
   exact AW.ret ⟨.inr rfl, _, _, by (conv => lhs; simp), trivial, by simp⟩
end Go.Proofs.YtdjjmppnnkkloaaGreatDoor
namespace Go.Proofs.YtdjjmppnnkkloaaGreatDoor
open Sy Go
set_option maxRecDepth 100000
set_option maxHeartbeats 4000000
set_option linter.unusedSimpArgs false
set_option linter.unusedVariables false
variable {G : Glob}
def shTxt : List UInt8 := [99, 97, 116, 115, 32, 97, 32, 98, 10, 109, 97, 114, 107, 32, 98, 32, 36, 46, 107, 10, 116, 111, 107, 101, 110, 32, 34, 35, 34, 10, 102, 117, 101, 108, 32, 57, 10, 113, 117, 111, 116, 97, 32, 51, 10]
def shPol : Pol := ⟨[[97], [98]], [⟨[⟨1, [107], 0⟩], 2⟩], [35], 9, 3⟩
theorem sh8_read : readP shTxt = (shPol, true) := by decide +kernel
theorem sh8_print : polPrint shPol = shTxt := by decide +kernel
theorem sh8_may : polMay shPol = 0 := by decide +kernel
theorem sh8_parse : polParse shTxt = (shPol, 0) := by
 unfold polParse
 rw [sh8_read]
 exact if_pos ⟨rfl, sh8_may, sh8_print⟩
theorem shown8_ev (hG : U8 G) (hP : PW G) (hE : PE G) : AFn Tryz.prog G 9 [] (.bool true) := by
 refine AFn.introU tok Tryz.func9 (by kernel_rfl) rfl rfl ?_
 simp only [Tryz.f9, enumA, List.map_cons, List.map_nil]
 have h := polParse_ev hG hP hE shTxt (by decide)
 rw [sh8_parse] at h
 simp only [shTxt, shPol, Pol.enc, Mk.enc, Step.enc, List.map_cons, List.map_nil] at h
 refine rgn [] [[44]] ?_
 refine op1 tok ?_
 refine runEnd ?_
 refine rgn [.nilp, .tup [.agg [.sl 1 [.str [97], .str [98]], .sl 2 [.agg [.sl 3 [.agg [.int .i64 1, .str [107], .int .i64 0]], .int .u64 2]], .str [35], .int .i64 9, .int .i64 3], .int .i64 0]] [[], [], [], [], [], [], [1, 2]] ?_
 iterate 7 refine op1 tok ?_ (hv := by first | with_reducible exact True.intro | (exact h; done) | omega | simp | (simp; omega) | (simp +contextual; omega))
 refine runEnd ?_
 refine rgn [.agg [.sl 3 [.agg [.int .i64 1, .str [107], .int .i64 0]], .int .u64 2]] [[], [], [], [], [1, 9, 11], [], [], [1, 14], [], [], [], [], [1, 15, 19], [], [], [], [1, 21, 23], [], [], [], [1, 21, 27], [], [], [], [1, 29, 31], [], [], [1, 34], [], [], [], [1, 38], [], [], [], [39, 42], [], [0]] ?_
 iterate 38 first | refine op1 tok ?_ | refine op2 tok ?_
 refine runEnd ?_
 exact AW.ret ⟨.inr rfl, _, _, by (conv => lhs; simp), trivial, by simp⟩
end Go.Proofs.YtdjjmppnnkkloaaGreatDoor
namespace Go.Proofs.YtdjjmppnnkkloaaGreatDoor
open Sy Go
set_option maxRecDepth 100000
set_option maxHeartbeats 4000000
set_option linter.unusedSimpArgs false
set_option linter.unusedVariables false
variable {G : Glob}
def upTo {α β : Type} (f : α → β) (n : Nat) (l : List α) (k : Nat) : List β := ((l.take n).map f).take k
@[simp] theorem upTo_zero {α β : Type} (f : α → β) (n : Nat) (l : List α) : upTo f n l 0 = [] := rfl
theorem upTo_succ {α β : Type} (f : α → β) {l : List α} {n k : Nat} {x : α} (h : l[k]? = some x) (hk : k < n) : upTo f n l (k + 1) = upTo f n l k ++ [f x] := by
 have : ((l.take n).map f)[k]? = some (f x) := by simp [List.getElem?_take, hk, h]
 unfold upTo
 rw [List.take_add_one, this]; rfl
theorem upTo_end {α β : Type} (f : α → β) {l : List α} {n k : Nat} (h : l.length ≤ k ∨ n ≤ k) : upTo f n l k = upTo f n l n := by
 unfold upTo
 rw [← List.map_take, ← List.map_take, List.take_take, List.take_take]
 rcases h with h | h
 ·rw [Nat.min_self]
  by_cases hkn : k ≤ n
  ·rw [Nat.min_eq_left hkn, List.take_of_length_le h, List.take_of_length_le (by omega)]
  ·rw [Nat.min_eq_right (by omega)]
 ·rw [Nat.min_eq_right h, Nat.min_self]
theorem upTo_len {α β : Type} (f : α → β) (n : Nat) (l : List α) (k : Nat) : (upTo f n l k).length ≤ n := by
 unfold upTo; simp; omega
def few40 (c : List UInt8) : List UInt8 := c.take 40
theorem few40_eq (c : List UInt8) : few40 c = c.take 40 := rfl
def fewK (m : Mk) : Mk := ⟨upTo few1 12 m.path 12, m.mask⟩
def fewPol (p : Pol) : Pol := ⟨upTo few40 70 p.cats 70, upTo fewK 20 p.marks 20, p.token.take 100, p.fuel, p.quota⟩
theorem few8_ev (p : Pol) : AFn Tryz.prog G 10 [p.enc] ((fewPol p).enc) := by
 refine AFn.introU tok Tryz.func10 (by kernel_rfl) rfl rfl ?_
 simp only [Tryz.f10, enumA, List.map_cons, List.map_nil]
 refine rgn [] [[], [1, 2]] ?_
 iterate 2 refine op1 tok ?_
 refine runEnd ?_
 refine rgn [] [[], [], [], [], [], [], [1, 2, 18], [], [1, 2, 3]] ?_
 iterate 9 refine op1 tok ?_
 refine runEnd ?_
 refine AW.join (α := Unit) (fun _ => True) (fun _ => ⟨upds 118 [(1, .ptr 1 0), (2, .ptr 2 0), (3, .ptr 3 0)], [], [(1, .vars 25 [.p (.sl 1 (p.cats.map PD.str)), .p (.sl 2 (p.marks.map Mk.enc)), .p (.str p.token), .p (.int .i64 p.fuel), .p (.int .i64 p.quota)]), (2, .vars 25 [.nilsl, .nilsl, .p (.str []), .p (.int .i64 0), .p (.int .i64 0)]), (3, .vars 25 [.nilsl, .nilsl, .p (.str (p.token.take 100)), .p (.int .i64 p.fuel), .p (.int .i64 p.quota)])], 0⟩) ?_ ?_
 ·
  refine rgn [] [[], [], [], [1, 2, 3, 22]] ?_
  iterate 4 refine op1 tok ?_
  refine runEnd ?_
  refine cnd ?_ ?_
  ·intro h22
   try simp at h22
   refine rgz [] [[], [], [], [], [1, 2, 3]] ?_
   iterate 5 refine op1 tok ?_
   refine runEnd ?_
   exact ⟨(), trivial, upds_le (by simp), rfl, by simp, by simp⟩
  ·intro h22
   try simp at h22
   refine AW.skip ?_
   exact ⟨(), trivial, upds_le (by simp [List.take_of_length_le (show p.token.length ≤ 100 by omega)]), rfl, by simp [List.take_of_length_le (show p.token.length ≤ 100 by omega)], by simp [List.take_of_length_le (show p.token.length ≤ 100 by omega)]⟩
 ·
  rintro _ _
  refine rgn [] [[], [1, 2, 3, 4]] ?_
  iterate 2 refine op1 tok ?_
  refine runEnd ?_
  refine AW.seq ?_
  refine rgn [] [[]] ?_
  refine op1 tok ?_
  refine runEnd ?_
  refine AW.block ?_
  refine AW.loop (α := Nat) (fun k => k ≤ p.cats.length ∧ k ≤ 70) (fun k => ⟨upds 118 [(1, .ptr 1 0), (2, .ptr 2 0), (3, .ptr 3 0), (4, .ms 27), (5, .p (.int .i64 k))], [], [(1, .vars 25 [.p (.sl 1 (p.cats.map PD.str)), .p (.sl 2 (p.marks.map Mk.enc)), .p (.str p.token), .p (.int .i64 p.fuel), .p (.int .i64 p.quota)]), (2, .vars 25 [.nilsl, .nilsl, .p (.str []), .p (.int .i64 0), .p (.int .i64 0)]), (3, .vars 25 [.nilsl, .nilsl, .p (.str (p.token.take 100)), .p (.int .i64 p.fuel), .p (.int .i64 p.quota)]), (27, .row 9 1 ((upTo few40 70 p.cats k).map PD.str))], 0⟩) (fun k => p.cats.length - k) (0) ⟨by omega, by omega⟩ ⟨upds_le (by simp), rfl, by simp, by simp⟩ ?_
  rintro k ⟨hk, hk2⟩
  refine AW.seq ?_
  refine rgn [] [[], [], [], [], [1, 2, 3, 4, 5, 32], [], [], [], [1, 2, 3, 4, 5, 36]] ?_
  iterate 6 refine op1 tok ?_
  iterate 2 refine op2 tok ?_
  refine op1 tok ?_
  refine runEnd ?_
  refine cnd ?_ ?_
  ·intro h36
   try simp at h36
   obtain ⟨c, hc⟩ : ∃ c, p.cats[k]? = some c := ⟨p.cats[k]'(by omega), by simp [show k < p.cats.length by omega]⟩
   have hsn := upTo_succ few40 (n := 70) hc (by omega)
   have h40 := few40_eq c
   have hln := upTo_len few40 70 p.cats k
   refine AW.skip ?_
   refine AW.seq ?_
   refine AW.block ?_
   refine rgn [.str c] [[], [], [], [], [1, 2, 3, 4, 5, 43], [1, 2, 3, 4, 5, 6]] ?_
   iterate 6 refine op1 tok ?_ (hv := by first | with_reducible exact True.intro | (first | (simp [hc]; done) | (simp [hc]; omega); done) | omega | simp | (simp; omega) | (simp +contextual; omega))
   refine runEnd ?_
   refine AW.seq ?_
   refine rgn [] [[], [], [1, 2, 3, 4, 5, 6, 46]] ?_
   iterate 3 refine op1 tok ?_
   refine runEnd ?_
   refine cnd ?_ ?_
   ·intro h46
    try simp at h46
    refine rgz [] [[], [], [1, 2, 3, 4, 5, 6]] ?_
    iterate 3 refine op1 tok ?_
    refine runEnd ?_
    refine rgz [.str (c.take 40)] [[], [], [], [1, 2, 3, 5, 52], [1, 2, 3, 4, 5]] ?_
    iterate 5 refine op1 tok ?_ (hv := by first | with_reducible exact True.intro | (first | (simp; omega) | simp; done) | omega | simp | (simp; omega) | (simp +contextual; omega))
    refine runEnd ?_
    refine rgz [] [[], [], [1, 2, 3, 4, 5]] ?_
    iterate 3 refine op1 tok ?_
    refine runEnd ?_
    exact ⟨k + 1, ⟨by omega, by omega⟩, by omega, upds_le (by simp [hsn, h40]), rfl, by simp [hsn, h40], by simp [hsn, h40]⟩
   ·intro h46
    try simp at h46
    refine AW.skip ?_
    refine rgz [.str c] [[], [], [], [1, 2, 3, 5, 52], [1, 2, 3, 4, 5]] ?_
    iterate 5 refine op1 tok ?_ (hv := by first | with_reducible exact True.intro | (first | (simp; omega) | simp; done) | omega | simp | (simp; omega) | (simp +contextual; omega))
    refine runEnd ?_
    refine rgz [] [[], [], [1, 2, 3, 4, 5]] ?_
    iterate 3 refine op1 tok ?_
    refine runEnd ?_
    exact ⟨k + 1, ⟨by omega, by omega⟩, by omega, upds_le (by simp [hsn, h40, List.take_of_length_le (show c.length ≤ 40 by omega)]), rfl, by simp [hsn, h40, List.take_of_length_le (show c.length ≤ 40 by omega)], by simp [hsn, h40, List.take_of_length_le (show c.length ≤ 40 by omega)]⟩
  ·intro h36
   try simp at h36
   rw [upTo_end few40 (l := p.cats) (n := 70) (k := k) (by
    by_cases h : k < p.cats.length
    ·have := h36 (by omega); exact .inr (by omega)
    ·exact .inl (by omega))]
   refine AW.exit ?_
   simp
   refine rgn [] [[], [1, 2, 3, 4, 7]] ?_
   iterate 2 refine op1 tok ?_
   refine runEnd ?_
   refine AW.seq ?_
   refine rgn [] [[]] ?_
   refine op1 tok ?_
   refine runEnd ?_
   refine AW.block ?_
   refine AW.loop (α := Nat) (fun k => k ≤ p.marks.length ∧ k ≤ 20) (fun k => ⟨upds 118 [(1, .ptr 1 0), (2, .ptr 2 0), (3, .ptr 3 0), (4, .ms 27), (7, .ms 53), (8, .p (.int .i64 k))], [], [(1, .vars 25 [.p (.sl 1 (p.cats.map PD.str)), .p (.sl 2 (p.marks.map Mk.enc)), .p (.str p.token), .p (.int .i64 p.fuel), .p (.int .i64 p.quota)]), (2, .vars 25 [.nilsl, .nilsl, .p (.str []), .p (.int .i64 0), .p (.int .i64 0)]), (3, .vars 25 [.nilsl, .nilsl, .p (.str (p.token.take 100)), .p (.int .i64 p.fuel), .p (.int .i64 p.quota)]), (27, .row 9 1 ((upTo few40 70 p.cats 70).map PD.str)), (53, .row 59 2 ((upTo fewK 20 p.marks k).map Mk.enc))], 0⟩) (fun k => p.marks.length - k) (0) ⟨by omega, by omega⟩ ⟨upds_le (by simp), rfl, by simp, by simp⟩ ?_
   rintro k ⟨hk, hk2⟩
   refine AW.seq ?_
   refine rgn [] [[], [], [], [], [1, 2, 3, 4, 7, 8, 58], [], [], [], [1, 2, 3, 4, 7, 8, 62]] ?_
   iterate 6 refine op1 tok ?_
   iterate 2 refine op2 tok ?_
   refine op1 tok ?_
   refine runEnd ?_
   refine cnd ?_ ?_
   ·intro h62
    try simp at h62
    obtain ⟨x, hx⟩ : ∃ x, p.marks[k]? = some x := ⟨p.marks[k]'(by omega), by simp [show k < p.marks.length by omega]⟩
    have hsn := upTo_succ fewK (n := 20) hx (by omega)
    have hln := upTo_len fewK 20 p.marks k
    refine AW.skip ?_
    refine AW.seq ?_
    refine AW.block ?_
    refine rgn [] [[], [1, 2, 3, 4, 7, 8, 9]] ?_
    iterate 2 refine op1 tok ?_
    refine runEnd ?_
    refine AW.seq ?_
    refine rgn [] [[]] ?_
    refine op1 tok ?_
    refine runEnd ?_
    refine AW.block ?_
    refine AW.loop (α := Nat) (fun j => j ≤ x.path.length ∧ j ≤ 12) (fun j => ⟨upds 118 [(1, .ptr 1 0), (2, .ptr 2 0), (3, .ptr 3 0), (4, .ms 27), (7, .ms 53), (8, .p (.int .i64 k)), (9, .ms 65), (10, .p (.int .i64 j))], [], [(1, .vars 25 [.p (.sl 1 (p.cats.map PD.str)), .p (.sl 2 (p.marks.map Mk.enc)), .p (.str p.token), .p (.int .i64 p.fuel), .p (.int .i64 p.quota)]), (2, .vars 25 [.nilsl, .nilsl, .p (.str []), .p (.int .i64 0), .p (.int .i64 0)]), (3, .vars 25 [.nilsl, .nilsl, .p (.str (p.token.take 100)), .p (.int .i64 p.fuel), .p (.int .i64 p.quota)]), (27, .row 9 1 ((upTo few40 70 p.cats 70).map PD.str)), (53, .row 59 2 ((upTo fewK 20 p.marks k).map Mk.enc)), (65, .row 57 3 ((upTo few1 12 x.path j).map Step.enc))], 0⟩) (fun j => x.path.length - j) (0) ⟨by omega, by omega⟩ ⟨upds_le (by simp), rfl, by simp, by simp⟩ ?_
    rintro j ⟨hj, hj2⟩
    refine AW.seq ?_
    refine rgn [x.enc] [[], [], [], [], [], [1, 2, 3, 4, 7, 8, 9, 10, 66, 71], [], [], [1, 2, 3, 4, 7, 8, 9, 10, 74], [], [], [], [1, 2, 3, 4, 7, 8, 9, 10, 78]] ?_
    iterate 10 refine op1 tok ?_ (hv := by first | with_reducible exact True.intro | (first | (simp [hx]; done) | (simp [hx]; omega); done) | omega | simp | (simp; omega) | (simp +contextual; omega))
    iterate 2 refine op2 tok ?_ (hv := by first | with_reducible exact True.intro | (first | (simp [hx]; done) | (simp [hx]; omega); done) | omega | simp | (simp; omega) | (simp +contextual; omega))
    refine op1 tok ?_ (hv := by first | with_reducible exact True.intro | (first | (simp [hx]; done) | (simp [hx]; omega); done) | omega | simp | (simp; omega) | (simp +contextual; omega))
    refine runEnd ?_
    refine cnd ?_ ?_
    ·intro h78
     try simp at h78
     obtain ⟨t, ht⟩ : ∃ t, x.path[j]? = some t := ⟨x.path[j]'(by omega), by simp [show j < x.path.length by omega]⟩
     have hsn2 := upTo_succ few1 (n := 12) ht (by omega)
     have hln2 := upTo_len few1 12 x.path j
     refine AW.skip ?_
     refine AW.seq ?_
     refine AW.block ?_
     refine rgn [x.enc, t.enc] [[], [], [], [], [1, 2, 3, 4, 7, 8, 9, 10, 85], [], [], [], [1, 2, 3, 4, 7, 8, 9, 10, 89], [], [1, 2, 3, 4, 7, 8, 9, 10, 11]] ?_
     iterate 11 refine op1 tok ?_ (hv := by first | with_reducible exact True.intro | (first | (simp [hx]; done) | (simp [ht]; done) | (simp [hx, ht]; omega); done) | omega | simp | (simp; omega) | (simp +contextual; omega))
     refine runEnd ?_
     refine AW.seq ?_
     refine rgn [] [[], [], [], [1, 2, 3, 4, 7, 8, 9, 10, 11, 93]] ?_
     iterate 4 refine op1 tok ?_
     refine runEnd ?_
     refine cnd ?_ ?_
     ·intro h93
      try simp at h93
      have hf1 : few1 t = ⟨t.kind, t.key.take 40, t.n⟩ := by unfold few1; rw [if_pos (by omega)]
      refine rgz [] [[], [], [], [], [1, 2, 3, 4, 7, 8, 9, 10, 11]] ?_
      iterate 5 refine op1 tok ?_
      refine runEnd ?_
      refine rgz [.agg [.int .i64 t.kind, .str (t.key.take 40), .int .i64 t.n]] [[], [], [], [1, 2, 3, 4, 7, 8, 10, 101], [1, 2, 3, 4, 7, 8, 9, 10]] ?_
      iterate 5 refine op1 tok ?_ (hv := by first | with_reducible exact True.intro | (first | (simp; omega) | simp; done) | omega | simp | (simp; omega) | (simp +contextual; omega))
      refine runEnd ?_
      refine rgz [] [[], [], [1, 2, 3, 4, 7, 8, 9, 10]] ?_
      iterate 3 refine op1 tok ?_
      refine runEnd ?_
      exact ⟨j + 1, ⟨by omega, by omega⟩, by omega, upds_le (by simp [hsn2, hf1]), rfl, by simp [hsn2, hf1], by simp [hsn2, hf1]⟩
     ·intro h93
      try simp at h93
      have hf1 : few1 t = t := by unfold few1; rw [if_neg (by omega)]
      refine AW.skip ?_
      refine rgz [t.enc] [[], [], [], [1, 2, 3, 4, 7, 8, 10, 101], [1, 2, 3, 4, 7, 8, 9, 10]] ?_
      iterate 5 refine op1 tok ?_ (hv := by first | with_reducible exact True.intro | (first | (simp; omega) | simp; done) | omega | simp | (simp; omega) | (simp +contextual; omega))
      refine runEnd ?_
      refine rgz [] [[], [], [1, 2, 3, 4, 7, 8, 9, 10]] ?_
      iterate 3 refine op1 tok ?_
      refine runEnd ?_
      exact ⟨j + 1, ⟨by omega, by omega⟩, by omega, upds_le (by simp [hsn2, hf1]), rfl, by simp [hsn2, hf1], by simp [hsn2, hf1]⟩
    ·intro h78
     try simp at h78
     rw [upTo_end few1 (l := x.path) (n := 12) (k := j) (by
      by_cases h : j < x.path.length
      ·have := h78 (by omega); exact .inr (by omega)
      ·exact .inl (by omega))]
     have hfk : fewK x = ⟨upTo few1 12 x.path 12, x.mask⟩ := rfl
     generalize upTo few1 12 x.path 12 = path at *
     refine AW.exit ?_
     simp
     refine AW.freezeE 65 (by conv => lhs; simp) ?_
     refine rgz [x.enc, .agg [.sl 3 (path.map Step.enc), .int .u64 x.mask]] [[], [], [], [], [], [1, 2, 3, 4, 8, 102, 103, 107], [], [], [1, 2, 3, 4, 8, 102, 110], [], [], [1, 2, 3, 4, 7, 8]] ?_
     iterate 12 refine op1 tok ?_ (hv := by first | with_reducible exact True.intro | (first | (simp [hx]; done) | (simp; omega) | simp; done) | omega | simp | (simp; omega) | (simp +contextual; omega))
     refine runEnd ?_
     refine rgz [] [[], [], [1, 2, 3, 4, 7, 8]] ?_
     iterate 3 refine op1 tok ?_
     refine runEnd ?_
     exact ⟨k + 1, ⟨by omega, by omega⟩, by omega, upds_le (by simp [hsn, hfk]), rfl, by simp [hsn, hfk], by simp [hsn, hfk]⟩
   ·intro h62
    try simp at h62
    rw [upTo_end fewK (l := p.marks) (n := 20) (k := k) (by
     by_cases h : k < p.marks.length
     ·have := h62 (by omega); exact .inr (by omega)
     ·exact .inl (by omega))]
    refine AW.exit ?_
    simp
    refine rgn [] [[], [], [2, 3, 7]] ?_
    iterate 3 refine op1 tok ?_
    refine runEnd ?_
    refine rgn [] [[], [], [2, 3]] ?_
    iterate 3 refine op1 tok ?_
    refine runEnd ?_
    refine AW.freezeE 27 (by conv => lhs; simp) ?_
    refine AW.freezeE 53 (by conv => lhs; simp) ?_
    refine rgn [] [[], [2]] ?_
    iterate 2 refine op1 tok ?_
    refine runEnd ?_
    exact AW.ret ⟨.inr rfl, _, _, by (conv => lhs; simp), trivial, by simp [fewPol]⟩
end Go.Proofs.YtdjjmppnnkkloaaGreatDoor
namespace Go.Proofs.YtdjjmppnnkkloaaGreatDoor
open Sy Go
set_option linter.unusedSimpArgs false
set_option linter.unusedVariables false
theorem upTo_mem {α β : Type} {f : α → β} {n : Nat} {l : List α} {k : Nat} {y : β} (h : y ∈ upTo f n l k) : ∃ x ∈ l, y = f x := by
 unfold upTo at h
 obtain ⟨x, hx, rfl⟩ := List.mem_map.1 (List.mem_of_mem_take h)
 exact ⟨x, List.mem_of_mem_take hx, rfl⟩
theorem fewPol_masks {p : Pol} (h : ∀ m ∈ p.marks, InM m.mask) : ∀ m ∈ (fewPol p).marks, InM m.mask := fun m hm => by
 obtain ⟨x, hx, rfl⟩ := upTo_mem hm
 exact h x hx
theorem fewPol_keys {p : Pol} : ∀ m ∈ (fewPol p).marks, ∀ t ∈ m.path, t.key.length ≤ 40 := fun m hm t ht => by
 obtain ⟨x, hx, rfl⟩ := upTo_mem hm
 obtain ⟨u, hu, rfl⟩ := upTo_mem (show t ∈ upTo few1 12 x.path 12 from ht)
 unfold few1
 split
 ·simp
  omega
 ·omega
theorem fewPol_paths {p : Pol} : ∀ m ∈ (fewPol p).marks, m.path.length ≤ 12 := fun m hm => by
 obtain ⟨x, hx, rfl⟩ := upTo_mem hm
 exact upTo_len few1 12 x.path 12
theorem fewPol_marks (p : Pol) : (fewPol p).marks.length ≤ 20 := upTo_len fewK 20 p.marks 20
theorem fewPol_cats {p : Pol} : ∀ c ∈ (fewPol p).cats, c.length ≤ 40 := fun c hc => by
 obtain ⟨x, hx, rfl⟩ := upTo_mem hc
 unfold few40
 simp
 omega
theorem fewPol_token (p : Pol) : (fewPol p).token.length ≤ 100 := by
 simp only [fewPol, List.length_take]
 omega
end Go.Proofs.YtdjjmppnnkkloaaGreatDoor
namespace Go.Proofs.YtdjjmppnnkkloaaGreatDoor
open Sy Go
set_option maxRecDepth 100000
set_option linter.unusedSimpArgs false
set_option linter.unusedVariables false
variable {G : Glob}
def deepAt (l : List Step) (i : Nat) : Bool := match l[i]? with
 | some t => decide (t.kind = 5)
 | none => false
def sprF (l : List Step) (F : Nat → Bool) : Nat → Bool
 | 0 => F 0
 | i + 1 => F (i + 1) || (sprF l F i && deepAt l i)
def sprG (l : List Step) (F : Nat → Bool) (k : Nat) (i : Nat) : Bool := if i ≤ k then sprF l F i else F i
theorem sprG_zero (l : List Step) (F : Nat → Bool) (n : Nat) : rowP n (sprG l F 0) = rowP n F := rowP_congr fun i _ => by
 simp only [sprG]; split
 ·rename_i h; have : i = 0 := by omega
  subst this; rfl
 ·rfl
theorem sprG_step {l : List Step} {F : Nat → Bool} {n a : Nat} {t : Step} (ht : l[a]? = some t) :
  rowP n (fun k => if k = a + 1 then sprG l F a (a + 1) || (sprG l F a a && decide (t.kind = 5)) else sprG l F a k) = rowP n (sprG l F (a + 1)) := rowP_congr fun i _ => by
 by_cases h : i = a + 1
 ·subst h; simp [sprG, sprF, deepAt, ht, show ¬ a + 1 ≤ a by omega]
 ·simp only [h, if_false, sprG]
  by_cases h2 : i ≤ a
  ·simp [h2, show i ≤ a + 1 by omega]
  ·simp [h2, show ¬ i ≤ a + 1 by omega]
theorem sprG_end (l : List Step) (F : Nat → Bool) (a : Nat) (h : l.length ≤ a) : rowP (l.length + 1) (sprG l F a) = rowP (l.length + 1) (sprF l F) := rowP_congr fun i hi => by
 simp [sprG, show i ≤ a by omega]
def sprS (i j : Nat) (l : List Step) (F : Nat → Bool) (k : Nat) : St := ⟨[.ms i, .ptr j 0, .dead, .dead, .dead, .dead, .p (.sl 3 (l.map Step.enc)), .p (.int .i64 l.length), .p (.int .i64 k)] ++ List.replicate 26 .dead, [i, j],
 [(i, .row 4 1 (rowP (l.length + 1) (sprG l F k))), (j, .vars 52 [.p (.sl 3 (l.map Step.enc))])], 1000⟩
theorem spread_ev (i j : Nat) (l : List Step) (F : Nat → Bool) (hij : i = 15 ∧ j = 2 ∨ i = 31 ∧ j = 2) : AX Tryz.prog G 95 [.ms i, .ptr j 0] [(i, .row 4 1 (rowP (l.length + 1) F)), (j, .vars 52 [.p (.sl 3 (l.map Step.enc))])] (.ms i) [i, j]
  [(i, .row 4 1 (rowP (l.length + 1) (sprF l F))), (j, .vars 52 [.p (.sl 3 (l.map Step.enc))])] := by
 refine AX.intro tok 1000 Tryz.func95 (by kernel_rfl) rfl ?_
 simp only [Tryz.f95, St.startX]
 rcases hij with ⟨rfl, rfl⟩ | ⟨rfl, rfl⟩
 all_goals
  refine AW.seqRun tok [] (by intro C; conv => lhs; simp) trivial ?_
  refine AW.seq ?_
  refine AW.seqRun tok [] (by intro C; conv => lhs; simp) trivial ?_
  refine AW.slFact (i := 6) rfl ?_
  intro hlen
  refine AW.block ?_
  refine AW.loop (α := Nat) (fun a => a ≤ l.length) (fun a => sprS _ _ l F a) (fun a => l.length - a) 0 (by omega) ⟨by simp [sprS], rfl, by simp [sprS, sprG_zero], by simp [sprS]⟩ ?_
  intro a hI
  simp only [sprS]
  refine AW.seqRun tok [] (by intro C; conv => lhs; simp) trivial ?_
  refine AW.seq ?_
  refine AW.cond (c := .tmp 9) (by conv => lhs; simp) trivial ?_ ?_
  ·intro h1
   simp at h1
   obtain ⟨t, ht⟩ : ∃ t, l[a]? = some t := ⟨l[a], by simp [h1]⟩
   refine AW.skip ?_
   refine AW.seq ?_
   refine AW.block ?_
   refine AW.seqRun tok [t.enc] (by intro C; conv => lhs; simp) (by simp [ht]) ?_
   refine AW.run tok [.bool (sprG l F a (a + 1)), .bool (sprG l F a a), .bool (sprG l F a (a + 1)), .bool (sprG l F a (a + 1) || (sprG l F a a && decide (t.kind = 5)))] (by intro C; conv => lhs; simp) (by simp +contextual [h1, show a < l.length + 1 by omega]; simp at hlen; omega) ?_
   refine AW.run tok [] (by intro C; conv => lhs; simp) (by simp at hlen; omega) ?_
   exact ⟨a + 1, by omega, by omega, by simp [sprS], rfl, by simp [sprS, sprG_step ht], by simp [sprS]⟩
  ·intro h1
   simp at h1
   refine AW.exit ?_
   simp
   refine AW.seqRun tok [] (by intro C; conv => lhs; simp) trivial ?_
   exact AW.ret ⟨.inr rfl, _, _, by (conv => lhs; simp), trivial, by simp, by simp, by simp [sprG_end l F a (by omega)], by simp⟩
end Go.Proofs.YtdjjmppnnkkloaaGreatDoor
