import Derived.Test.YtdojfdaglbphlaaGreatDoorK1
import Derived.Test.YtdojfdaglbphlaaGreatDoorM4
import Derived.Test.YtdojfdaglbphlaaGreatDoorM3
import Derived.Lib.ValidLaws
import Derived.Shelf.Unicode.ValidAny
import Derived.Shelf.Strings.Builder1
import Derived.Shelf.Unicode.DecodeAny
import Derived.Lib.MapLaws
namespace Go.Proofs.YtdojfdaglbphlaaGreatDoor
open Sy Go
set_option linter.unusedSimpArgs false
set_option linter.unusedVariables false
theorem dcMay_ok {d : Dc} (h : dcMay d = true) : okD d ∧ d.digits.length ≤ 60 ∧ d.scale ≤ 60 := by
 unfold dcMay at h
 simp only [Bool.and_eq_true, decide_eq_true_eq] at h
 obtain ⟨⟨h1, h2⟩, _⟩ := h
 exact ⟨⟨by omega, by omega, by omega, h1⟩, by omega, by omega⟩
theorem valD_pos {s : List UInt8} (hd : s.all isDig = true) (hl : 0 < s.length) (h : byteAt s 0 ≠ 48) : 10 ^ (s.length - 1) ≤ valD s := by
 cases s with
 | nil => simp at hl
 | cons b s =>
  simp only [List.all_cons, Bool.and_eq_true] at hd
  have h1 := (isDig_iff b).1 hd.1
  have h2 : b.toNat ≠ 48 := by simp [byteAt] at h; omega
  rw [valD_cons]
  have := Nat.mul_le_mul_right (10 ^ s.length) (show 1 ≤ b.toNat - 48 by omega)
  simp; omega
end Go.Proofs.YtdojfdaglbphlaaGreatDoor
namespace Go.Proofs.YtdojfdaglbphlaaGreatDoor
open Sy Go
set_option maxRecDepth 100000
set_option linter.unusedSimpArgs false
set_option linter.unusedVariables false
variable {G : Glob}
def rloop (s : List UInt8) (i : Nat) : Nat → Nat → Int → Option Int
 | 0, _, v => some v
 | r + 1, j, v => match s[i + j]? with
  | none => none
  | some c => if (c.toNat : Int) < 128 ∨ 192 ≤ (c.toNat : Int) then none else rloop s i r (j + 1) (64 * v + c.toNat - 128)
def rcase (c : Int) : Nat × Int × Int :=
 if 194 ≤ c ∧ c < 224 then (2, 128, c - 192) else if 224 ≤ c ∧ c < 240 then (3, 2048, c - 224) else if 240 ≤ c ∧ c < 245 then (4, 65536, c - 240) else (0, 0, 0)
def rfin (low : Int) (need : Nat) : Option Int → Int × Int
 | none => (0, 0)
 | some v => if v < low ∨ v > 1114111 ∨ (55296 ≤ v ∧ v < 57344) then (0, 0) else (v, need)
def rtail (s : List UInt8) (i : Nat) (x : Nat × Int × Int) : Int × Int := if x.1 = 0 ∨ s.length < i + x.1 then (0, 0) else rfin x.2.1 x.1 (rloop s i (x.1 - 1) 1 x.2.2)
def runeM (s : List UInt8) (i : Nat) : Int × Int := match s[i]? with
 | none => (0, 0)
 | some b => if (b.toNat : Int) < 128 then (b.toNat, 1) else rtail s i (rcase b.toNat)
def rS (s : List UInt8) (i : Nat) (x : Nat × Int × Int) : St := ⟨[.p (.str s), .p (.int .i64 i), .dead, .dead, .p (.int .i64 0), .p (.int .i64 0), .dead, .p (.int .i64 x.1), .p (.int .i64 x.2.1), .p (.int .i64 x.2.2)] ++ List.replicate 86 .dead, [], [], 0⟩
def rS2 (s : List UInt8) (i : Nat) (need : Nat) (low : Int) (a : Nat × Int) : St := ⟨[.p (.str s), .p (.int .i64 i), .dead, .dead, .p (.int .i64 0), .p (.int .i64 0), .dead, .p (.int .i64 need), .p (.int .i64 low), .p (.int .i64 a.2), .p (.int .i64 a.1)] ++ List.replicate 85 .dead, [], [], 0⟩
theorem Rune_ev (s : List UInt8) (i : Nat) (hi : i < s.length) (hs : s.length ≤ 1000000000) : AFn Tryz.prog G 133 [.str s, .int .i64 i] (.tup [.int .i64 (runeM s i).1, .int .i64 (runeM s i).2]) := by
 refine AFn.intro tok Tryz.func133 (by kernel_rfl) rfl ?_
 simp only [Tryz.f133, St.start]
 obtain ⟨b, hb⟩ : ∃ b, s[i]? = some b := ⟨s[i], by simp [hi]⟩
 have hblt : b.toNat < 256 := b.toNat_lt
 have hrune : runeM s i = if (b.toNat : Int) < 128 then ((b.toNat : Int), 1) else rtail s i (rcase b.toNat) := by simp only [runeM, hb]
 refine AW.seqRun tok [] (by intro C; conv => lhs; simp) trivial ?_
 refine AW.seqRun tok [.int .u8 b.toNat] (by intro C; conv => lhs; simp) (by simp [hb]) ?_
 refine AW.seqRun tok [] (by intro C; conv => lhs; simp) trivial ?_
 refine AW.seqRun tok [] (by intro C; conv => lhs; simp) trivial ?_
 refine AW.seqRun tok [] (by intro C; conv => lhs; simp) trivial ?_
 refine AW.join (α := Nat × Int × Int) (fun x => runeM s i = rtail s i x ∧ x.1 ≤ 4 ∧ 0 ≤ x.2.2 ∧ x.2.2 ≤ 40) (fun x => rS s i x) ?_ ?_
 ·refine AW.block ?_
  refine AW.seqRun tok [] (by intro C; conv => lhs; simp) trivial ?_
  refine AW.cond (c := .tmp 16) (by conv => lhs; simp) trivial ?_ ?_
  ·intro h1
   simp at h1
   refine AW.seqRun tok [] (by intro C; conv => lhs; simp) trivial ?_
   exact AW.ret ⟨.inr rfl, _, _, by (conv => lhs; simp), trivial, by rw [hrune, if_pos h1]; simp⟩
  ·intro h1
   simp at h1
   have hr2 : runeM s i = rtail s i (rcase b.toNat) := by rw [hrune, if_neg (by omega)]
   refine AW.seqRun tok [] (by intro C; conv => lhs; simp) (by simp) ?_
   refine AW.cond (c := .tmp 20) (by conv => lhs; simp) trivial ?_ ?_
   ·intro h2
    simp at h2
    refine AW.seqRun tok [] (by intro C; conv => lhs; simp) trivial ?_
    refine AW.seqRun tok [] (by intro C; conv => lhs; simp) trivial ?_
    refine AW.run tok [] (by intro C; conv => lhs; simp) (by omega) ?_
    exact ⟨(2, 128, b.toNat - 192), ⟨by rw [hr2]; simp [rcase, h2], by simp, by simp; omega, by simp; omega⟩, by simp [rS], rfl, by simp [rS], by simp [rS]⟩
   ·intro h2
    refine AW.seqRun tok [] (by intro C; conv => lhs; simp) (by simp) ?_
    refine AW.cond (c := .tmp 29) (by conv => lhs; simp) trivial ?_ ?_
    ·intro h3
     simp at h3
     refine AW.seqRun tok [] (by intro C; conv => lhs; simp) trivial ?_
     refine AW.seqRun tok [] (by intro C; conv => lhs; simp) trivial ?_
     refine AW.run tok [] (by intro C; conv => lhs; simp) (by omega) ?_
     exact ⟨(3, 2048, b.toNat - 224), ⟨by rw [hr2]; simp [rcase, h3, show ¬ ((b.toNat : Int) < 224) by omega], by simp, by simp; omega, by simp; omega⟩, by simp [rS], rfl, by simp [rS], by simp [rS]⟩
    ·intro h3
     refine AW.seqRun tok [] (by intro C; conv => lhs; simp) (by simp) ?_
     refine AW.cond (c := .tmp 38) (by conv => lhs; simp) trivial ?_ ?_
     ·intro h4
      simp at h4
      refine AW.seqRun tok [] (by intro C; conv => lhs; simp) trivial ?_
      refine AW.seqRun tok [] (by intro C; conv => lhs; simp) trivial ?_
      refine AW.run tok [] (by intro C; conv => lhs; simp) (by omega) ?_
      exact ⟨(4, 65536, b.toNat - 240), ⟨by rw [hr2]; simp [rcase, h4, show ¬ ((b.toNat : Int) < 224) by omega, show ¬ ((b.toNat : Int) < 240) by omega], by simp, by simp; omega, by simp; omega⟩, by simp [rS], rfl, by simp [rS], by simp [rS]⟩
     ·intro h4
      simp at h2 h3 h4
      refine AW.skip ?_
      exact ⟨(0, 0, 0), ⟨by rw [hr2]; simp [rcase, show ¬ (194 ≤ (b.toNat : Int) ∧ (b.toNat : Int) < 224) by omega, show ¬ (224 ≤ (b.toNat : Int) ∧ (b.toNat : Int) < 240) by omega, show ¬ (240 ≤ (b.toNat : Int) ∧ (b.toNat : Int) < 245) by omega],
       by simp, by simp, by simp⟩, by simp [rS], rfl, by simp [rS], by simp [rS]⟩
 ·rintro ⟨need, low, v0⟩ ⟨hr, hneed, hv0, hv1⟩
  simp only at hneed hv0 hv1
  simp only [rS]
  rw [hr]
  refine AW.seq ?_
  refine AW.seqRun tok [] (by intro C; conv => lhs; simp) (by simp +contextual; omega) ?_
  refine AW.cond (c := .tmp 56) (by conv => lhs; simp) trivial ?_ ?_
  ·intro h1
   simp at h1
   refine AW.seqRun tok [] (by intro C; conv => lhs; simp) trivial ?_
   exact AW.ret ⟨.inr rfl, _, _, by (conv => lhs; simp), trivial, by simp [rtail, show need = 0 ∨ s.length < i + need by omega]⟩
  ·intro h1
   simp at h1
   have hfit : ¬ (need = 0 ∨ s.length < i + need) := by omega
   have htl : rtail s i (need, low, v0) = rfin low need (rloop s i (need - 1) 1 v0) := by simp only [rtail]; rw [if_neg hfit]
   rw [htl]
   refine AW.skip ?_
   refine AW.seq ?_
   refine AW.seqRun tok [] (by intro C; conv => lhs; simp) trivial ?_
   refine AW.block ?_
   refine AW.loop (α := Nat × Int) (fun a => 1 ≤ a.1 ∧ a.1 ≤ need ∧ rloop s i (need - 1) 1 v0 = rloop s i (need - a.1) a.1 a.2 ∧ 0 ≤ a.2 ∧ (a.1 = 1 → a.2 ≤ 40) ∧ (a.1 = 2 → a.2 ≤ 3000) ∧ (a.1 = 3 → a.2 ≤ 200000) ∧ (a.1 = 4 → a.2 ≤ 14000000))
    (fun a => rS2 s i need low a) (fun a => need - a.1) (1, v0) ⟨by simp, by omega, rfl, hv0, fun _ => hv1, by simp, by simp, by simp⟩ ⟨by simp [rS2], rfl, by simp [rS2], by simp [rS2]⟩ ?_
   rintro ⟨j, v⟩ ⟨hj1, hj2, hlp, hv, hb1, hb2, hb3, hb4⟩
   simp only at hj1 hj2 hlp hv hb1 hb2 hb3 hb4
   simp only [rS2]
   refine AW.seq ?_
   refine AW.seqRun tok [] (by intro C; conv => lhs; simp) trivial ?_
   refine AW.cond (c := .tmp 59) (by conv => lhs; simp) trivial ?_ ?_
   ·intro h4
    simp at h4
    obtain ⟨c, hc⟩ : ∃ c, s[i + j]? = some c := ⟨s[i + j]'(by omega), by simp [show i + j < s.length by omega]⟩
    have hclt : c.toNat < 256 := c.toNat_lt
    have hstep : rloop s i (need - j) j v = if (c.toNat : Int) < 128 ∨ 192 ≤ (c.toNat : Int) then none else rloop s i (need - (j + 1)) (j + 1) (64 * v + c.toNat - 128) := by
     rw [show need - j = (need - (j + 1)) + 1 by omega]; simp only [rloop, hc]
    refine AW.skip ?_
    refine AW.seq ?_
    refine AW.block ?_
    refine AW.seqRun tok [.int .u8 c.toNat] (by intro C; conv => lhs; simp) (by rw [show ((i : Int) + j).toNat = i + j by omega]; simp [hc]; omega) ?_
    refine AW.seq ?_
    refine AW.seqRun tok [] (by intro C; conv => lhs; simp) (by simp) ?_
    refine AW.cond (c := .tmp 73) (by conv => lhs; simp) trivial ?_ ?_
    ·intro h5
     simp at h5
     refine AW.seqRun tok [] (by intro C; conv => lhs; simp) trivial ?_
     exact AW.ret ⟨.inr rfl, _, _, by (conv => lhs; simp), trivial, by rw [hlp, hstep, if_pos (by omega)]; simp [rfin]⟩
    ·intro h5
     simp at h5
     refine AW.skip ?_
     refine AW.run tok [] (by intro C; conv => lhs; simp) (by omega) ?_
     refine AW.run tok [] (by intro C; conv => lhs; simp) (by omega) ?_
     exact ⟨(j + 1, 64 * v + c.toNat - 128), ⟨by simp, by simp; omega, by rw [hlp, hstep, if_neg (by omega)], by simp; omega, by simp; omega, by simp; omega, by simp; omega, by simp; omega⟩, by simp; omega, by simp [rS2], rfl, by simp [rS2], by simp [rS2]⟩
   ·intro h4
    simp at h4
    have hjn : j = need := by omega
    subst hjn
    rw [hlp]
    simp only [Nat.sub_self, rloop]
    refine AW.exit ?_
    simp
    refine AW.seq ?_
    refine AW.seqRun tok [] (by intro C; conv => lhs; simp) (by omega) ?_
    refine AW.cond (c := .tmp 93) (by conv => lhs; simp) trivial ?_ ?_
    ·intro h5
     simp at h5
     refine AW.seqRun tok [] (by intro C; conv => lhs; simp) trivial ?_
     exact AW.ret ⟨.inr rfl, _, _, by (conv => lhs; simp), trivial, by simp only [rfin]; rw [if_pos (by omega)]; simp⟩
    ·intro h5
     simp at h5
     refine AW.skip ?_
     refine AW.seqRun tok [] (by intro C; conv => lhs; simp) trivial ?_
     exact AW.ret ⟨.inr rfl, _, _, by (conv => lhs; simp), trivial, by simp only [rfin]; rw [if_neg (by omega)]; simp⟩
end Go.Proofs.YtdojfdaglbphlaaGreatDoor
namespace Go.Proofs.YtdojfdaglbphlaaGreatDoor
open Sy Go
set_option maxRecDepth 100000
set_option linter.unusedSimpArgs false
set_option linter.unusedVariables false
variable {G : Glob}
theorem runeM_len (s : List UInt8) (i : Nat) (hi : i < s.length) : 0 ≤ (runeM s i).2 ∧ (i : Int) + (runeM s i).2 ≤ s.length ∧ (runeM s i).2 ≤ 4 := by
 unfold runeM
 split
 ·simp; omega
 ·rename_i b hb
  split
  ·simp; omega
  ·have h4 : (rcase b.toNat).1 ≤ 4 := by
    unfold rcase; split
    ·simp
    ·split
     ·simp
     ·split <;> simp
   generalize rcase b.toNat = x at h4
   unfold rtail
   split
   ·simp; omega
   ·rename_i h
    have h' : i + x.1 ≤ s.length := by omega
    unfold rfin
    split
    ·simp; omega
    ·split
     ·simp; omega
     ·simp only; omega
def vloop (s : List UInt8) : Nat → Nat → Bool
 | 0, _ => true
 | f + 1, i => if i < s.length then (if (runeM s i).2 = 0 then false else vloop s f (i + (runeM s i).2.toNat)) else true
def validM (s : List UInt8) : Bool := vloop s (s.length + 1) 0
def vS (s : List UInt8) (i : Nat) : St := ⟨[.p (.str s), .dead, .p (.bool false), .p (.int .i64 i)] ++ List.replicate 17 .dead, [], [], 0⟩
theorem refValid_ev (s : List UInt8) (hs : s.length ≤ 1000000000) : AFn Tryz.prog G 75 [.str s] (.bool (validM s)) := by
 refine AFn.intro tok Tryz.func75 (by kernel_rfl) rfl ?_
 simp only [Tryz.f75, St.start]
 refine AW.seqRun tok [] (by intro C; conv => lhs; simp) trivial ?_
 refine AW.seqRun tok [] (by intro C; conv => lhs; simp) trivial ?_
 refine AW.seq ?_
 refine AW.block ?_
 refine AW.loop (α := Nat × Nat) (fun a => validM s = vloop s a.2 a.1 ∧ a.1 ≤ s.length ∧ s.length + 1 ≤ a.2 + a.1) (fun a => vS s a.1) (fun a => s.length - a.1) (0, s.length + 1) ⟨rfl, by simp, by simp⟩ ⟨by simp [vS], rfl, by simp [vS], by simp [vS]⟩ ?_
 rintro ⟨i, f⟩ ⟨hI, hi, hf⟩
 simp only at hI hi hf
 simp only [vS]
 refine AW.seq ?_
 refine AW.seqRun tok [] (by intro C; conv => lhs; simp) trivial ?_
 refine AW.cond (c := .tmp 9) (by conv => lhs; simp) trivial ?_ ?_
 ·intro h1
  simp at h1
  obtain ⟨f, rfl⟩ : ∃ f', f = f' + 1 := ⟨f - 1, by omega⟩
  have hl := runeM_len s i h1
  have hR := Rune_ev (G := G) s i h1 hs
  simp only [vloop, h1, if_true] at hI
  refine AW.skip ?_
  refine AW.block ?_
  refine AW.seqRun tok [.tup [.str s, .int .i64 i], .tup [.int .i64 (runeM s i).1, .int .i64 (runeM s i).2]] (by intro C; conv => lhs; simp) (by simp [hR]) ?_
  refine AW.seq ?_
  refine AW.seqRun tok [] (by intro C; conv => lhs; simp) trivial ?_
  refine AW.cond (c := .tmp 17) (by conv => lhs; simp) trivial ?_ ?_
  ·intro h2
   simp at h2
   refine AW.seqRun tok [] (by intro C; conv => lhs; simp) trivial ?_
   exact AW.ret ⟨.inr rfl, _, _, by (conv => lhs; simp), trivial, by rw [hI]; simp [h2]⟩
  ·intro h2
   simp at h2
   rw [if_neg h2] at hI
   refine AW.skip ?_
   refine AW.run tok [] (by intro C; conv => lhs; simp) (by omega) ?_
   exact ⟨(i + (runeM s i).2.toNat, f), ⟨hI, by simp; omega, by simp; omega⟩, by simp; omega, by simp [vS]; omega, rfl, by simp [vS], by simp [vS]⟩
 ·intro h1
  simp at h1
  refine AW.exit ?_
  simp
  refine AW.seqRun tok [] (by intro C; conv => lhs; simp) trivial ?_
  exact AW.ret ⟨.inr rfl, _, _, by (conv => lhs; simp), trivial, by
   rw [hI]
   cases f with
   | zero => simp [vloop]
   | succ f => simp only [vloop]; rw [if_neg (by omega)]; simp⟩
end Go.Proofs.YtdojfdaglbphlaaGreatDoor
namespace Go.Proofs.YtdojfdaglbphlaaGreatDoor
open Sy Go
set_option maxRecDepth 100000
set_option linter.unusedSimpArgs false
set_option linter.unusedVariables false
theorem ba_get {s : List UInt8} {j : Nat} {c : UInt8} (h : s[j]? = some c) : (⟨s.toArray⟩ : ByteArray).get! j = c := by
 have hj := (List.getElem?_eq_some_iff.1 h).1
 have hc := (List.getElem?_eq_some_iff.1 h).2
 show s.toArray[j]! = c
 rw [getElem!_pos s.toArray j (by simpa using hj)]
 simpa using hc
def byteO (o : Option UInt8) : Nat := match o with
 | some c => c.toNat
 | none => 0
def contO (o : Option UInt8) : Bool := match o with
 | some c => c.toNat / 64 == 2
 | none => false
def decO (b0 : Nat) (o1 o2 o3 : Option UInt8) : Nat × Nat :=
 if b0 < 0x80 then (b0, 1)
 else if b0 / 32 == 6 && contO o1 then
  if (b0 % 32) * 64 + byteO o1 % 64 ≥ 0x80 then ((b0 % 32) * 64 + byteO o1 % 64, 2) else (65533, 1)
 else if b0 / 16 == 14 && contO o1 && contO o2 then
  if (b0 % 16) * 4096 + (byteO o1 % 64) * 64 + byteO o2 % 64 ≥ 0x800 && Utf8.valid ((b0 % 16) * 4096 + (byteO o1 % 64) * 64 + byteO o2 % 64 : Nat) then ((b0 % 16) * 4096 + (byteO o1 % 64) * 64 + byteO o2 % 64, 3) else (65533, 1)
 else if b0 / 8 == 30 && contO o1 && contO o2 && contO o3 then
  if (b0 % 8) * 262144 + (byteO o1 % 64) * 4096 + (byteO o2 % 64) * 64 + byteO o3 % 64 ≥ 0x10000 && Utf8.valid ((b0 % 8) * 262144 + (byteO o1 % 64) * 4096 + (byteO o2 % 64) * 64 + byteO o3 % 64 : Nat) then
   ((b0 % 8) * 262144 + (byteO o1 % 64) * 4096 + (byteO o2 % 64) * 64 + byteO o3 % 64, 4) else (65533, 1)
 else (65533, 1)
theorem decode_O {s : List UInt8} {i : Nat} {b : UInt8} (h : s[i]? = some b) : Utf8.decode ⟨s.toArray⟩ i = decO b.toNat s[i + 1]? s[i + 2]? s[i + 3]? := by
 have hsz : (⟨s.toArray⟩ : ByteArray).size = s.length := by simp [ByteArray.size]
 have cont : ∀ k, (decide (i + k < (⟨s.toArray⟩ : ByteArray).size) && ((⟨s.toArray⟩ : ByteArray).get! (i + k)).toNat / 64 == 2) = contO s[i + k]? := by
  intro k
  rw [hsz]
  cases hk : s[i + k]? with
  | none =>
   have : ¬ i + k < s.length := by have := List.getElem?_eq_none_iff.1 hk; omega
   simp [contO, this]
  | some c =>
   have := (List.getElem?_eq_some_iff.1 hk).1
   simp [contO, this, ba_get hk]
 have byt : ∀ k, contO s[i + k]? = true → ((⟨s.toArray⟩ : ByteArray).get! (i + k)).toNat = byteO s[i + k]? := by
  intro k hk
  cases hc : s[i + k]? with
  | none => rw [hc] at hk; cases hk
  | some c => rw [ba_get hc]; rfl
 have b0 : ((⟨s.toArray⟩ : ByteArray).get! (i + 0)).toNat = b.toNat := by rw [Nat.add_zero, ba_get h]
 unfold Utf8.decode decO
 simp only [cont, b0]
 by_cases h1 : contO s[i + 1]? = true
 ·rw [byt 1 h1]
  by_cases h2 : contO s[i + 2]? = true
  ·rw [byt 2 h2]
   by_cases h3 : contO s[i + 3]? = true
   ·rw [byt 3 h3]; simp only [h1, h2, h3]; rfl
   ·simp only [h1, h2, h3, Bool.and_false, Bool.false_eq_true, if_false]; rfl
  ·simp only [h1, h2, Bool.and_false, Bool.false_and, Bool.false_eq_true, if_false]; rfl
 ·simp only [h1, Bool.and_false, Bool.false_and, Bool.false_eq_true, if_false]; rfl
theorem fin_case (low v : Int) (m k : Nat) (hk : k ≠ 0) (hv : v = (m : Int)) : (if (rfin low k (some v)).2 = 0 then ((65533 : Nat), (1 : Nat)) else ((rfin low k (some v)).1.toNat, (rfin low k (some v)).2.toNat)) =
  if (m : Int) < low ∨ (m : Int) > 1114111 ∨ (55296 ≤ (m : Int) ∧ (m : Int) < 57344) then (65533, 1) else (m, k) := by
 subst hv
 unfold rfin
 by_cases h : (m : Int) < low ∨ (m : Int) > 1114111 ∨ (55296 ≤ (m : Int) ∧ (m : Int) < 57344)
 ·simp only [h, if_true]
 ·simp only [h, if_false]
  rw [if_neg (by omega)]
  rfl
theorem valid_case (m : Nat) : Utf8.valid (m : Int) = decide (¬ ((m : Int) > 1114111 ∨ (55296 ≤ (m : Int) ∧ (m : Int) < 57344))) := by
 rw [Bool.eq_iff_iff]; simp only [Utf8.valid, Bool.or_eq_true, Bool.and_eq_true, decide_eq_true_eq]; omega
theorem isC (c : UInt8) : (c.toNat / 64 == 2) = decide (128 ≤ c.toNat ∧ c.toNat < 192) := by rw [Bool.eq_iff_iff]; simp only [beq_iff_eq, decide_eq_true_eq]; omega
theorem contO_some (c : UInt8) : contO (some c) = decide (128 ≤ c.toNat ∧ c.toNat < 192) := isC c
theorem rloop_ok {s : List UInt8} {i r j : Nat} {v : Int} {c : UInt8} (h : s[i + j]? = some c) (hc : 128 ≤ c.toNat ∧ c.toNat < 192) : rloop s i (r + 1) j v = rloop s i r (j + 1) (64 * v + c.toNat - 128) := by
 simp only [rloop, h]; rw [if_neg (by omega)]
theorem rloop_no {s : List UInt8} {i r j : Nat} {v : Int} {c : UInt8} (h : s[i + j]? = some c) (hc : ¬ (128 ≤ c.toNat ∧ c.toNat < 192)) : rloop s i (r + 1) j v = none := by
 simp only [rloop, h]; rw [if_pos (by omega)]
theorem decO_bad {n : Nat} {o1 o2 o3 : Option UInt8} (h0 : ¬ n < 128) (h : (n / 32 = 6 → contO o1 = true → n % 32 * 64 + byteO o1 % 64 < 128) ∧ (n / 16 = 14 → contO o1 = true → contO o2 = false) ∧ (n / 8 = 30 → contO o1 = true → contO o2 = true → contO o3 = true → 1114111 < n % 8 * 262144)) :
  decO n o1 o2 o3 = (65533, 1) := by
 obtain ⟨h1, h2, h3⟩ := h
 unfold decO
 rw [if_neg h0]
 by_cases a : n / 32 = 6
 ·have b : ¬ n / 16 = 14 := by omega
  have c : ¬ n / 8 = 30 := by omega
  cases hc : contO o1 with
  | true => simp only [a, beq_self_eq_true, Bool.and_self, if_true]; rw [if_neg (by have := h1 a hc; omega)]
  | false => simp [a, b, c]
 ·by_cases b : n / 16 = 14
  ·have c : ¬ n / 8 = 30 := by omega
   cases hc : contO o1 with
   | true => simp [a, b, c, h2 b hc]
   | false => simp [a, b, c]
  ·by_cases c : n / 8 = 30
   ·cases hc1 : contO o1 with
    | false => simp [a, b]
    | true =>
     cases hc2 : contO o2 with
     | false => simp [a, b]
     | true =>
      cases hc3 : contO o3 with
      | false => simp [a, b]
      | true =>
       have hb := h3 c hc1 hc2 hc3
       simp only [a, b, c, beq_iff_eq, beq_self_eq_true, Bool.false_and, Bool.and_self, Bool.and_true, if_false, if_true, Bool.false_eq_true]
       rw [if_neg]
       rw [valid_case]
       simp only [Bool.and_eq_true, decide_eq_true_eq]
       omega
   ·simp [a, b, c]
theorem decO_2 {n : Nat} {c : UInt8} {o2 o3 : Option UInt8} (h0 : ¬ n < 128) (hn : n / 32 = 6) (hc : 128 ≤ c.toNat ∧ c.toNat < 192) :
  decO n (some c) o2 o3 = if n % 32 * 64 + c.toNat % 64 ≥ 128 then (n % 32 * 64 + c.toNat % 64, 2) else (65533, 1) := by
 have h1 : contO (some c) = true := by rw [contO_some]; exact decide_eq_true hc
 unfold decO
 rw [if_neg h0, if_pos (by rw [h1, hn]; rfl)]
 rfl
theorem decO_3 {n : Nat} {c d : UInt8} {o3 : Option UInt8} (h0 : ¬ n < 128) (hn : n / 16 = 14) (hc : 128 ≤ c.toNat ∧ c.toNat < 192) (hd : 128 ≤ d.toNat ∧ d.toNat < 192) {m : Nat} (hm : m = n % 16 * 4096 + c.toNat % 64 * 64 + d.toNat % 64) :
  decO n (some c) (some d) o3 = if (m : Int) < 2048 ∨ (m : Int) > 1114111 ∨ (55296 ≤ (m : Int) ∧ (m : Int) < 57344) then (65533, 1) else (m, 3) := by
 have h1 : contO (some c) = true := by rw [contO_some]; exact decide_eq_true hc
 have h2 : contO (some d) = true := by rw [contO_some]; exact decide_eq_true hd
 have e1 : ¬ n / 32 = 6 := by omega
 unfold decO
 rw [if_neg h0, if_neg (by rw [h1]; simp [e1]), if_pos (by rw [h1, h2, hn]; rfl)]
 simp only [byteO, ← hm, valid_case]
 clear hm
 by_cases hb : (m : Int) < 2048 ∨ (m : Int) > 1114111 ∨ 55296 ≤ (m : Int) ∧ (m : Int) < 57344
 ·rw [if_pos hb, if_neg]; simp only [Bool.and_eq_true, decide_eq_true_eq]; omega
 ·rw [if_neg hb, if_pos]; simp only [Bool.and_eq_true, decide_eq_true_eq]; omega
theorem decO_4 {n : Nat} {c d e : UInt8} (h0 : ¬ n < 128) (hn : n / 8 = 30) (hc : 128 ≤ c.toNat ∧ c.toNat < 192) (hd : 128 ≤ d.toNat ∧ d.toNat < 192) (he : 128 ≤ e.toNat ∧ e.toNat < 192) {m : Nat}
  (hm : m = n % 8 * 262144 + c.toNat % 64 * 4096 + d.toNat % 64 * 64 + e.toNat % 64) :
  decO n (some c) (some d) (some e) = if (m : Int) < 65536 ∨ (m : Int) > 1114111 ∨ (55296 ≤ (m : Int) ∧ (m : Int) < 57344) then (65533, 1) else (m, 4) := by
 have h1 : contO (some c) = true := by rw [contO_some]; exact decide_eq_true hc
 have h2 : contO (some d) = true := by rw [contO_some]; exact decide_eq_true hd
 have h3 : contO (some e) = true := by rw [contO_some]; exact decide_eq_true he
 have e1 : ¬ n / 32 = 6 := by omega
 have e2 : ¬ n / 16 = 14 := by omega
 unfold decO
 rw [if_neg h0, if_neg (by rw [h1]; simp [e1]), if_neg (by rw [h1, h2]; simp [e2]), if_pos (by rw [h1, h2, h3, hn]; rfl)]
 simp only [byteO, ← hm, valid_case]
 clear hm
 by_cases hb : (m : Int) < 65536 ∨ (m : Int) > 1114111 ∨ 55296 ≤ (m : Int) ∧ (m : Int) < 57344
 ·rw [if_pos hb, if_neg]; simp only [Bool.and_eq_true, decide_eq_true_eq]; omega
 ·rw [if_neg hb, if_pos]; simp only [Bool.and_eq_true, decide_eq_true_eq]; omega
theorem rune_decode {s : List UInt8} {i : Nat} (hi : i < s.length) : Utf8.decode ⟨s.toArray⟩ i = if (runeM s i).2 = 0 then (65533, 1) else ((runeM s i).1.toNat, (runeM s i).2.toNat) := by
 obtain ⟨b, hb⟩ : ∃ b, s[i]? = some b := ⟨s[i], by simp [hi]⟩
 rw [decode_O hb]
 have hblt : b.toNat < 256 := b.toNat_lt
 have hr : runeM s i = if (b.toNat : Int) < 128 then ((b.toNat : Int), 1) else rtail s i (rcase b.toNat) := by simp only [runeM, hb]
 have in1 : ∀ k, s[i + k]? = none ↔ s.length ≤ i + k := fun k => List.getElem?_eq_none_iff
 have has : ∀ k, i + k < s.length → ∃ c, s[i + k]? = some c := fun k hk => ⟨s[i + k], by simp [hk]⟩
 generalize b.toNat = n at hblt hr
 by_cases h0 : n < 128
 ·rw [if_pos (by omega)] at hr
  rw [hr]
  simp [decO, h0]
 rw [if_neg (by omega)] at hr
 rw [hr]
 clear hr
 have tail0 : ∀ x : Nat × Int × Int, (x.1 = 0 ∨ s.length < i + x.1) → (if (rtail s i x).2 = 0 then ((65533 : Nat), (1 : Nat)) else ((rtail s i x).1.toNat, (rtail s i x).2.toNat)) = (65533, 1) := by
  intro x hx; unfold rtail; rw [if_pos hx]; rfl
 have tailn : ∀ x : Nat × Int × Int, ¬ (x.1 = 0 ∨ s.length < i + x.1) → rloop s i (x.1 - 1) 1 x.2.2 = none → (if (rtail s i x).2 = 0 then ((65533 : Nat), (1 : Nat)) else ((rtail s i x).1.toNat, (rtail s i x).2.toNat)) = (65533, 1) := by
  intro x hx hn; unfold rtail; rw [if_neg hx, hn]; rfl
 have tails : ∀ (x : Nat × Int × Int) (v : Int) (m : Nat), ¬ (x.1 = 0 ∨ s.length < i + x.1) → rloop s i (x.1 - 1) 1 x.2.2 = some v → v = m → (if (rtail s i x).2 = 0 then ((65533 : Nat), (1 : Nat)) else ((rtail s i x).1.toNat, (rtail s i x).2.toNat)) =
   if (m : Int) < x.2.1 ∨ (m : Int) > 1114111 ∨ (55296 ≤ (m : Int) ∧ (m : Int) < 57344) then (65533, 1) else (m, x.1) := by
  intro x v m hx hl hv; unfold rtail; rw [if_neg hx, hl]; exact fin_case _ _ _ _ (by omega) hv
 by_cases hA : 194 ≤ n ∧ n < 224
 ·have hrc : rcase n = (2, 128, (n : Int) - 192) := by unfold rcase; rw [if_pos (by omega)]
  rw [hrc]
  by_cases hl : s.length < i + 2
  ·rw [tail0 _ (Or.inr hl)]
   refine decO_bad h0 ⟨fun _ h => ?_, fun h => by omega, fun h => by omega⟩
   rw [(in1 1).2 (by omega)] at h; cases h
  obtain ⟨c, h1⟩ := has 1 (by omega)
  rw [h1]
  by_cases hc : 128 ≤ c.toNat ∧ c.toNat < 192
  ·rw [tails (2, 128, (n : Int) - 192) _ (n % 32 * 64 + c.toNat % 64) (by simp; omega) (by rw [show (2 : Nat) - 1 = 0 + 1 from rfl, rloop_ok h1 hc]; rfl) (by simp only []; omega)]
   rw [decO_2 h0 (by omega) hc, if_pos (by omega), if_neg (by simp only []; omega)]
  ·rw [tailn _ (by simp; omega) (by rw [show ((2 : Nat), (128 : Int), (n : Int) - 192).1 - 1 = 0 + 1 from rfl, rloop_no h1 hc])]
   refine decO_bad h0 ⟨fun _ h => ?_, fun h => by omega, fun h => by omega⟩
   rw [contO_some] at h; exact (hc (of_decide_eq_true h)).elim
 by_cases hB : 224 ≤ n ∧ n < 240
 ·have hrc : rcase n = (3, 2048, (n : Int) - 224) := by unfold rcase; rw [if_neg (by omega), if_pos (by omega)]
  rw [hrc]
  by_cases hl : s.length < i + 3
  ·rw [tail0 _ (Or.inr hl)]
   refine decO_bad h0 ⟨fun h => by omega, fun _ _ => ?_, fun h => by omega⟩
   rw [(in1 2).2 (by omega)]; rfl
  obtain ⟨c, h1⟩ := has 1 (by omega)
  obtain ⟨d, h2⟩ := has 2 (by omega)
  rw [h1, h2]
  by_cases hc : 128 ≤ c.toNat ∧ c.toNat < 192
  ·by_cases hd : 128 ≤ d.toNat ∧ d.toNat < 192
   ·rw [tails (3, 2048, (n : Int) - 224) _ (n % 16 * 4096 + c.toNat % 64 * 64 + d.toNat % 64) (by simp; omega) (by rw [show (3 : Nat) - 1 = 1 + 1 from rfl, rloop_ok h1 hc, show (1 : Nat) = 0 + 1 from rfl, rloop_ok h2 hd]; rfl) (by simp only []; omega)]
    exact decO_3 h0 (by omega) hc hd rfl
   ·rw [tailn _ (by simp; omega) (by rw [show ((3 : Nat), (2048 : Int), (n : Int) - 224).1 - 1 = 1 + 1 from rfl, rloop_ok h1 hc, show (1 : Nat) = 0 + 1 from rfl, rloop_no h2 hd])]
    refine decO_bad h0 ⟨fun h => by omega, fun _ _ => ?_, fun h => by omega⟩
    rw [contO_some]; exact decide_eq_false hd
  ·rw [tailn _ (by simp; omega) (by rw [show ((3 : Nat), (2048 : Int), (n : Int) - 224).1 - 1 = 1 + 1 from rfl, rloop_no h1 hc])]
   refine decO_bad h0 ⟨fun h => by omega, fun _ h => ?_, fun h => by omega⟩
   rw [contO_some] at h; exact (hc (of_decide_eq_true h)).elim
 by_cases hC : 240 ≤ n ∧ n < 245
 ·have hrc : rcase n = (4, 65536, (n : Int) - 240) := by unfold rcase; rw [if_neg (by omega), if_neg (by omega), if_pos (by omega)]
  rw [hrc]
  by_cases hl : s.length < i + 4
  ·rw [tail0 _ (Or.inr hl)]
   refine decO_bad h0 ⟨fun h => by omega, fun h => by omega, fun _ _ _ h => ?_⟩
   rw [(in1 3).2 (by omega)] at h; cases h
  obtain ⟨c, h1⟩ := has 1 (by omega)
  obtain ⟨d, h2⟩ := has 2 (by omega)
  obtain ⟨e, h3⟩ := has 3 (by omega)
  rw [h1, h2, h3]
  by_cases hc : 128 ≤ c.toNat ∧ c.toNat < 192
  ·by_cases hd : 128 ≤ d.toNat ∧ d.toNat < 192
   ·by_cases he : 128 ≤ e.toNat ∧ e.toNat < 192
    ·rw [tails (4, 65536, (n : Int) - 240) _ (n % 8 * 262144 + c.toNat % 64 * 4096 + d.toNat % 64 * 64 + e.toNat % 64) (by simp; omega)
      (by rw [show (4 : Nat) - 1 = 2 + 1 from rfl, rloop_ok h1 hc, show (2 : Nat) = 1 + 1 from rfl, rloop_ok h2 hd, show (1 : Nat) = 0 + 1 from rfl, rloop_ok h3 he]; rfl) (by simp only []; omega)]
     exact decO_4 h0 (by omega) hc hd he rfl
    ·rw [tailn _ (by simp; omega) (by rw [show ((4 : Nat), (65536 : Int), (n : Int) - 240).1 - 1 = 2 + 1 from rfl, rloop_ok h1 hc, show (2 : Nat) = 1 + 1 from rfl, rloop_ok h2 hd, show (1 : Nat) = 0 + 1 from rfl, rloop_no h3 he])]
     refine decO_bad h0 ⟨fun h => by omega, fun h => by omega, fun _ _ _ h => ?_⟩
     rw [contO_some] at h; exact (he (of_decide_eq_true h)).elim
   ·rw [tailn _ (by simp; omega) (by rw [show ((4 : Nat), (65536 : Int), (n : Int) - 240).1 - 1 = 2 + 1 from rfl, rloop_ok h1 hc, show (2 : Nat) = 1 + 1 from rfl, rloop_no h2 hd])]
    refine decO_bad h0 ⟨fun h => by omega, fun h => by omega, fun _ _ h => ?_⟩
    rw [contO_some] at h; exact (hd (of_decide_eq_true h)).elim
  ·rw [tailn _ (by simp; omega) (by rw [show ((4 : Nat), (65536 : Int), (n : Int) - 240).1 - 1 = 2 + 1 from rfl, rloop_no h1 hc])]
   refine decO_bad h0 ⟨fun h => by omega, fun h => by omega, fun _ h => ?_⟩
   rw [contO_some] at h; exact (hc (of_decide_eq_true h)).elim
 ·have hrc : rcase n = (0, 0, 0) := by unfold rcase; rw [if_neg (by omega), if_neg (by omega), if_neg (by omega)]
  rw [hrc, tail0 _ (.inl rfl)]
  refine decO_bad h0 ⟨fun h _ => ?_, fun h => by omega, fun h _ _ _ => by omega⟩
  have : byteO s[i + 1]? % 64 < 64 := Nat.mod_lt _ (by omega)
  omega
theorem runeM_drop (s : List UInt8) (i : Nat) : runeM s i = runeM (s.drop i) 0 := by
 have h : ∀ k, (s.drop i)[k]? = s[i + k]? := fun k => by rw [List.getElem?_drop]
 have hl : ∀ (f : Nat) (j : Nat) (v : Int), rloop s i f j v = rloop (s.drop i) 0 f j v := by
  intro f
  induction f with
  | zero => intro j v; rfl
  | succ f ih =>
   intro j v
   simp only [rloop, Nat.zero_add, h, ih]
 unfold runeM
 rw [h 0, Nat.add_zero]
 cases hb : s[i]? with
 | none => rfl
 | some b =>
  have hi := (List.getElem?_eq_some_iff.1 hb).1
  simp only [rtail, hl, List.length_drop]
  have e : (s.length < i + (rcase ↑b.toNat).1) ↔ (s.length - i < 0 + (rcase ↑b.toNat).1) := by omega
  simp only [e]
theorem valid_eq (s : List UInt8) : Lib.validD s = validM s := by
 have key : ∀ (n : Nat) (s : List UInt8) (i f : Nat), n = s.length - i → i ≤ s.length → s.length + 1 ≤ f + i → vloop s f i = Lib.validD (s.drop i) := by
  intro n
  induction n using Nat.strongRecOn with
  | _ n ih =>
   intro s i f hn hi hf
   cases f with
   | zero => omega
   | succ f =>
    simp only [vloop]
    by_cases hlt : i < s.length
    ·rw [if_pos hlt]
     have hne : s.drop i ≠ [] := by simp; omega
     rw [Lib.validD_step _ hne]
     have hd := rune_decode (s := s.drop i) (i := 0) (by simp; omega)
     rw [← runeM_drop] at hd
     have hl := runeM_len s i hlt
     have hdl : Lib.decodeL (s.drop i) = Utf8.decode ⟨(s.drop i).toArray⟩ 0 := rfl
     rw [hdl, hd]
     by_cases h0 : (runeM s i).2 = 0
     ·rw [if_pos h0, if_pos h0, if_pos ⟨rfl, rfl⟩]
     ·rw [if_neg h0, if_neg h0]
      have hne2 : ¬ ((runeM s i).1.toNat = 65533 ∧ (runeM s i).2.toNat = 1) := by
       rintro ⟨h1, h2⟩
       have : (runeM s i).1 = 65533 := by omega
       have h3 : (runeM s i).2 = 1 := by omega
       obtain ⟨b, hb⟩ : ∃ b, s[i]? = some b := ⟨s[i], by simp [hlt]⟩
       have hb256 : b.toNat < 256 := b.toNat_lt
       have hr : runeM s i = if (b.toNat : Int) < 128 then ((b.toNat : Int), 1) else rtail s i (rcase b.toNat) := by simp only [runeM, hb]
       rw [hr] at this h3
       split at this
       ·simp only [] at this; omega
       ·rename_i hge
        rw [if_neg hge] at h3
        unfold rtail at h3
        split at h3
        ·simp at h3
        ·rename_i hx
         have : (rcase b.toNat).1 = 0 ∨ 2 ≤ (rcase b.toNat).1 := by
          unfold rcase; repeat' split
          all_goals simp
         unfold rfin at h3
         split at h3
         ·simp at h3
         ·split at h3
          ·simp at h3
          ·simp only [] at h3; omega
      simp only []
      rw [if_neg hne2, List.drop_drop]
      exact ih _ (by omega) s (i + (runeM s i).2.toNat) f rfl (by omega) (by omega)
    ·rw [if_neg hlt, List.drop_eq_nil_of_le (by omega)]; rfl
 exact (key _ s 0 (s.length + 1) rfl (by omega) (by omega)).symm
end Go.Proofs.YtdojfdaglbphlaaGreatDoor
namespace Go.Proofs.YtdojfdaglbphlaaGreatDoor
open Sy Go
set_option maxRecDepth 100000
set_option maxHeartbeats 4000000
set_option linter.unusedSimpArgs false
set_option linter.unusedVariables false
variable {G : Glob}
def shortM (s : List UInt8) : List UInt8 := s.take 100
theorem short_ev (s : List UInt8) : AFn Tryz.prog G 27 [.str s] (.str (shortM s)) := by
 refine AFn.introU tok Tryz.func27 (by kernel_rfl) rfl rfl ?_
 simp only [Tryz.f27, enumA, List.map_cons, List.map_nil]
 refine rgn [] [[0]] ?_
 refine op1 tok ?_
 refine runEnd ?_
 refine AW.seq ?_
 refine rgn [] [[], [], [0, 5]] ?_
 iterate 3 refine op1 tok ?_
 refine runEnd ?_
 refine cnd ?_ ?_
 ·intro h5
  try simp at h5
  refine rgn [] [[], [], [2]] ?_
  iterate 3 refine op1 tok ?_
  refine runEnd ?_
  exact AW.ret ⟨.inr rfl, _, _, by (conv => lhs; simp), trivial, by simp [shortM]⟩
 ·intro h5
  try simp at h5
  refine AW.skip ?_
  refine rgn [] [[], [2]] ?_
  iterate 2 refine op1 tok ?_
  refine runEnd ?_
  exact AW.ret ⟨.inr rfl, _, _, by (conv => lhs; simp), trivial, by simp [shortM]; rw [List.take_of_length_le (by omega)]⟩
def wordM (s : List UInt8) : List UInt8 := if validM (shortM s) = true then shortM s else [97]
theorem shortM_len (s : List UInt8) : (shortM s).length ≤ 100 := by simp [shortM]; omega
theorem wordM_len (s : List UInt8) : (wordM s).length ≤ 100 := by
 unfold wordM; split
 ·exact shortM_len s
 ·simp
theorem word_ev (s : List UInt8) : AFn Tryz.prog G 28 [.str s] (.str (wordM s)) := by
 refine AFn.introU tok Tryz.func28 (by kernel_rfl) rfl rfl ?_
 simp only [Tryz.f28, enumA, List.map_cons, List.map_nil]
 have h1 := short_ev (G := G) s
 have hl := shortM_len s
 have h2 := refValid_ev (G := G) (shortM s) (by omega)
 refine rgn [] [[0]] ?_
 refine op1 tok ?_
 refine runEnd ?_
 refine rgn [.nilp, .str (shortM s)] [[], [], [0]] ?_
 iterate 3 refine op1 tok ?_ (hv := by first | with_reducible exact True.intro | (simp [h1]; done) | omega | simp | (simp; omega) | (simp +contextual; omega))
 refine runEnd ?_
 refine AW.seq ?_
 refine rgn [.nilp, .bool (validM (shortM s))] [[], [], [0, 7]] ?_
 iterate 3 refine op1 tok ?_ (hv := by first | with_reducible exact True.intro | (simp [h2]; done) | omega | simp | (simp; omega) | (simp +contextual; omega))
 refine runEnd ?_
 refine cnd ?_ ?_
 ·intro h7
  try simp at h7
  refine rgn [] [[]] ?_
  refine op1 tok ?_
  refine runEnd ?_
  exact AW.ret ⟨.inr rfl, _, _, by (conv => lhs; simp), trivial, by simp [wordM, h7]⟩
 ·intro h7
  try simp at h7
  refine AW.skip ?_
  refine rgn [] [[], [2]] ?_
  iterate 2 refine op1 tok ?_
  refine runEnd ?_
  exact AW.ret ⟨.inr rfl, _, _, by (conv => lhs; simp), trivial, by simp [wordM, h7]⟩
def kays (n : Nat) : List UInt8 := List.replicate n 107
def namedS (l : List (List UInt8)) (i : Nat) : List UInt8 := if h : i < l.length then wordM l[i] else kays (i - l.length + 1)
def addM (out : List (List UInt8)) (s : List UInt8) : List (List UInt8) := if s ∈ out then out else out ++ [s]
def namedGo (l : List (List UInt8)) (many : Nat) : Nat → Nat → List (List UInt8) → List (List UInt8)
 | 0, _, out => out
 | f + 1, i, out => if out.length < many then namedGo l many f (i + 1) (addM out (namedS l i)) else out
def namedM (l : List (List UInt8)) (many : Nat) : List (List UInt8) := namedGo l many (l.length + many + 1) 0 []
theorem nodup_le {α : Type} [DecidableEq α] : ∀ {l m : List α}, l.Nodup → (∀ x ∈ l, x ∈ m) → l.length ≤ m.length
 | [], m, _, _ => by simp
 | a :: l, m, hn, hs => by
  have ha := hs a (by simp)
  have hn' := List.nodup_cons.1 hn
  have := nodup_le (l := l) (m := m.erase a) hn'.2 fun x hx => (List.mem_erase_of_ne (by rintro rfl; exact hn'.1 hx)).2 (hs x (by simp [hx]))
  rw [List.length_erase_of_mem ha] at this
  have := List.length_pos_of_mem ha
  simp; omega
theorem kays_in {out : List (List UInt8)} {n : Nat} (h : ∀ t, 1 ≤ t → t ≤ n → kays t ∈ out) : n ≤ out.length := by
 have hs : ((List.range n).map fun t => kays (t + 1)).Nodup := by
  unfold List.Nodup
  refine List.Pairwise.map _ (fun a b hab => ?_) List.nodup_range
  intro he; have := congrArg List.length he; simp [kays] at this; exact hab this
 have := nodup_le hs (m := out) (by
  intro x hx; obtain ⟨t, ht, rfl⟩ := List.mem_map.1 hx
  simp at ht; exact h _ (by omega) (by omega))
 simpa using this
theorem namedGo_end {l : List (List UInt8)} {many : Nat} {out : List (List UInt8)} (h : ¬ out.length < many) : ∀ f i, namedGo l many f i out = out
 | 0, _ => rfl
 | f + 1, i => by simp only [namedGo]; rw [if_neg h]
theorem named_ev (l : List (List UInt8)) (many : Nat) (hl : l.length ≤ 140737488351232) (hm : many ≤ 100000) : AFn Tryz.prog G 29 [.sl 1 (l.map PD.str), .int .i64 many] (.sl 1 ((namedM l many).map PD.str)) := by
 refine AFn.introU tok Tryz.func29 (by kernel_rfl) rfl rfl ?_
 simp only [Tryz.f29, enumA, List.map_cons, List.map_nil]
 have hw := fun s => word_ev (G := G) s
 refine rgn [] [[0, 1]] ?_
 refine op1 tok ?_
 refine runEnd ?_
 refine rgn [] [[], [0, 1, 5]] ?_
 iterate 2 refine op1 tok ?_
 refine runEnd ?_
 refine rgn [] [[]] ?_
 refine op1 tok ?_
 refine runEnd ?_
 refine AW.seq ?_
 refine rgn [] [[]] ?_
 refine op1 tok ?_
 refine runEnd ?_
 refine AW.block ?_
 refine AW.loop (α := Nat × List (List UInt8)) (fun a => a.1 ≤ l.length + many ∧ namedM l many = namedGo l many (l.length + many + 1 - a.1) a.1 a.2 ∧ a.2.length ≤ many ∧ (∀ t, 1 ≤ t → t + l.length ≤ a.1 → kays t ∈ a.2)) (fun a => ⟨upds 52 [(0, .p (.sl 1 (l.map PD.str))), (1, .p (.int .i64 many)), (5, .ms 11), (6, .p (.str (kays (a.1 - l.length + 1)))), (7, .p (.int .i64 a.1))], [], [(11, .row 9 1 (a.2.map PD.str))], 0⟩) (fun a => l.length + many - a.1) ((0, [])) ⟨by simp, rfl, by simp, by intro t h1 h2; simp at h2; omega⟩ ⟨upds_le (by simp [kays]), rfl, by simp, by simp⟩ ?_
 rintro ⟨i, out⟩ ⟨hi, hn, ho, hk⟩
 simp only at hi hn ho hk
 have hkl : i - l.length ≤ out.length := kays_in fun t h1 h2 => hk t h1 (by omega)
 refine AW.seq ?_
 refine rgn [] [[], [], [], [0, 1, 5, 6, 7, 15]] ?_
 iterate 4 refine op1 tok ?_
 refine runEnd ?_
 refine cnd ?_ ?_
 ·intro h15
  try simp at h15
  have hstep : namedM l many = namedGo l many (l.length + many + 1 - (i + 1)) (i + 1) (addM out (namedS l i)) := by
   rw [hn, show l.length + many + 1 - i = (l.length + many + 1 - (i + 1)) + 1 by omega]; simp only [namedGo]; rw [if_pos h15]
  refine AW.skip ?_
  refine AW.seq ?_
  refine AW.block ?_
  refine rgn [] [[], [0, 1, 5, 6, 7, 8]] ?_
  iterate 2 refine op1 tok ?_
  refine runEnd ?_
  refine AW.join (α := Unit) (fun _ => True) (fun a => ⟨upds 52 [(0, .p (.sl 1 (l.map PD.str))), (1, .p (.int .i64 many)), (5, .ms 11), (6, .p (.str (kays (i + 1 - l.length + 1)))), (7, .p (.int .i64 i)), (8, .p (.str (namedS l i)))], [], [(11, .row 9 1 (out.map PD.str))], 0⟩) ?_ ?_
  ·
   refine rgn [] [[], [], [], [0, 1, 5, 6, 7, 8, 22]] ?_
   iterate 4 refine op1 tok ?_
   refine runEnd ?_
   refine cnd ?_ ?_
   ·intro h22
    try simp at h22
    have hs : namedS l i = wordM l[i] := by simp [namedS, h22]
    have hsl := wordM_len l[i]
    refine rgz [.str l[i], .nilp, .str (wordM l[i])] [[], [], [], [], [0, 1, 5, 6, 7, 27], [0, 1, 5, 6, 7, 8]] ?_
    iterate 6 refine op1 tok ?_ (hv := by first | with_reducible exact True.intro | (simp [hw, h22]; done) | omega | simp | (simp; omega) | (simp +contextual; omega))
    refine runEnd ?_
    exact ⟨(), trivial, upds_le (by simp [hs, show i + 1 - l.length = i - l.length from by omega]), rfl, by simp [hs, show i + 1 - l.length = i - l.length from by omega], by simp [hs, show i + 1 - l.length = i - l.length from by omega]⟩
   ·intro h22
    try simp at h22
    have hs : namedS l i = kays (i - l.length + 1) := by simp [namedS]; omega
    refine rgz [] [[], [], [0, 1, 5, 6, 7, 8]] ?_
    iterate 3 refine op1 tok ?_ (hv := by first | with_reducible exact True.intro | (simp [kays]; omega; done) | omega | simp | (simp; omega) | (simp +contextual; omega))
    refine runEnd ?_
    exact ⟨(), trivial, upds_le (by simp [hs, show i + 1 - l.length + 1 = i - l.length + 1 + 1 from by omega, kays, List.replicate_succ']), rfl, by simp [hs, show i + 1 - l.length + 1 = i - l.length + 1 + 1 from by omega, kays, List.replicate_succ'], by simp [hs, show i + 1 - l.length + 1 = i - l.length + 1 + 1 from by omega, kays, List.replicate_succ']⟩
  ·
   rintro a hI
   generalize hns : namedS l i = s at *
   have hkay : ∀ t, 1 ≤ t → t + l.length ≤ i + 1 → kays t ∈ addM out s := by
    intro t h1 h2
    by_cases h3 : t + l.length ≤ i
    ·have := hk t h1 h3
     unfold addM; split
     ·exact this
     ·simp [this]
    ·have : kays t = s := by rw [← hns]; simp only [namedS]; rw [dif_neg (by omega)]; congr 1; omega
     rw [this]; unfold addM; split
     ·assumption
     ·simp
   refine rgn [] [[]] ?_
   refine op1 tok ?_
   refine runEnd ?_
   refine AW.seq ?_
   refine rgn [] [[]] ?_
   refine op1 tok ?_
   refine runEnd ?_
   refine AW.block ?_
   refine AW.loop (α := Nat) (fun k => k ≤ out.length) (fun k => ⟨upds 52 [(0, .p (.sl 1 (l.map PD.str))), (1, .p (.int .i64 many)), (5, .ms 11), (6, .p (.str (kays (i + 1 - l.length + 1)))), (7, .p (.int .i64 i)), (8, .p (.str s)), (9, .p (.bool (decide (s ∈ out.take k)))), (10, .p (.int .i64 k))], [], [(11, .row 9 1 (out.map PD.str))], 0⟩) (fun k => out.length - k) (0) (by omega) ⟨upds_le (by simp), rfl, by simp, by simp⟩ ?_
   rintro k hko
   refine AW.seq ?_
   refine rgn [] [[], [], [], [0, 1, 5, 6, 7, 8, 9, 10, 33]] ?_
   iterate 4 refine op1 tok ?_
   refine runEnd ?_
   refine cnd ?_ ?_
   ·intro h33
    try simp at h33
    have hsn : (decide (s ∈ out.take k) || decide (out[k] = s)) = decide (s ∈ out.take (k + 1)) := by
     rw [List.take_succ_eq_append_getElem h33, Bool.eq_iff_iff]; simp only [Bool.or_eq_true, decide_eq_true_eq, List.mem_append, List.mem_singleton]; exact ⟨fun h => h.imp id Eq.symm, fun h => h.imp id Eq.symm⟩
    refine AW.skip ?_
    refine AW.seq ?_
    refine AW.block ?_
    refine rgz [.str out[k]] [[], [], [], [], [0, 1, 5, 6, 7, 8, 10, 37, 40], [], [], [], [0, 1, 5, 6, 7, 8, 10, 44], [0, 1, 5, 6, 7, 8, 9, 10]] ?_
    iterate 2 refine op1 tok ?_ (hv := by first | with_reducible exact True.intro | (simp [h33]; done) | omega | simp | (simp; omega) | (simp +contextual; omega))
    iterate 6 refine op2 tok ?_ (hv := by first | with_reducible exact True.intro | (simp [h33]; done) | omega | simp | (simp; omega) | (simp +contextual; omega))
    iterate 2 refine op1 tok ?_ (hv := by first | with_reducible exact True.intro | (simp [h33]; done) | omega | simp | (simp; omega) | (simp +contextual; omega))
    refine runEnd ?_
    refine rgz [] [[], [], [0, 1, 5, 6, 7, 8, 9, 10]] ?_
    iterate 3 refine op1 tok ?_
    refine runEnd ?_
    exact ⟨k + 1, by omega, by omega, upds_le (by simp [hsn]), rfl, by simp [hsn], by simp [hsn]⟩
   ·intro h33
    try simp at h33
    have hkk : k = out.length := by omega
    subst hkk
    simp only [List.take_length]
    refine AW.exit ?_
    simp
    refine rgn [] [[], [0, 1, 5, 6, 7, 8, 46]] ?_
    iterate 2 refine op1 tok ?_
    refine runEnd ?_
    refine cnd ?_ ?_
    ·intro h46
     try simp at h46
     have had : addM out s = out ++ [s] := by unfold addM; rw [if_neg h46]
     rw [had] at hstep hkay
     refine rgz [.str s] [[], [], [], [0, 1, 6, 7, 50], [0, 1, 5, 6, 7]] ?_
     iterate 5 refine op1 tok ?_
     refine runEnd ?_
     refine rgz [] [[], [], [0, 1, 5, 6, 7]] ?_
     iterate 3 refine op1 tok ?_
     refine runEnd ?_
     exact ⟨i + 1, out ++ [s], ⟨by omega, hstep, by simp; omega, hkay⟩, by omega, upds_le (by simp), rfl, by simp, by simp⟩
    ·intro h46
     try simp at h46
     have had : addM out s = out := by unfold addM; rw [if_pos h46]
     rw [had] at hstep hkay
     refine AW.skip ?_
     refine rgz [] [[], [], [0, 1, 5, 6, 7]] ?_
     iterate 3 refine op1 tok ?_
     refine runEnd ?_
     exact ⟨i + 1, out, ⟨by omega, hstep, by omega, hkay⟩, by omega, upds_le (by simp), rfl, by simp, by simp⟩
 ·intro h15
  try simp at h15
  have hn2 : namedM l many = out := by rw [hn]; exact namedGo_end (by omega) _ _
  refine AW.exit ?_
  simp
  refine rgn [] [[], [4]] ?_
  iterate 2 refine op1 tok ?_
  refine runEnd ?_
  exact AW.ret ⟨.inr rfl, _, _, by (conv => lhs; simp), trivial, by simp [hn2]⟩
end Go.Proofs.YtdojfdaglbphlaaGreatDoor
namespace Go.Proofs.YtdojfdaglbphlaaGreatDoor
open Sy Go
variable {G : Glob}
end Go.Proofs.YtdojfdaglbphlaaGreatDoor
namespace Go.Proofs.YtdojfdaglbphlaaGreatDoor
open Sy Go
set_option maxRecDepth 100000
set_option maxHeartbeats 4000000
set_option linter.unusedSimpArgs false
set_option linter.unusedVariables false
variable {G : Glob}
end Go.Proofs.YtdojfdaglbphlaaGreatDoor
namespace Go.Proofs.YtdojfdaglbphlaaGreatDoor
open Sy Go
set_option maxRecDepth 100000
set_option maxHeartbeats 4000000
set_option linter.unusedSimpArgs false
set_option linter.unusedVariables false
variable {G : Glob}
end Go.Proofs.YtdojfdaglbphlaaGreatDoor
namespace Go.Proofs.YtdojfdaglbphlaaGreatDoor
open Sy Go
set_option maxRecDepth 100000
set_option maxHeartbeats 4000000
set_option linter.unusedSimpArgs false
set_option linter.unusedVariables false
variable {G : Glob}
end Go.Proofs.YtdojfdaglbphlaaGreatDoor
namespace Go.Proofs.YtdojfdaglbphlaaGreatDoor
open Sy Go
set_option maxRecDepth 100000
set_option maxHeartbeats 4000000
set_option linter.unusedSimpArgs false
set_option linter.unusedVariables false
variable {G : Glob}
def kidsS (v : Val) : List Val := (sortK v.keys).map (kidOf v)
theorem sortK_mem {ks : List (List UInt8)} {s : List UInt8} : s ∈ sortK ks ↔ s ∈ ks := (List.mergeSort_perm ks _).mem_iff
theorem values_ax (ks : List (List UInt8)) : AX Tryz.prog G 163 [.p (.sl 1 (ks.map PD.str))] [] (.func (.func 209) [] [.ptr 901 0]) [] [(901, .vars 27 [.p (.sl 1 (ks.map PD.str))])] := by
 refine AX.introU tok 900 Tryz.func163 (by kernel_rfl) rfl rfl ?_
 simp only [Tryz.f163, enumA, List.map_cons, List.map_nil]
 refine rgn [] [[], [1]] ?_
 iterate 2 refine op1 tok ?_
 refine runEnd ?_
 refine rgn [] [[], [2]] ?_
 iterate 2 refine op1 tok ?_
 refine runEnd ?_
 exact AW.ret ⟨.inr rfl, _, _, by (conv => lhs; simp), trivial, by simp, by simp, by simp, by simp⟩
theorem sortedV_ev (v : Val) (hl : v.keys.length ≤ v.kids.length) (hn : v.keys.length ≤ 1000000) : AFn Tryz.prog G 107 [v.enc] (.tup [.sl 1 ((sortK v.keys).map PD.str), .sl 9 ((kidsS v).map Val.enc)]) := by
 refine AFn.introU tok Tryz.func107 (by kernel_rfl) rfl rfl ?_
 simp only [Tryz.f107, enumA, List.map_cons, List.map_nil]
 have hsl := sortK_len v.keys
 have hix := idxK_ev (G := G) v.keys
 refine rgn [] [[], [], [1]] ?_
 iterate 3 refine op1 tok ?_
 refine runEnd ?_
 refine rgn [] [[], []] ?_
 iterate 2 refine op1 tok ?_
 refine runOff ?_
 refine AOpsO.stepK [1, 10] (y_cx rfl (values_ax v.keys) (by simp)) (by conv => lhs; simp) rfl ?_
 refine AOpsO.stepK [1, 11] (y_cx rfl (sorted_ax 901 v.keys (by omega)) (by simp)) (by conv => lhs; simp) rfl ?_
 refine AOpsO.run [[1, 4]] ?_
 refine op1 tok ?_
 refine runEnd ?_
 refine rgn [] [[]] ?_
 refine op1 tok ?_
 refine runEnd ?_
 refine AW.seq ?_
 refine rgn [] [[], [], []] ?_
 iterate 3 refine op1 tok ?_
 refine runEnd ?_
 refine AW.block ?_
 refine AW.beginE 5 5 31 9 (by simp) (by simp) (by conv => lhs; simp) ?_
 refine AW.loop (α := Nat) (fun k => k ≤ v.keys.length) (fun k => ⟨upds 32 [(1, .ptr 1 0), (4, .p (.sl 1 ((sortK v.keys).map PD.str))), (5, .ms 5), (12, .p (.sl 1 ((sortK v.keys).map PD.str))), (13, .p (.int .i64 v.keys.length)), (14, .p (.int .i64 k))], [], [(1, .vars 31 v.cells), (5, .row 31 9 (((kidsS v).take k).map Val.enc))], 0⟩) (fun k => v.keys.length - k) (0) (by omega) ⟨upds_le (by simp [hsl]), rfl, by simp, by simp⟩ ?_
 rintro k hk
 refine rgn [] [[]] ?_
 refine op1 tok ?_
 refine runEnd ?_
 refine AW.seq ?_
 refine cnd ?_ ?_
 ·intro h15
  try simp at h15
  obtain ⟨s, hs⟩ : ∃ s, (sortK v.keys)[k]? = some s := ⟨(sortK v.keys)[k]'(by omega), by simp [show k < (sortK v.keys).length by omega]⟩
  have hm : s ∈ v.keys := sortK_mem.1 (List.mem_of_getElem? hs)
  have hkid := kidOf_get hl hm
  have hi := hix s
  unfold idxK at hi
  rw [if_pos hm] at hi
  refine AW.skip ?_
  refine AW.seq ?_
  refine AW.block ?_
  have hks : (kidsS v)[k]? = some (kidOf v s) := by simp [kidsS, hs]
  generalize hkv : kidsS v = kv at *
  have hkl : (kv.take k).length ≤ k := List.length_take_le _ _
  refine rgn [.str s] [[], [], [1, 4, 5, 7, 12, 13, 14]] ?_
  iterate 3 refine op1 tok ?_ (hv := by first | with_reducible exact True.intro | (simp [hs]; done) | omega | simp | (simp; omega) | (simp +contextual; omega))
  refine runEnd ?_
  refine AW.runDrawK tok mixed [1, 4, 5, 12, 13, 14] 11 [[5], [1], [19], [1], [21], [7], [22, 23], [20, 24], [25], [26], [18, 27]] [.nilp, .int .i64 (v.keys.idxOf s), (kidOf v s).enc, (kidOf v s).enc] [] (by kernel_rfl) (by intro C; conv => lhs; simp) (by (simp [hkid]; exact ⟨hi, by omega⟩)) (by simp [Sm.sum, Sm.foot, Sm.tch, Sm.refs]; kernel_rfl) (by intro C; conv => lhs; simp) (by first | with_reducible exact True.intro | omega | simp | (simp; omega) | (simp +contextual; omega)) ?_
  refine AW.renE 28 5 (by simp) (by conv => lhs; simp) ?_
  refine rgz [] [[], [1, 4, 5, 12, 13, 14]] ?_
  iterate 2 refine op1 tok ?_
  refine runEnd ?_
  exact ⟨k + 1, by omega, by omega, upds_le (by simp [List.take_add_one, hks]), rfl, by simp [List.take_add_one, hks], by simp [List.take_add_one, hks]⟩
 ·intro h15
  try simp at h15
  have hkl : (kidsS v).length = v.keys.length := by simp [kidsS, hsl]
  refine AW.exit ?_
  simp
  refine AW.freezeE 5 (by conv => lhs; simp) ?_
  refine rgn [] [[], [], [], [2, 3]] ?_
  iterate 4 refine op1 tok ?_
  refine runEnd ?_
  exact AW.ret ⟨.inr rfl, _, _, by (conv => lhs; simp), trivial, by simp; rw [List.take_of_length_le (by simp; omega)]⟩
def cmpF : Nat → Val → Val → Int
 | 0, _, _ => 0
 | f + 1, a, b => if a.kind ≠ b.kind then cmpI a.kind b.kind else if a.kind = 4 then cmpD a.num b.num else if a.kind = 5 then Lib.compareBytes a.text b.text else if a.kind = 6 then cmpL (cmpF f) a.kids b.kids
  else if a.kind = 8 then cmpI a.code b.code
  else if a.kind = 7 then (if cmpL cmpS (sortK a.keys) (sortK b.keys) ≠ 0 then cmpL cmpS (sortK a.keys) (sortK b.keys) else cmpL (cmpF f) (kidsS a) (kidsS b)) else 0
theorem kidsS_mem {v x : Val} (hl : v.keys.length ≤ v.kids.length) (h : x ∈ kidsS v) : x ∈ v.kids := by
 obtain ⟨s, hs, rfl⟩ := List.mem_map.1 h
 exact List.mem_of_getElem? (kidOf_get hl (sortK_mem.1 hs))
theorem cmp_step (f : Nat) (a b : Val) (ha : mayT a = true) (hb : mayT b = true) (ih : ∀ x ∈ a.kids, ∀ y ∈ b.kids, AFn Tryz.prog G 41 [x.enc, y.enc] (.int .i64 (cmpF f x y))) : AFn Tryz.prog G 41 [a.enc, b.enc] (.int .i64 (cmpF (f + 1) a b)) := by
 refine AFn.introU tok Tryz.func41 (by kernel_rfl) rfl rfl ?_
 simp only [Tryz.f41, enumA, List.map_cons, List.map_nil]
 have hki := cmpI_ev (G := G) a.kind b.kind
 have hce := cmpE_ev (G := G) a.code b.code
 have hst := Compare_ev (G := G) a.text b.text
 refine rgn [] [[], [], [2, 3]] ?_
 iterate 3 refine op1 tok ?_
 refine runEnd ?_
 refine AW.seq ?_
 refine rgn [] [[], [], [], [], [2, 3, 13]] ?_
 iterate 5 refine op1 tok ?_
 refine runEnd ?_
 refine cnd ?_ ?_
 ·intro h13
  try simp at h13
  have hR : cmpF (f + 1) a b = cmpI a.kind b.kind := by simp only [cmpF]; rw [if_pos h13]
  refine rgn [.nilp, .int .i64 (cmpI a.kind b.kind)] [[], [], [], [15, 17], [], [4]] ?_
  iterate 6 refine op1 tok ?_ (hv := by first | with_reducible exact True.intro | (exact hki; done) | omega | simp | (simp; omega) | (simp +contextual; omega))
  refine runEnd ?_
  exact AW.ret ⟨.inr rfl, _, _, by (conv => lhs; simp), trivial, by simp [hR]⟩
 ·intro h13
  try simp at h13
  have hkd : ¬ a.kind ≠ b.kind := by simpa using h13
  refine AW.skip ?_
  refine AW.seq ?_
  refine rgn [] [[], [2, 3, 20]] ?_
  iterate 2 refine op1 tok ?_
  refine runEnd ?_
  refine AW.block ?_
  refine rgn [] [[], [2, 3, 20, 21]] ?_
  iterate 2 refine op1 tok ?_
  refine runEnd ?_
  refine cnd ?_ ?_
  ·intro h21
   try simp at h21
   have hR : cmpF (f + 1) a b = cmpD a.num b.num := by simp only [cmpF]; rw [if_neg hkd, if_pos h21]
   have hnum := cmpD_ev (G := G) a.num b.num (dcMay_ok (may_num ha h21)).1 (dcMay_ok (may_num hb (by omega))).1
   refine rgn [.nilp, .int .i64 (cmpD a.num b.num)] [[], [], [], [24, 26], [], [4]] ?_
   iterate 6 refine op1 tok ?_ (hv := by first | with_reducible exact True.intro | ((simp at hnum ⊢; exact hnum); done) | omega | simp | (simp; omega) | (simp +contextual; omega))
   refine runEnd ?_
   exact AW.ret ⟨.inr rfl, _, _, by (conv => lhs; simp), trivial, by simp [hR]⟩
  ·intro h21
   try simp at h21
   refine rgn [] [[], [2, 3, 20, 28]] ?_
   iterate 2 refine op1 tok ?_
   refine runEnd ?_
   refine cnd ?_ ?_
   ·intro h28
    try simp at h28
    have hR : cmpF (f + 1) a b = Lib.compareBytes a.text b.text := by simp only [cmpF]; rw [if_neg hkd, if_neg h21, if_pos h28]
    refine rgn [.nilp, .int .i64 (Lib.compareBytes a.text b.text)] [[], [], [], [31, 33], [], [4]] ?_
    iterate 6 refine op1 tok ?_ (hv := by first | with_reducible exact True.intro | (exact hst; done) | omega | simp | (simp; omega) | (simp +contextual; omega))
    refine runEnd ?_
    exact AW.ret ⟨.inr rfl, _, _, by (conv => lhs; simp), trivial, by simp [hR]⟩
   ·intro h28
    try simp at h28
    refine rgn [] [[], [2, 3, 20, 35]] ?_
    iterate 2 refine op1 tok ?_
    refine runEnd ?_
    refine cnd ?_ ?_
    ·intro h35
     try simp at h35
     have hR : cmpF (f + 1) a b = cmpL (cmpF f) a.kids b.kids := by simp only [cmpF]; rw [if_neg hkd, if_neg h21, if_neg h28, if_pos h35]
     have hcl := cmpVL_ev (G := G) a.kids b.kids 41 (cmpF f) ih
     refine rgn [.nilp, .int .i64 (cmpL (cmpF f) a.kids b.kids)] [[], [], [], [38, 40], [], [4]] ?_
     iterate 6 refine op1 tok ?_ (hv := by first | with_reducible exact True.intro | (exact hcl; done) | omega | simp | (simp; omega) | (simp +contextual; omega))
     refine runEnd ?_
     exact AW.ret ⟨.inr rfl, _, _, by (conv => lhs; simp), trivial, by simp [hR]⟩
    ·intro h35
     try simp at h35
     refine rgn [] [[], [2, 3, 20, 42]] ?_
     iterate 2 refine op1 tok ?_
     refine runEnd ?_
     refine cnd ?_ ?_
     ·intro h42
      try simp at h42
      have hR : cmpF (f + 1) a b = cmpI a.code b.code := by simp only [cmpF]; rw [if_neg hkd, if_neg h21, if_neg h28, if_neg h35, if_pos h42]
      refine rgn [.nilp, .int .i64 (cmpI a.code b.code)] [[], [], [], [45, 47], [], [4]] ?_
      iterate 6 refine op1 tok ?_ (hv := by first | with_reducible exact True.intro | (exact hce; done) | omega | simp | (simp; omega) | (simp +contextual; omega))
      refine runEnd ?_
      exact AW.ret ⟨.inr rfl, _, _, by (conv => lhs; simp), trivial, by simp [hR]⟩
     ·intro h42
      try simp at h42
      refine rgn [] [[], [2, 3, 49]] ?_
      iterate 2 refine op1 tok ?_
      refine runEnd ?_
      refine cnd ?_ ?_
      ·intro h49
       try simp at h49
       have hR : cmpF (f + 1) a b = (if cmpL cmpS (sortK a.keys) (sortK b.keys) ≠ 0 then cmpL cmpS (sortK a.keys) (sortK b.keys) else cmpL (cmpF f) (kidsS a) (kidsS b)) := by simp only [cmpF]; rw [if_neg hkd, if_neg h21, if_neg h28, if_neg h35, if_neg h42, if_pos h49]
       have hoa := may_obj ha h49
       have hob := may_obj hb (by omega)
       have hsa := sortedV_ev (G := G) a (by omega) (by omega)
       have hsb := sortedV_ev (G := G) b (by omega) (by omega)
       have hcs := cmpSL_ev (G := G) (sortK a.keys) (sortK b.keys)
       have hcl := cmpVL_ev (G := G) (kidsS a) (kidsS b) 41 (cmpF f) fun x hx y hy => ih x (kidsS_mem (by omega) hx) y (kidsS_mem (by omega) hy)
       have hor := or2_ev (G := G) (cmpL cmpS (sortK a.keys) (sortK b.keys)) (cmpL (cmpF f) (kidsS a) (kidsS b))
       rw [← hR] at hor
       refine rgn [.nilp, .tup [.sl 1 ((sortK a.keys).map PD.str), .sl 9 ((kidsS a).map Val.enc)]] [[], [], [], [], [3, 54, 55], [], [3, 5, 6]] ?_
       iterate 7 refine op1 tok ?_ (hv := by first | with_reducible exact True.intro | ((simp at hsa ⊢; exact hsa); done) | omega | simp | (simp; omega) | (simp +contextual; omega))
       refine runEnd ?_
       refine rgn [.nilp, .tup [.sl 1 ((sortK b.keys).map PD.str), .sl 9 ((kidsS b).map Val.enc)]] [[], [], [], [], [5, 6, 59, 60], [], [5, 6, 7, 8]] ?_
       iterate 7 refine op1 tok ?_ (hv := by first | with_reducible exact True.intro | ((simp at hsb ⊢; exact hsb); done) | omega | simp | (simp; omega) | (simp +contextual; omega))
       refine runEnd ?_
       refine rgn [.nilp, .int .i64 (cmpL cmpS (sortK a.keys) (sortK b.keys)), .nilp, .int .i64 (cmpL (cmpF f) (kidsS a) (kidsS b)), .int .i64 (cmpL cmpS (sortK a.keys) (sortK b.keys)), .int .i64 (cmpL (cmpF f) (kidsS a) (kidsS b)), .nilp, .int .i64 (cmpF (f + 1) a b)] [[], [], [6, 8, 63], [], [], [63, 66], [], [], [4]] ?_
       iterate 9 refine op1 tok ?_ (hv := by first | with_reducible exact True.intro | (first | exact hcs | exact hcl | exact hor | simp; done) | omega | simp | (simp; omega) | (simp +contextual; omega))
       refine runEnd ?_
       exact AW.ret ⟨.inr rfl, _, _, by (conv => lhs; simp), trivial, by simp⟩
      ·intro h49
       try simp at h49
       have hR : cmpF (f + 1) a b = 0 := by simp only [cmpF]; rw [if_neg hkd, if_neg h21, if_neg h28, if_neg h35, if_neg h42, if_neg h49]
       refine AW.skip ?_
       refine rgn [] [[]] ?_
       refine op1 tok ?_
       refine runEnd ?_
       exact AW.ret ⟨.inr rfl, _, _, by (conv => lhs; simp), trivial, by simp [hR]⟩
theorem cmpF_ev : ∀ (f : Nat) (a b : Val), mayT a = true → mayT b = true → Val.sz a ≤ f → AFn Tryz.prog G 41 [a.enc, b.enc] (.int .i64 (cmpF (f + 1) a b))
 | 0, a, b, ha, hb, h => cmp_step 0 a b ha hb fun x hx => by have := Val.sz_kid hx; omega
 | f + 1, a, b, ha, hb, h => cmp_step (f + 1) a b ha hb fun x hx y hy => cmpF_ev f x y (may_kid ha hx) (may_kid hb hy) (by have := Val.sz_kid hx; omega)
def cmpT (a b : Val) : Int := cmpF (Val.sz a + 1) a b
theorem cmpT_ev (a b : Val) (ha : mayT a = true) (hb : mayT b = true) : AFn Tryz.prog G 41 [a.enc, b.enc] (.int .i64 (cmpT a b)) := cmpF_ev _ a b ha hb (Nat.le_refl _)
end Go.Proofs.YtdojfdaglbphlaaGreatDoor
namespace Go.Proofs.YtdojfdaglbphlaaGreatDoor
open Sy Go
set_option linter.unusedSimpArgs false
set_option linter.unusedVariables false
structure Ord {α : Type} (p : α → α → Int) (S : α → Prop) : Prop where
 anti : ∀ x y, S x → S y → p x y = - p y x
 tr : ∀ x y z, S x → S y → S z → p x y ≤ 0 → p y z ≤ 0 → p x z ≤ 0
theorem Ord.refl {α : Type} {p : α → α → Int} {S : α → Prop} (h : Ord p S) {x : α} (hx : S x) : p x x = 0 := by have := h.anti x x hx hx; omega
theorem Ord.lt_le {α : Type} {p : α → α → Int} {S : α → Prop} (h : Ord p S) {x y z : α} (hx : S x) (hy : S y) (hz : S z) (h1 : p x y < 0) (h2 : p y z ≤ 0) : p x z < 0 := by
 have h3 := h.tr x y z hx hy hz (by omega) h2
 by_cases h4 : p x z = 0
 ·have a1 := h.anti x z hx hz
  have a2 := h.anti x y hx hy
  have := h.tr y z x hy hz hx h2 (by omega)
  omega
 ·omega
theorem Ord.le_lt {α : Type} {p : α → α → Int} {S : α → Prop} (h : Ord p S) {x y z : α} (hx : S x) (hy : S y) (hz : S z) (h1 : p x y ≤ 0) (h2 : p y z < 0) : p x z < 0 := by
 have h3 := h.tr x y z hx hy hz h1 (by omega)
 by_cases h4 : p x z = 0
 ·have a1 := h.anti x z hx hz
  have a2 := h.anti y z hy hz
  have := h.tr z x y hz hx hy (by omega) h1
  omega
 ·omega
theorem Ord.eq_eq {α : Type} {p : α → α → Int} {S : α → Prop} (h : Ord p S) {x y z : α} (hx : S x) (hy : S y) (hz : S z) (h1 : p x y = 0) (h2 : p y z = 0) : p x z = 0 := by
 have a1 := h.anti x y hx hy
 have a2 := h.anti y z hy hz
 have a3 := h.anti x z hx hz
 have := h.tr x y z hx hy hz (by omega) (by omega)
 have := h.tr z y x hz hy hx (by omega) (by omega)
 omega
theorem Ord.then {α : Type} {p q : α → α → Int} {S : α → Prop} (hp : Ord p S) (hq : Ord q S) : Ord (fun x y => if p x y ≠ 0 then p x y else q x y) S := by
 refine ⟨fun x y hx hy => ?_, fun x y z hx hy hz h1 h2 => ?_⟩
 ·have a1 := hp.anti x y hx hy
  have a2 := hq.anti x y hx hy
  by_cases h : p x y = 0
  ·rw [if_neg (by omega), if_neg (by omega)]; exact a2
  ·rw [if_pos h, if_pos (by omega)]; exact a1
 ·by_cases e1 : p x y = 0
  ·rw [if_neg (by omega)] at h1
   by_cases e2 : p y z = 0
   ·rw [if_neg (by omega)] at h2
    rw [if_neg (by have := hp.eq_eq hx hy hz e1 e2; omega)]
    exact hq.tr x y z hx hy hz h1 h2
   ·rw [if_pos e2] at h2
    have := hp.le_lt hx hy hz (by omega) (show p y z < 0 by omega)
    rw [if_pos (by omega)]; omega
  ·rw [if_pos e1] at h1
   by_cases e2 : p y z = 0
   ·have := hp.lt_le hx hy hz (show p x y < 0 by omega) (by omega)
    rw [if_pos (by omega)]; omega
   ·rw [if_pos e2] at h2
    have := hp.lt_le hx hy hz (show p x y < 0 by omega) h2
    rw [if_pos (by omega)]; omega
theorem Ord.map {α β : Type} {p : β → β → Int} {S : β → Prop} (h : Ord p S) (f : α → β) {S' : α → Prop} (hS : ∀ x, S' x → S (f x)) : Ord (fun x y => p (f x) (f y)) S' :=
 ⟨fun x y hx hy => h.anti _ _ (hS x hx) (hS y hy), fun x y z hx hy hz => h.tr _ _ _ (hS x hx) (hS y hy) (hS z hz)⟩
end Go.Proofs.YtdojfdaglbphlaaGreatDoor
namespace Go.Proofs.YtdojfdaglbphlaaGreatDoor
open Sy Go
set_option linter.unusedSimpArgs false
set_option linter.unusedVariables false
end Go.Proofs.YtdojfdaglbphlaaGreatDoor
namespace Go.Proofs.YtdojfdaglbphlaaGreatDoor
open Sy Go
set_option linter.unusedSimpArgs false
set_option linter.unusedVariables false
end Go.Proofs.YtdojfdaglbphlaaGreatDoor
namespace Go.Proofs.YtdojfdaglbphlaaGreatDoor
open Sy Go
set_option linter.unusedSimpArgs false
set_option linter.unusedVariables false
@[simp] def prC (a b : Val) (top deep : Int) : List PD := [.int .i64 a.kind, .int .u64 a.mask, .bool a.num.neg, .str a.num.digits, .int .i64 a.num.scale, .str a.text, .sl 1 (a.keys.map PD.str), .sl 9 (a.kids.map Val.enc), .int .i64 a.code,
 .int .i64 b.kind, .int .u64 b.mask, .bool b.num.neg, .str b.num.digits, .int .i64 b.num.scale, .str b.text, .sl 1 (b.keys.map PD.str), .sl 9 (b.kids.map Val.enc), .int .i64 b.code, .int .u64 top, .int .u64 deep]
def failV (code m : Int) : Val := .mk 8 m dc0 [] [] [] code
def mergeG (b : Val) : Nat → List (List UInt8) → List Val → List (List UInt8) × List Val
 | 0, ks, vs => (ks, vs)
 | k + 1, ks, vs => putM (mergeG b k ks vs).1 (mergeG b k ks vs).2 (b.keys.getD k []) (b.kids.getD k zeroV)
def mergeV (a b : Val) (m : Int) : Val := .mk a.kind m a.num a.text (mergeG b b.keys.length a.keys a.kids).1 (mergeG b b.keys.length a.keys a.kids).2 a.code
def lessV (a b : Val) (m : Int) : Val := .mk a.kind m a.num a.text a.keys (a.kids.filter fun v => !(b.kids.any fun w => decide (cmpT v w = 0))) a.code
theorem mergeG_len (b : Val) (k : Nat) {ks : List (List UInt8)} {vs : List Val} (h : ks.length = vs.length) : (mergeG b k ks vs).1.length = (mergeG b k ks vs).2.length ∧ (mergeG b k ks vs).2.length ≤ vs.length + k := by
 induction k with
 | zero => exact ⟨h, by simp [mergeG]⟩
 | succ k ih =>
  simp only [mergeG]
  unfold putM
  split
  ·simp; omega
  ·simp; omega
end Go.Proofs.YtdojfdaglbphlaaGreatDoor
namespace Go.Proofs.YtdojfdaglbphlaaGreatDoor
open Sy Go
set_option maxRecDepth 100000
set_option maxHeartbeats 4000000
set_option linter.unusedSimpArgs false
set_option linter.unusedVariables false
variable {G : Glob}
theorem indexVc_ev (l : List Val) (g : FuncId) (cs : List PD) (p : Val → Bool) (hg : ∀ v ∈ l, AFn Tryz.prog G g [v.enc, .ref cs] (.bool (p v))) : AFn Tryz.prog G 143 [.sl 9 (l.map Val.enc), .clo g [.ref cs]] (.int .i64 (match l.findIdx? p with | some i => (i : Int) | none => -1)) := by
 refine AFn.introU tok Tryz.func143 (by kernel_rfl) rfl rfl ?_
 simp only [Tryz.f143, enumA, List.map_cons, List.map_nil]
 refine rgn [] [[0, 1]] ?_
 refine op1 tok ?_
 refine runEnd ?_
 refine AW.seq ?_
 refine rgn [] [[], [], [0, 1, 7, 8]] ?_
 iterate 3 refine op1 tok ?_
 refine runEnd ?_
 refine AW.block ?_
 refine AW.intFactU (i := 7) rfl (by decide) ?_; intro hlen; simp at hlen
 refine AW.loop (α := Nat) (fun k => k ≤ l.length ∧ (l.take k).all (fun v => !p v) = true) (fun k => ⟨upds 19 [(0, .p (.sl 9 (l.map Val.enc))), (1, .p (.clo g [.ref cs])), (7, .p (.int .i64 l.length)), (8, .p (.int .i64 k))], [], [], 0⟩) (fun k => l.length - k) (0) ⟨by omega, rfl⟩ ⟨upds_le (by simp), rfl, by simp, by simp⟩ ?_
 rintro k ⟨hk, hall⟩
 refine rgn [] [[]] ?_
 refine op1 tok ?_
 refine runEnd ?_
 refine AW.seq ?_
 refine cnd ?_ ?_
 ·intro h9
  try simp at h9
  obtain ⟨v, hv⟩ : ∃ v, l[k]? = some v := ⟨l[k], by simp [h9]⟩
  have hgv := hg v (List.mem_of_getElem? hv)
  refine AW.skip ?_
  refine AW.seq ?_
  refine AW.block ?_
  refine rgn [] [[], [0, 1, 5, 7, 8]] ?_
  iterate 2 refine op1 tok ?_
  refine runEnd ?_
  refine rgn [v.enc, .nilp, .bool (p v)] [[], [], [], [], [], [0, 1, 5, 7, 8, 16]] ?_
  iterate 6 refine op1 tok ?_ (hv := by first | with_reducible exact True.intro | (first | (simp [hv]; done) | (simp at hgv ⊢; exact hgv); done) | omega | simp | (simp; omega) | (simp +contextual; omega))
  refine runEnd ?_
  refine cnd ?_ ?_
  ·intro h16
   try simp at h16
   have hf : l.findIdx? p = some k := by
    rw [List.findIdx?_eq_some_iff_getElem]
    have h9' := h9
    refine ⟨h9, ?_, fun j hj => ?_⟩
    ·rw [List.getElem?_eq_getElem h9] at hv; cases hv; exact h16
    ·have := List.all_eq_true.1 hall (l[j]'(by omega)) (List.mem_iff_getElem.2 ⟨j, by simp; omega, by simp⟩)
     simpa using this
   refine rgn [] [[], [4]] ?_
   iterate 2 refine op1 tok ?_
   refine runEnd ?_
   exact AW.ret ⟨.inr rfl, _, _, by (conv => lhs; simp), trivial, by simp [hf]⟩
  ·intro h16
   try simp at h16
   refine AW.skip ?_
   refine rgz [] [[], [0, 1, 7, 8]] ?_
   iterate 2 refine op1 tok ?_
   refine runEnd ?_
   exact ⟨k + 1, ⟨by omega, by rw [List.take_add_one, hv, List.all_append, hall]; simpa using h16⟩, by omega, upds_le (by simp), rfl, by simp, by simp⟩
 ·intro h9
  try simp at h9
  rw [List.take_of_length_le h9] at hall
  have hf : l.findIdx? p = none := by
   rw [List.findIdx?_eq_none_iff]; intro x hx; simpa using List.all_eq_true.1 hall x hx
  refine AW.exit ?_
  simp
  refine rgn [] [[]] ?_
  refine op1 tok ?_
  refine runEnd ?_
  exact AW.ret ⟨.inr rfl, _, _, by (conv => lhs; simp), trivial, by simp [hf]⟩
theorem containsVc_ev (l : List Val) (g : FuncId) (cs : List PD) (p : Val → Bool) (hg : ∀ v ∈ l, AFn Tryz.prog G g [v.enc, .ref cs] (.bool (p v))) : AFn Tryz.prog G 86 [.sl 9 (l.map Val.enc), .clo g [.ref cs]] (.bool (l.any p)) := by
 refine AFn.introU tok Tryz.func86 (by kernel_rfl) rfl rfl ?_
 simp only [Tryz.f86, enumA, List.map_cons, List.map_nil]
 have hi := indexVc_ev l g cs p hg
 have ha : l.any p = decide (0 ≤ (match l.findIdx? p with | some i => (i : Int) | none => -1)) := by
  cases h : l.findIdx? p with
  | none => simp; intro x hx; simpa using List.findIdx?_eq_none_iff.1 h x hx
  | some i =>
   obtain ⟨h1, h2, _⟩ := List.findIdx?_eq_some_iff_getElem.1 h
   simp; exact ⟨_, List.getElem_mem h1, h2⟩
 rw [ha]
 generalize (match l.findIdx? p with | some i => (i : Int) | none => -1) = n at *
 refine rgn [] [[0, 1]] ?_
 refine op1 tok ?_
 refine runEnd ?_
 refine rgn [.nilp, .int .i64 n] [[], [], [7], [], [4]] ?_
 iterate 5 refine op1 tok ?_ (hv := by first | with_reducible exact True.intro | (first | exact hi | simp; done) | omega | simp | (simp; omega) | (simp +contextual; omega))
 refine runEnd ?_
 exact AW.ret ⟨.inr rfl, _, _, by (conv => lhs; simp), trivial, by simp⟩
def idxIV (p : Val → Bool) (l : List Val) : Int := match l.findIdx? p with
 | none => -1
 | some i => i
theorem idxI_atV {p : Val → Bool} {l : List Val} {k : Nat} {s : Val} (hs : l[k]? = some s) (hall : ((l.take k).all fun s => !p s) = true) (hp : p s = true) : idxIV p l = k := by
 have h : l.findIdx? p = some k := by
  rw [List.findIdx?_eq_some_iff_getElem]
  obtain ⟨hk, rfl⟩ := List.getElem?_eq_some_iff.1 hs
  refine ⟨hk, hp, fun j hj => ?_⟩
  have := List.all_eq_true.1 hall l[j] (List.mem_of_getElem? (i := j) (by rw [List.getElem?_take, if_pos hj]; simp [show j < l.length by omega]))
  simpa using this
 unfold idxIV; rw [h]
theorem idxI_noV {p : Val → Bool} {l : List Val} (hall : (l.all fun s => !p s) = true) : idxIV p l = -1 := by
 have h : l.findIdx? p = none := by
  rw [List.findIdx?_eq_none_iff]
  intro x hx
  have := List.all_eq_true.1 hall x hx
  simpa using this
 unfold idxIV; rw [h]
theorem idxI_someV {p : Val → Bool} {l : List Val} (h : idxIV p l ≠ -1) : ∃ (k : Nat) (s : Val), idxIV p l = k ∧ l[k]? = some s ∧ ((l.take k).all fun s => !p s) = true ∧ p s = true := by
 unfold idxIV at h ⊢
 cases e : l.findIdx? p with
 | none => rw [e] at h; exact absurd rfl h
 | some k =>
  rw [List.findIdx?_eq_some_iff_getElem] at e
  obtain ⟨hk, hp, hn⟩ := e
  refine ⟨k, l[k], rfl, by simp [hk], List.all_eq_true.2 fun x hx => ?_, hp⟩
  obtain ⟨j, hj⟩ := List.mem_iff_getElem?.1 hx
  rw [List.getElem?_take] at hj
  split at hj
  ·rename_i hjk
   obtain ⟨_, rfl⟩ := List.getElem?_eq_some_iff.1 hj
   simpa using hn j hjk
  ·cases hj
theorem idxI_noneV {p : Val → Bool} {l : List Val} (h : idxIV p l = -1) : (l.all fun s => !p s) = true := by
 unfold idxIV at h
 cases e : l.findIdx? p with
 | none =>
  rw [List.findIdx?_eq_none_iff] at e
  exact List.all_eq_true.2 fun x hx => by simpa using e x hx
 | some k => rw [e] at h; simp only at h; omega
theorem idxVo_ax (g : FuncId) (cs : List PD) (p : Val → Bool) (l : List Val) (hg : ∀ s ∈ l, AFn Tryz.prog G g [s.enc, .ref cs] (.bool (p s))) (hl : l.length ≤ 1000000000) : AX Tryz.prog G 143 [.ms 930, .func (.func g) [] [.cptr cs]] [(930, .row 31 9 (l.map Val.enc))] (.p (.int .i64 (idxIV p l))) [930] [(930, .row 31 9 (l.map Val.enc))] := by
 refine AX.introU tok 300 Tryz.func143 (by kernel_rfl) rfl rfl ?_
 simp only [Tryz.f143, enumA, List.map_cons, List.map_nil]
 refine rgn [] [[0, 1]] ?_
 refine op1 tok ?_
 refine runEnd ?_
 refine AW.seq ?_
 refine rgn [] [[], [], [0, 1, 7, 8]] ?_
 iterate 3 refine op1 tok ?_
 refine runEnd ?_
 refine AW.block ?_
 refine AW.loop (α := Nat) (fun k => k ≤ l.length ∧ ((l.take k).all fun s => !p s) = true) (fun k => ⟨upds 19 [(0, .ms 930), (1, .func (.func g) [] [.cptr cs]), (7, .p (.int .i64 l.length)), (8, .p (.int .i64 k))], [930], [(930, .row 31 9 (l.map Val.enc))], 300⟩) (fun k => l.length - k) (0) ⟨by omega, rfl⟩ ⟨upds_le (by simp), rfl, by simp, by simp⟩ ?_
 rintro k ⟨hk, hall⟩
 refine rgn [] [[]] ?_
 refine op1 tok ?_
 refine runEnd ?_
 refine AW.seq ?_
 refine cnd ?_ ?_
 ·intro h9
  try simp at h9
  obtain ⟨s, hs⟩ : ∃ s, l[k]? = some s := ⟨l[k], by simp [h9]⟩
  have hgs := hg s (List.mem_of_getElem? hs)
  simp only [Val.enc_def] at hgs
  refine AW.skip ?_
  refine AW.seq ?_
  refine AW.block ?_
  refine rgn [] [[], [0, 1, 5, 7, 8]] ?_
  iterate 2 refine op1 tok ?_
  refine runEnd ?_
  refine rgn [s.enc, .nilp, .bool (p s)] [[], [], [], [], [], [0, 1, 5, 7, 8, 16]] ?_
  iterate 6 refine op1 tok ?_ (hv := by first | with_reducible exact True.intro | (first | exact hgs | (simp [hs]; done) | (simp [hs]; omega); done) | omega | simp | (simp; omega) | (simp +contextual; omega))
  refine runEnd ?_
  refine cnd ?_ ?_
  ·intro h16
   try simp at h16
   have hi := idxI_atV hs hall h16
   refine rgn [] [[], [4]] ?_
   iterate 2 refine op1 tok ?_
   refine runEnd ?_
   exact AW.ret ⟨.inr rfl, _, _, by (conv => lhs; simp), trivial, by simp [hi], by simp, by simp, by simp⟩
  ·intro h16
   try simp at h16
   refine AW.skip ?_
   refine rgz [] [[], [0, 1, 7, 8]] ?_
   iterate 2 refine op1 tok ?_
   refine runEnd ?_
   exact ⟨k + 1, ⟨by omega, by rw [List.take_add_one, hs, List.all_append, hall]; simp [h16]⟩, by omega, upds_le (by simp), rfl, by simp, by simp⟩
 ·intro h9
  try simp at h9
  rw [List.take_of_length_le h9] at hall
  have hi := idxI_noV hall
  refine AW.exit ?_
  simp
  refine rgn [] [[]] ?_
  refine op1 tok ?_
  refine runEnd ?_
  exact AW.ret ⟨.inr rfl, _, _, by (conv => lhs; simp), trivial, by simp [hi], by simp, by simp, by simp⟩
def rowDV (F J C : List Val) : List PD := F.map Val.enc ++ (J.map Val.enc ++ C.map Val.enc)
@[simp] theorem rowD_lenV (F J C : List Val) : (rowDV F J C).length = F.length + (J.length + C.length) := by simp [rowDV]
theorem rowD_getV {F J C : List Val} {j : Nat} {v : Val} (h : F.length + J.length = j) : (rowDV F J (v :: C))[j]? = some v.enc := by
 unfold rowDV
 rw [List.getElem?_append_right (by simp; omega), List.getElem?_append_right (by simp; omega)]
 simp only [List.length_map]
 rw [show j - F.length - J.length = 0 by omega]; simp
theorem rowD_get0V {F J C : List Val} {x : Val} : (rowDV F (x :: J) C)[F.length]? = some x.enc := by
 unfold rowDV
 rw [List.getElem?_append_right (by simp)]; simp
theorem rowD_setV {F J C : List Val} {x v : Val} : (rowDV F (x :: J) (v :: C)).set F.length v.enc = rowDV (F ++ [v]) (J ++ [v]) C := by
 unfold rowDV
 rw [List.set_append_right _ _ (by simp)]; simp
theorem rowD_skipV {F J C : List Val} {v : Val} : rowDV F J (v :: C) = rowDV F (J ++ [v]) C := by simp [rowDV]
theorem rowD_cutV (F J C : List Val) (r : List PD) : ((rowDV F J C).take F.length ++ r).take F.length = F.map Val.enc := by
 unfold rowDV
 rw [List.take_append_of_le_length (by simp), List.take_of_length_le (by simp), List.take_append_of_le_length (by simp), List.take_of_length_le (by simp)]
theorem delV_ax (g : FuncId) (cs : List PD) (p : Val → Bool) (l : List Val) (hg : ∀ s ∈ l, AFn Tryz.prog G g [s.enc, .ref cs] (.bool (p s))) (hl : l.length ≤ 1000000000) : AX Tryz.prog G 84 [.ms 930, .func (.func g) [] [.cptr cs]] [(930, .row 31 9 (l.map Val.enc))] (.ms 930) [] [(930, .row 31 9 ((l.filter fun s => !p s).map Val.enc))] := by
 refine AX.introU tok 400 Tryz.func84 (by kernel_rfl) rfl rfl ?_
 simp only [Tryz.f84, enumA, List.map_cons, List.map_nil]
 refine rgn [] [[0, 1]] ?_
 refine op1 tok ?_
 refine runEnd ?_
 refine rgn [] [[], []] ?_
 iterate 2 refine op1 tok ?_
 refine runOff ?_
 refine AOpsO.stepK [0, 1, 10] (y_cx rfl (idxVo_ax g cs p l hg hl) (by simp)) (by conv => lhs; simp) rfl ?_
 refine AOpsO.run [[0, 1, 5]] ?_
 refine op1 tok ?_
 refine runEnd ?_
 refine AW.seq ?_
 refine rgn [] [[], [0, 1, 5, 12]] ?_
 iterate 2 refine op1 tok ?_
 refine runEnd ?_
 refine cnd ?_ ?_
 ·intro h12
  try simp at h12
  have hall := idxI_noneV h12
  have hf : (l.filter fun s => !p s) = l := List.filter_eq_self.2 fun x hx => List.all_eq_true.1 hall x hx
  rw [hf]
  refine rgn [] [[], [4]] ?_
  iterate 2 refine op1 tok ?_
  refine runEnd ?_
  exact AW.ret ⟨.inr rfl, _, _, by (conv => lhs; simp), trivial, by simp, by simp, by simp, by simp⟩
 ·intro h12
  try simp at h12
  obtain ⟨i0, s0, hi0, hs0, hall0, hp0⟩ := idxI_someV h12
  rw [hi0]
  have hi0l := (List.getElem?_eq_some_iff.1 hs0).1
  have hf0 : ((l.take (i0 + 1)).filter fun s => !p s) = l.take i0 := by
   rw [List.take_add_one, hs0, List.filter_append, List.filter_eq_self.2 fun x hx => List.all_eq_true.1 hall0 x hx]
   simp [hp0]
  have hrow0 : l.map Val.enc = rowDV ((l.take (i0 + 1)).filter fun s => !p s) [s0] (l.drop (i0 + 1)) := by
   have e : l = l.take i0 ++ s0 :: l.drop (i0 + 1) := by
    obtain ⟨h, rfl⟩ := List.getElem?_eq_some_iff.1 hs0
    rw [← List.drop_eq_getElem_cons h, List.take_append_drop]
   rw [hf0]
   conv => lhs; rw [e]
   simp [rowDV]
  have hfl0 : ((l.take (i0 + 1)).filter fun s => !p s).length = i0 := by rw [hf0]; simp; omega
  refine AW.skip ?_
  refine AW.seq ?_
  refine rgn [] [[], [], [0, 1, 5, 6]] ?_
  iterate 3 refine op1 tok ?_
  refine runEnd ?_
  refine AW.block ?_
  refine AW.loop (α := Nat × List Val) (fun a => a.1 ≤ l.length ∧ ((l.take a.1).filter fun s => !p s).length + a.2.length = a.1 ∧ 1 ≤ a.2.length) (fun a => ⟨upds 42 [(0, .ms 930), (1, .func (.func g) [] [.cptr cs]), (5, .p (.int .i64 ((l.take a.1).filter fun s => !p s).length)), (6, .p (.int .i64 a.1))], [930], [(930, .row 31 9 (rowDV ((l.take a.1).filter fun s => !p s) a.2 (l.drop a.1)))], 400⟩) (fun a => l.length - a.1) ((i0 + 1, [s0])) ⟨by simp only []; omega, by simp only [hfl0]; simp, by simp⟩ ⟨upds_le (by simp [hfl0]), rfl, by simp [← hrow0], by simp⟩ ?_
  rintro ⟨j, J⟩ ⟨hj, hlen, hJ⟩
  simp only at hj hlen hJ
  have hdl : (l.drop j).length = l.length - j := by simp
  generalize hF : ((l.take j).filter fun s => !p s) = F at *
  generalize hD : l.drop j = D at *
  refine AW.seq ?_
  refine rgn [] [[], [], [], [0, 1, 5, 6, 19]] ?_
  iterate 4 refine op1 tok ?_
  refine runEnd ?_
  refine cnd ?_ ?_
  ·intro h19
   try simp at h19
   obtain ⟨v, C, rfl⟩ : ∃ v C, D = v :: C := by
    cases D with
    | nil => simp only [List.length_nil] at hdl h19; omega
    | cons v C => exact ⟨v, C, rfl⟩
   obtain ⟨x, J, rfl⟩ : ∃ x J', J = x :: J' := by
    cases J with
    | nil => simp at hJ
    | cons x J => exact ⟨x, J, rfl⟩
   have hv : l[j]? = some v := by
    have := congrArg List.head? hD
    rwa [List.head?_drop] at this
   have hC : l.drop (j + 1) = C := by
    rw [← List.drop_drop, hD]; rfl
   have hgv := hg v (List.mem_of_getElem? hv)
   have hget := rowD_getV (C := C) (v := v) hlen
   have hset := rowD_setV (F := F) (J := J) (C := C) (x := x) (v := v)
   have hget0 := rowD_get0V (F := F) (J := J) (C := v :: C) (x := x)
   have hF1 : ((l.take (j + 1)).filter fun s => !p s) = F ++ (if p v = true then [] else [v]) := by
    rw [List.take_add_one, hv, List.filter_append, hF]
    by_cases hp : p v = true <;> simp [hp]
   simp only [List.length_cons] at hdl hlen hJ
   simp only [Val.enc_def] at hgv hget hset hget0
   refine AW.skip ?_
   refine AW.seq ?_
   refine AW.block ?_
   refine rgn [v.enc] [[], [], [], [], [], [0, 1, 5, 6, 7]] ?_
   iterate 6 refine op1 tok ?_ (hv := by first | with_reducible exact True.intro | (first | exact ⟨_, hget, rfl⟩ | (simp [hget]; done) | (simp; omega); done) | omega | simp | (simp; omega) | (simp +contextual; omega))
   refine runEnd ?_
   refine rgn [.nilp, .bool (p v)] [[], [], [], [0, 1, 5, 6, 7, 29]] ?_
   iterate 4 refine op1 tok ?_ (hv := by first | with_reducible exact True.intro | (exact hgv; done) | omega | simp | (simp; omega) | (simp +contextual; omega))
   refine runEnd ?_
   refine cnd ?_ ?_
   ·intro h29
    try simp at h29
    refine rgn [x.enc, v.enc] [[], [], [], [], [0, 1, 5, 6]] ?_
    iterate 5 refine op1 tok ?_ (hv := by first | with_reducible exact True.intro | (first | (simp [hget0]; done) | (simp [hget0]; omega); done) | omega | simp | (simp; omega) | (simp +contextual; omega))
    refine runEnd ?_
    refine rgz [] [[], [], [0, 1, 5, 6]] ?_
    iterate 3 refine op1 tok ?_
    refine runEnd ?_
    refine rgz [] [[], [], [0, 1, 5, 6]] ?_
    iterate 3 refine op1 tok ?_
    refine runEnd ?_
    exact ⟨(j + 1, J ++ [v]), ⟨by simp only []; omega, by simp [hF1, h29]; omega, by simp⟩, by simp only []; omega, upds_le (by simp [hF1, h29, hC, hset]), rfl, by simp [hF1, h29, hC, hset], by simp [hF1, h29, hC, hset]⟩
   ·intro h29
    try simp at h29
    refine AW.skip ?_
    refine rgz [] [[], [], [0, 1, 5, 6]] ?_
    iterate 3 refine op1 tok ?_
    refine runEnd ?_
    exact ⟨(j + 1, (x :: J) ++ [v]), ⟨by simp only []; omega, by simp [hF1, h29]; omega, by simp⟩, by simp only []; omega, upds_le (by simp [hF1, h29, hC, rowD_skipV]), rfl, by simp [hF1, h29, hC, rowD_skipV], by simp [hF1, h29, hC, rowD_skipV]⟩
  ·intro h19
   try simp at h19
   have hjl : j = l.length := by omega
   subst hjl
   rw [List.take_length] at hF
   rw [hF]
   have hcut := rowD_cutV F J D
   refine AW.exit ?_
   simp
   refine rgn [] [[], []] ?_
   iterate 2 refine op1 tok ?_
   refine runOff ?_
   refine AOpsO.clearFrom tok [0, 5, 38] (e0 := zeroV.enc) F.length rfl rfl rfl rfl rfl rfl rfl rfl rfl rfl (by simp) (by conv => lhs; simp) trivial (by conv => lhs; simp) trivial (by conv => lhs; simp) rfl (by first | (simp; done) | (simp; omega)) (by omega) (by simp) ?_
   simp only [St.put, upds_set, insA, St.keep, upds_mask, keepA, setBox]
   refine AOpsO.nil ?_
   refine rgn [] [[], []] ?_
   iterate 2 refine op1 tok ?_
   refine runOff ?_
   refine AOpsO.stepK [41] (y_cutRow tok rfl rfl F.length (by conv => lhs; simp) trivial (by conv => lhs; simp) trivial rfl (by conv => lhs; simp) (by first | (simp; done) | (simp; omega)) (by omega)) (by conv => lhs; simp [hcut]) rfl ?_
   refine AOpsO.run [[4]] ?_
   refine op1 tok ?_
   refine runEnd ?_
   exact AW.ret ⟨.inr rfl, _, _, by (conv => lhs; simp), trivial, by simp, by simp, by simp, by simp⟩
end Go.Proofs.YtdojfdaglbphlaaGreatDoor
namespace Go.Proofs.YtdojfdaglbphlaaGreatDoor
open Sy Go
set_option maxRecDepth 100000
set_option maxHeartbeats 4000000
set_option linter.unusedSimpArgs false
set_option linter.unusedVariables false
variable {G : Glob}
structure Item where
 kind : Int
 many : Int
 mask : Int
 num : List UInt8
 text : List UInt8
 keys : List (List UInt8)
@[simp] def Item.enc (x : Item) : PD := .agg [.int .i64 x.kind, .int .i64 x.many, .int .u64 x.mask, .str x.num, .str x.text, .sl 1 (x.keys.map PD.str)]
def low3 (a : Int) : Nat := (a % 2 ^ 64).toNat &&& 7
theorem low3_lt (a : Int) : low3 a < 8 := Nat.and_lt_two_pow _ (n := 3) (by decide)
theorem low3_wrap (a : Int) : IntKind.i64.wrap (((a % 2 ^ IntKind.i64.bits).toNat &&& 7 % 2 ^ IntKind.i64.bits : Nat) : Int) = (low3 a : Int) := by
 have h := low3_lt a
 have e : ((a % 2 ^ IntKind.i64.bits).toNat &&& 7 % 2 ^ IntKind.i64.bits : Nat) = low3 a := rfl
 rw [e]
 simp [IntKind.wrap, IntKind.bits, IntKind.signed]; omega
def numM (s : List UInt8) : Dc := if (ParseM (shortM s)).2 = 0 then (ParseM (shortM s)).1 else ⟨false, [55], 0⟩
def kidsN (alone : List Val) (x : Item) : Nat := min (low3 x.many) alone.length
def itemKids (alone : List Val) (x : Item) : List Val := if low3 x.kind = 5 ∨ low3 x.kind = 6 then alone.drop (alone.length - kidsN alone x) else []
def itemRest (alone : List Val) (x : Item) : List Val := if low3 x.kind = 5 ∨ low3 x.kind = 6 then alone.take (alone.length - kidsN alone x) else alone
def itemV (alone : List Val) (x : Item) : Val :=
 .mk (low3 x.kind + 1) x.mask (if low3 x.kind = 3 then numM x.num else dc0) (if low3 x.kind = 4 then wordM x.text else [])
  (if low3 x.kind = 6 then namedM x.keys (itemKids alone x).length else []) (itemKids alone x) (if low3 x.kind = 7 then 40 else 0)
def itemM (alone : List Val) (x : Item) : List Val := itemRest alone x ++ [itemV alone x]
def aloneM (l : List Item) : List Val := (l.take 80).foldl itemM []
def builtM (l : List Item) : Val := (aloneM l).getLastD nullV
def aloneK (l : List Item) (k : Nat) : List Val := (l.take k).foldl itemM []
theorem aloneK_succ {l : List Item} {k : Nat} {x : Item} (h : l[k]? = some x) : aloneK l (k + 1) = itemM (aloneK l k) x := by
 unfold aloneK; rw [List.take_add_one, h]; simp
theorem itemM_len (a : List Val) (x : Item) : (itemM a x).length ≤ a.length + 1 := by
 unfold itemM itemRest; split <;> simp <;> omega
theorem aloneK_len (l : List Item) : ∀ k, (aloneK l k).length ≤ k
 | 0 => by simp [aloneK]
 | k + 1 => by
  cases h : l[k]? with
  | none =>
   have h1 : aloneK l (k + 1) = aloneK l k := by unfold aloneK; rw [List.take_add_one, h]; simp
   have := aloneK_len l k
   rw [h1]; omega
  | some x =>
   rw [aloneK_succ h]
   have := itemM_len (aloneK l k) x
   have := aloneK_len l k
   omega
theorem Built_ev (l : List Item) (hl : ∀ x ∈ l, x.keys.length ≤ 140737488351232) : AFn Tryz.prog G 10 [.sl 6 (l.map Item.enc)] ((builtM l).enc) := by
 refine AFn.introU tok Tryz.func10 (by kernel_rfl) rfl rfl ?_
 simp only [Tryz.f10, enumA, List.map_cons, List.map_nil]
 refine rgn [] [[]] ?_
 refine op1 tok ?_
 refine runEnd ?_
 refine rgn [] [[], [0, 2, 3]] ?_
 iterate 2 refine op1 tok ?_
 refine runEnd ?_
 refine AW.seq ?_
 refine rgn [] [[]] ?_
 refine op1 tok ?_
 refine runEnd ?_
 refine AW.block ?_
 refine AW.loop (α := Nat) (fun k => k ≤ l.length ∧ k ≤ 80) (fun k => ⟨upds 121 [(0, .p (.sl 6 (l.map Item.enc))), (2, .ptr 2 0), (3, .ms 11), (4, .p (.int .i64 k))], [], [(11, .row 31 9 ((aloneK l k).map Val.enc)), (2, .vars 31 [.p (.int .i64 0), .p (.int .u64 0), .p (.bool false), .p (.str []), .p (.int .i64 0), .p (.str []), .nilsl, .nilsl, .p (.int .i64 0)])], 0⟩) (fun k => l.length - k) (0) ⟨by omega, by omega⟩ ⟨upds_le (by simp), rfl, by simp [aloneK], by simp⟩ ?_
 rintro k ⟨hk, hk8⟩
 have hal := aloneK_len l k
 generalize haa : aloneK l k = alone at *
 refine AW.seq ?_
 refine rgn [] [[], [], [], [], [0, 2, 3, 4, 16], [], [], [0, 2, 3, 4, 19]] ?_
 iterate 5 refine op1 tok ?_
 iterate 2 refine op2 tok ?_
 refine op1 tok ?_
 refine runEnd ?_
 refine cnd ?_ ?_
 ·intro h19
  try simp at h19
  obtain ⟨x, hx⟩ : ∃ x, l[k]? = some x := ⟨l[k], by simp [h19.1]⟩
  have hsh := short_ev (G := G) x.num
  have hpa := Parse_ev (G := G) (shortM x.num) (by have := shortM_len x.num; omega)
  have hwo := word_ev (G := G) x.text
  have h3k := low3_lt x.kind
  have hxl := hl x (List.mem_of_getElem? hx)
  refine AW.skip ?_
  refine AW.seq ?_
  refine AW.block ?_
  refine rgn [x.enc] [[], [], [], [], [0, 2, 3, 4, 26], [], [0, 2, 3, 4, 5]] ?_
  iterate 7 refine op1 tok ?_ (h := by intro C; conv => lhs; simp [low3_wrap]) (hv := by first | with_reducible exact True.intro | (simp [hx]; done) | omega | simp | (simp; omega) | (simp +contextual; omega))
  refine runEnd ?_
  refine rgn [x.enc] [[], [], [], [], [0, 2, 3, 4, 29, 32], [], [], [0, 2, 3, 4, 35], [], [0, 2, 3, 4, 6]] ?_
  iterate 10 refine op1 tok ?_ (hv := by first | with_reducible exact True.intro | (simp [hx]; done) | omega | simp | (simp; omega) | (simp +contextual; omega))
  refine runEnd ?_
  refine AW.join (α := Unit) (fun _ => True) (fun a => ⟨upds 121 [(0, .p (.sl 6 (l.map Item.enc))), (2, .ptr 2 0), (3, .ms 11), (4, .p (.int .i64 k)), (6, .ptr 6 0)], [], [(11, .row 31 9 ((itemRest alone x).map Val.enc)), (2, .vars 31 [.p (.int .i64 0), .p (.int .u64 0), .p (.bool false), .p (.str []), .p (.int .i64 0), .p (.str []), .nilsl, .nilsl, .p (.int .i64 0)]), (6, .vars 31 [.p (.int .i64 (low3 x.kind + 1)), .p (.int .u64 x.mask), .p (.bool (itemV alone x).num.neg), .p (.str (itemV alone x).num.digits), .p (.int .i64 (itemV alone x).num.scale), .p (.str (itemV alone x).text), .p (.sl 1 []), .p (.sl 9 ((itemKids alone x).map Val.enc)), .p (.int .i64 (itemV alone x).code)])], 0⟩) ?_ ?_
  ·
   refine AW.seqRegionO [] ?_
   refine AOpsO.fill 6 [none, none, none, none, none, none, some 1, some 9] (by conv => lhs; simp) ?_
   refine AOpsO.run [[], [0, 2, 3, 4, 6, 37]] ?_
   iterate 2 refine op1 tok ?_
   refine runEnd ?_
   refine AW.block ?_
   refine rgn [] [[], [0, 2, 3, 4, 6, 37, 38]] ?_
   iterate 2 refine op1 tok ?_
   refine runEnd ?_
   refine cnd ?_ ?_
   ·intro h38
    try simp at h38
    have hq : low3 x.kind = 3 := by omega
    refine rgn [x.enc, .nilp, .str (shortM x.num), .nilp, .tup [(ParseM (shortM x.num)).1.enc, .int .i64 (ParseM (shortM x.num)).2]] [[], [], [], [], [0, 2, 3, 4, 6, 45], [], [], [], [], [0, 2, 3, 4, 6, 48, 49], [], [], [0, 2, 3, 4, 6, 7, 8]] ?_
    iterate 13 refine op1 tok ?_ (hv := by first | with_reducible exact True.intro | (first | exact hsh | exact hpa | simp [hx]; done) | omega | simp | (simp; omega) | (simp +contextual; omega))
    refine runEnd ?_
    refine AW.seq ?_
    refine rgn [] [[], [0, 2, 3, 4, 6, 7, 51]] ?_
    iterate 2 refine op1 tok ?_
    refine runEnd ?_
    refine cnd ?_ ?_
    ·intro h51
     try simp at h51
     refine rgz [] [[], [0, 2, 3, 4, 6, 7]] ?_
     iterate 2 refine op1 tok ?_
     refine runEnd ?_
     refine rgz [] [[], [], [0, 2, 3, 4, 6]] ?_
     iterate 3 refine op1 tok ?_
     refine runEnd ?_
     exact ⟨(), trivial, upds_le (by simp [itemRest, itemV, itemKids, numM, dc0, Val.num, Val.text, Val.code, Val.keys, Val.kids, hq, h51]), rfl, by simp [itemRest, itemV, itemKids, numM, dc0, Val.num, Val.text, Val.code, Val.keys, Val.kids, hq, h51], by simp [itemRest, itemV, itemKids, numM, dc0, Val.num, Val.text, Val.code, Val.keys, Val.kids, hq, h51]⟩
    ·intro h51
     try simp at h51
     refine AW.skip ?_
     refine rgz [] [[], [], [0, 2, 3, 4, 6]] ?_
     iterate 3 refine op1 tok ?_
     refine runEnd ?_
     exact ⟨(), trivial, upds_le (by simp [itemRest, itemV, itemKids, numM, dc0, Val.num, Val.text, Val.code, Val.keys, Val.kids, hq, h51]), rfl, by simp [itemRest, itemV, itemKids, numM, dc0, Val.num, Val.text, Val.code, Val.keys, Val.kids, hq, h51], by simp [itemRest, itemV, itemKids, numM, dc0, Val.num, Val.text, Val.code, Val.keys, Val.kids, hq, h51]⟩
   ·intro h38
    try simp at h38
    refine rgn [] [[], [0, 2, 3, 4, 6, 37, 55]] ?_
    iterate 2 refine op1 tok ?_
    refine runEnd ?_
    refine cnd ?_ ?_
    ·intro h55
     try simp at h55
     have hq : low3 x.kind = 4 := by omega
     refine rgz [x.enc, .nilp, .str (wordM x.text)] [[], [], [], [], [0, 2, 3, 4, 6, 61], [], [], [0, 2, 3, 4, 6]] ?_
     iterate 8 refine op1 tok ?_ (hv := by first | with_reducible exact True.intro | (first | exact hwo | simp [hx]; done) | omega | simp | (simp; omega) | (simp +contextual; omega))
     refine runEnd ?_
     exact ⟨(), trivial, upds_le (by simp [itemRest, itemV, itemKids, numM, dc0, Val.num, Val.text, Val.code, Val.keys, Val.kids, hq]), rfl, by simp [itemRest, itemV, itemKids, numM, dc0, Val.num, Val.text, Val.code, Val.keys, Val.kids, hq], by simp [itemRest, itemV, itemKids, numM, dc0, Val.num, Val.text, Val.code, Val.keys, Val.kids, hq]⟩
    ·intro h55
     try simp at h55
     refine rgn [] [[], [0, 2, 3, 4, 6, 37, 64]] ?_
     iterate 2 refine op1 tok ?_
     refine runEnd ?_
     refine cnd ?_ ?_
     ·intro h64
      try simp at h64
      have hq : low3 x.kind = 7 := by omega
      refine rgz [] [[], [0, 2, 3, 4, 6]] ?_
      iterate 2 refine op1 tok ?_
      refine runEnd ?_
      exact ⟨(), trivial, upds_le (by simp [itemRest, itemV, itemKids, numM, dc0, Val.num, Val.text, Val.code, Val.keys, Val.kids, hq]), rfl, by simp [itemRest, itemV, itemKids, numM, dc0, Val.num, Val.text, Val.code, Val.keys, Val.kids, hq], by simp [itemRest, itemV, itemKids, numM, dc0, Val.num, Val.text, Val.code, Val.keys, Val.kids, hq]⟩
     ·intro h64
      try simp at h64
      refine AW.join (α := Unit) (fun _ => True) (fun a => ⟨upds 121 [(0, .p (.sl 6 (l.map Item.enc))), (2, .ptr 2 0), (3, .ms 11), (4, .p (.int .i64 k)), (6, .ptr 6 0), (67, .p (.bool (decide (low3 x.kind = 5 ∨ low3 x.kind = 6))))], [], [(11, .row 31 9 (alone.map Val.enc)), (2, .vars 31 [.p (.int .i64 0), .p (.int .u64 0), .p (.bool false), .p (.str []), .p (.int .i64 0), .p (.str []), .nilsl, .nilsl, .p (.int .i64 0)]), (6, .vars 31 [.p (.int .i64 (low3 x.kind + 1)), .p (.int .u64 x.mask), .p (.bool false), .p (.str []), .p (.int .i64 0), .p (.str []), .p (.sl 1 []), .p (.sl 9 []), .p (.int .i64 0)])], 0⟩) ?_ ?_
      ·
       refine rgn [] [[], [0, 2, 3, 4, 6, 37, 67]] ?_
       iterate 2 refine op1 tok ?_
       refine runEnd ?_
       refine cnd ?_ ?_
       ·intro h67
        try simp at h67
        refine AW.skip ?_
        exact ⟨(), trivial, upds_le (by simp [show (low3 x.kind = 5 ∨ low3 x.kind = 6) = True from eq_true (by omega), h67]), rfl, by simp [show (low3 x.kind = 5 ∨ low3 x.kind = 6) = True from eq_true (by omega), h67], by simp [show (low3 x.kind = 5 ∨ low3 x.kind = 6) = True from eq_true (by omega), h67]⟩
       ·intro h67
        try simp at h67
        refine rgz [] [[], [0, 2, 3, 4, 6, 67]] ?_
        iterate 2 refine op1 tok ?_
        refine runEnd ?_
        exact ⟨(), trivial, upds_le (by simp [show (low3 x.kind = 5 ∨ low3 x.kind = 6) = (low3 x.kind = 6) from propext (by omega), show ((low3 x.kind : Int) + 1 = 7) = (low3 x.kind = 6) from propext (by omega)]), rfl, by simp [show (low3 x.kind = 5 ∨ low3 x.kind = 6) = (low3 x.kind = 6) from propext (by omega), show ((low3 x.kind : Int) + 1 = 7) = (low3 x.kind = 6) from propext (by omega)], by simp [show (low3 x.kind = 5 ∨ low3 x.kind = 6) = (low3 x.kind = 6) from propext (by omega), show ((low3 x.kind : Int) + 1 = 7) = (low3 x.kind = 6) from propext (by omega)]⟩
      ·
       rintro a hI
       refine cnd ?_ ?_
       ·intro h67
        try simp at h67
        have hmany := low3_lt x.many
        have hkn : ((alone.length : Int) - if alone.length < low3 x.many then (alone.length : Int) else (low3 x.many : Int)).toNat = alone.length - kidsN alone x := by unfold kidsN; split <;> omega
        have hq3 : ¬ low3 x.kind = 3 := by omega
        have hq4 : ¬ low3 x.kind = 4 := by omega
        have hq7 : ¬ low3 x.kind = 7 := by omega
        refine rgn [x.enc] [[], [], [], [], [0, 2, 3, 4, 6, 74], [], [], [], [0, 2, 3, 4, 6, 78], [0, 2, 3, 4, 6, 9]] ?_
        iterate 10 refine op1 tok ?_ (h := by intro C; conv => lhs; simp [low3_wrap]) (hv := by first | with_reducible exact True.intro | (simp [hx]; done) | omega | simp | (simp; omega) | (simp +contextual; omega))
        refine runEnd ?_
        refine rgn [] [[], [], [], [0, 2, 3, 4, 6, 82], [0, 2, 3, 4, 6, 10]] ?_
        iterate 5 refine op1 tok ?_
        refine runEnd ?_
        refine AW.seqRegionO [] ?_
        refine AOpsO.freeze 11 (by conv => lhs; simp) ?_
        refine AOpsO.run [[], [], [], [], [0, 2, 3, 4, 6, 10, 87], [], [0, 2, 3, 4, 6, 10]] ?_
        iterate 7 refine op1 tok ?_
        refine runEnd ?_
        refine rgz [] [[], [], [], [0, 2, 4, 6, 89, 92], []] ?_
        iterate 5 refine op1 tok ?_
        refine runOff ?_
        refine AOpsO.take 89 11 (by conv => lhs; simp) ?_
        refine AOpsO.freeze 83 (by conv => lhs; simp) ?_
        refine AOpsO.run [[0, 2, 3, 4, 6]] ?_
        refine op1 tok ?_
        refine runEnd ?_
        exact ⟨(), trivial, upds_le (by simp [itemRest, itemV, itemKids, numM, dc0, Val.num, Val.text, Val.code, Val.keys, Val.kids, hq3, hq4, hq7, hkn, h67, show List.take alone.length (alone.map Val.enc) = alone.map Val.enc from List.take_of_length_le (by simp)]), rfl, by simp [itemRest, itemV, itemKids, numM, dc0, Val.num, Val.text, Val.code, Val.keys, Val.kids, hq3, hq4, hq7, hkn, h67, show List.take alone.length (alone.map Val.enc) = alone.map Val.enc from List.take_of_length_le (by simp)], by simp [itemRest, itemV, itemKids, numM, dc0, Val.num, Val.text, Val.code, Val.keys, Val.kids, hq3, hq4, hq7, hkn, h67, show List.take alone.length (alone.map Val.enc) = alone.map Val.enc from List.take_of_length_le (by simp)]⟩
       ·intro h67
        try simp at h67
        have hq3 : ¬ low3 x.kind = 3 := by omega
        have hq4 : ¬ low3 x.kind = 4 := by omega
        have hq7 : ¬ low3 x.kind = 7 := by omega
        refine AW.skip ?_
        exact ⟨(), trivial, upds_le (by simp [itemRest, itemV, itemKids, numM, dc0, Val.num, Val.text, Val.code, Val.keys, Val.kids, hq3, hq4, hq7, h67]), rfl, by simp [itemRest, itemV, itemKids, numM, dc0, Val.num, Val.text, Val.code, Val.keys, Val.kids, hq3, hq4, hq7, h67], by simp [itemRest, itemV, itemKids, numM, dc0, Val.num, Val.text, Val.code, Val.keys, Val.kids, hq3, hq4, hq7, h67]⟩
  ·
   rintro a hI
   refine AW.join (α := Unit) (fun _ => True) (fun a => ⟨upds 121 [(0, .p (.sl 6 (l.map Item.enc))), (2, .ptr 2 0), (3, .ms 11), (4, .p (.int .i64 k)), (6, .ptr 6 0)], [], [(11, .row 31 9 ((itemRest alone x).map Val.enc)), (2, .vars 31 [.p (.int .i64 0), .p (.int .u64 0), .p (.bool false), .p (.str []), .p (.int .i64 0), .p (.str []), .nilsl, .nilsl, .p (.int .i64 0)]), (6, .vars 31 [.p (.int .i64 (itemV alone x).kind), .p (.int .u64 (itemV alone x).mask), .p (.bool (itemV alone x).num.neg), .p (.str (itemV alone x).num.digits), .p (.int .i64 (itemV alone x).num.scale), .p (.str (itemV alone x).text), .p (.sl 1 ((itemV alone x).keys.map PD.str)), .p (.sl 9 ((itemV alone x).kids.map Val.enc)), .p (.int .i64 (itemV alone x).code)])], 0⟩) ?_ ?_
   ·
    refine rgn [] [[], [], [0, 2, 3, 4, 6, 96]] ?_
    iterate 3 refine op1 tok ?_
    refine runEnd ?_
    refine cnd ?_ ?_
    ·intro h96
     try simp at h96
     have hq : low3 x.kind = 6 := by omega
     have hkl : (itemKids alone x).length ≤ 100000 := by unfold itemKids; split <;> simp <;> omega
     have hna := named_ev (G := G) x.keys (itemKids alone x).length hxl hkl
     refine AW.runDrawK tok mixed [0, 2, 3, 4, 6] 9 [[0], [4], [97, 98], [99], [100], [6], [102], [103], [101, 104]] [x.enc, .nilp, .sl 1 ((namedM x.keys (itemKids alone x).length).map PD.str)] [] (by kernel_rfl) (by intro C; conv => lhs; simp) (by first | (simp [hx]; done) | (simp [hx]; exact hna)) (by simp [Sm.sum, Sm.foot, Sm.tch, Sm.refs]; kernel_rfl) (by intro C; conv => lhs; simp) (by first | with_reducible exact True.intro | omega | simp | (simp; omega) | (simp +contextual; omega)) ?_
     exact ⟨(), trivial, upds_le (by simp [itemV, Val.kind, Val.mask, Val.keys, Val.kids, hq]), rfl, by simp [itemV, Val.kind, Val.mask, Val.keys, Val.kids, hq], by simp [itemV, Val.kind, Val.mask, Val.keys, Val.kids, hq]⟩
    ·intro h96
     try simp at h96
     have hq : ¬ low3 x.kind = 6 := by omega
     refine AW.skip ?_
     exact ⟨(), trivial, upds_le (by simp [itemV, Val.kind, Val.mask, Val.keys, Val.kids, hq]), rfl, by simp [itemV, Val.kind, Val.mask, Val.keys, Val.kids, hq], by simp [itemV, Val.kind, Val.mask, Val.keys, Val.kids, hq]⟩
   ·
    rintro a hI
    have hrl : (itemRest alone x).length ≤ alone.length := by unfold itemRest; split <;> simp <;> omega
    refine rgz [(itemV alone x).enc] [[], [], [], [0, 2, 4, 110], [0, 2, 3, 4]] ?_
    iterate 5 refine op1 tok ?_ (hv := by first | with_reducible exact True.intro | (first | (simp; done) | (simp; omega) | omega; done) | omega | simp | (simp; omega) | (simp +contextual; omega))
    refine runEnd ?_
    refine rgz [] [[], [], [0, 2, 3, 4]] ?_
    iterate 3 refine op1 tok ?_
    refine runEnd ?_
    exact ⟨k + 1, ⟨by omega, by omega⟩, by omega, upds_le (by simp [haa, aloneK_succ hx, itemM]), rfl, by simp [haa, aloneK_succ hx, itemM], by simp [haa, aloneK_succ hx, itemM]⟩
 ·intro h19
  try simp at h19
  have hfin : aloneM l = alone := by
   rw [← haa]; unfold aloneM aloneK
   congr 1
   by_cases h : k = 80
   ·rw [h]
   ·have hkl : k = l.length := by omega
    rw [hkl, List.take_length, List.take_of_length_le (by omega)]
  refine AW.exit ?_
  simp
  refine AW.seq ?_
  refine rgn [] [[], [], [2, 3, 113]] ?_
  iterate 3 refine op1 tok ?_
  refine runEnd ?_
  refine cnd ?_ ?_
  ·intro h113
   try simp at h113
   have hB : builtM l = nullV := by simp [builtM, hfin, h113]
   refine rgn [] [[], [2]] ?_
   iterate 2 refine op1 tok ?_
   refine runEnd ?_
   exact AW.ret ⟨.inr rfl, _, _, by (conv => lhs; simp), trivial, by simp [hB, nullV, dc0, Val.kind, Val.mask, Val.num, Val.text, Val.keys, Val.kids, Val.code]⟩
  ·intro h113
   try simp at h113
   have hlast : alone[alone.length - 1]? = some (builtM l) := by
    rw [builtM, hfin, List.getLastD_eq_getLast?, List.getLast?_eq_getElem?]
    have : alone.length - 1 < alone.length := by
     have : alone ≠ [] := h113
     have := List.length_pos_iff.2 this; omega
    simp [this]
   have hpos : 0 < alone.length := List.length_pos_iff.2 h113
   refine AW.skip ?_
   refine rgn [(builtM l).enc] [[], [], [], [], [2, 119], [], [2]] ?_
   iterate 7 refine op1 tok ?_ (hv := by first | with_reducible exact True.intro | (simp [hlast]; done) | omega | simp | (simp; omega) | (simp +contextual; omega))
   refine runEnd ?_
   exact AW.ret ⟨.inr rfl, _, _, by (conv => lhs; simp), trivial, by simp⟩
end Go.Proofs.YtdojfdaglbphlaaGreatDoor
namespace Go.Proofs.YtdojfdaglbphlaaGreatDoor
open Sy Go
set_option linter.unusedSimpArgs false
set_option linter.unusedVariables false
set_option maxRecDepth 100000
theorem mayT_intro {v : Val} (h1 : 1 ≤ v.kind ∧ v.kind ≤ 8 ∧ v.kids.length ≤ 200) (h2 : v.kind = 8 ↔ v.code ≠ 0) (h3 : v.kind = 4 → dcMay v.num = true) (h3' : v.kind ≠ 4 → v.num = dc0)
  (h4 : v.kind = 5 → wordT v.text = true) (h4' : v.kind ≠ 5 → v.text = []) (h5 : v.kind = 7 → v.keys.length = v.kids.length ∧ keysT v.keys = true) (h5' : v.kind ≠ 7 → v.keys = []) (h6 : v.kids = [] ∨ v.kind = 6 ∨ v.kind = 7)
  (h7 : ∀ k ∈ v.kids, mayT k = true) : mayT v = true := by
 rw [mayT_eq]
 simp only [Bool.and_eq_true, partsT]
 refine ⟨⟨by simp [boundsT]; omega, ⟨⟨⟨⟨?_, ?_⟩, ?_⟩, ?_⟩, ?_⟩⟩, List.all_eq_true.2 h7⟩
 ·unfold codeT
  by_cases h : v.kind = 8
  ·simp [h, h2.1 h]
  ·have : v.code = 0 := by by_cases hc : v.code = 0; · exact hc
                           ·exact (h (h2.2 hc)).elim
   simp [h, this]
 ·unfold numT
  by_cases h : v.kind = 4
  ·rw [if_pos h]; exact h3 h
  ·rw [if_neg h, h3' h]; simp [dc0]
 ·unfold textT
  by_cases h : v.kind = 5
  ·rw [if_pos h]; exact h4 h
  ·rw [if_neg h, h4' h]; simp
 ·unfold namedT
  by_cases h : v.kind = 7
  ·rw [if_pos h, (h5 h).1, (h5 h).2]; simp
  ·rw [if_neg h, h5' h]; simp
 ·unfold kidsT
  rcases h6 with h | h | h <;> simp [h]
end Go.Proofs.YtdojfdaglbphlaaGreatDoor
namespace Go.Proofs.YtdojfdaglbphlaaGreatDoor
open Sy Go
set_option linter.unusedSimpArgs false
set_option linter.unusedVariables false
set_option maxRecDepth 100000
theorem word_may (s : List UInt8) : wordT (wordM s) = true := by
 have hl := wordM_len s
 unfold wordT
 rw [valid_eq]
 have : validM (wordM s) = true := by
  unfold wordM
  split
  ·assumption
  ·decide +kernel
 rw [this]; simp; omega
theorem wordT_kays {n : Nat} (h : n ≤ 4096) (hv : validM (kays n) = true) : wordT (kays n) = true := by
 unfold wordT; rw [valid_eq, hv]; simp [kays]; omega
theorem kays_valid : ∀ n, n ≤ 9 → validM (kays n) = true := by decide +kernel
theorem namedS_may {l : List (List UInt8)} {i many : Nat} (hi : i ≤ l.length + many) (hm : many ≤ 8) : wordT (namedS l i) = true := by
 unfold namedS
 split
 ·exact word_may _
 ·exact wordT_kays (by omega) (kays_valid _ (by omega))
theorem namedGo_spec {l : List (List UInt8)} {many : Nat} (hm : many ≤ 8) : ∀ (f i : Nat) (out : List (List UInt8)), i + f = l.length + many + 1 → out.Nodup → (∀ s ∈ out, wordT s = true) → out.length ≤ many → (∀ t, 1 ≤ t → t + l.length ≤ i → kays t ∈ out) →
  (namedGo l many f i out).Nodup ∧ (∀ s ∈ namedGo l many f i out, wordT s = true) ∧ (namedGo l many f i out).length = many
 | 0, i, out, hf, _, _, h3, h4 => by
  have := kays_in (out := out) (n := many + 1) fun t h1 h2 => h4 t h1 (by omega)
  omega
 | f + 1, i, out, hf, h1, h2, h3, h4 => by
  simp only [namedGo]
  split
  ·rename_i hlt
   have hw := namedS_may (l := l) (i := i) (many := many) (by omega) hm
   have hk : ∀ t, 1 ≤ t → t + l.length ≤ i + 1 → kays t ∈ addM out (namedS l i) := by
    intro t h5 h6
    by_cases h7 : t + l.length ≤ i
    ·have := h4 t h5 h7
     unfold addM; split
     ·exact this
     ·simp [this]
    ·have : kays t = namedS l i := by simp only [namedS]; rw [dif_neg (by omega)]; congr 1; omega
     rw [this]; unfold addM; split
     ·assumption
     ·simp
   unfold addM at hk ⊢
   split at hk
   ·rename_i hin
    rw [if_pos hin]
    exact namedGo_spec hm f (i + 1) out (by omega) h1 h2 h3 hk
   ·rename_i hin
    rw [if_neg hin]
    refine namedGo_spec hm f (i + 1) (out ++ [namedS l i]) (by omega) ?_ (fun s hs => ?_) (by simp; omega) hk
    ·rw [List.nodup_append]
     exact ⟨h1, by simp, by intro a ha b hb; simp at hb; subst hb; rintro rfl; exact hin ha⟩
    ·rcases List.mem_append.1 hs with h | h
     ·exact h2 s h
     ·simp at h; rw [h]; exact hw
  ·exact ⟨h1, h2, by omega⟩
theorem namedM_may {l : List (List UInt8)} {many : Nat} (hm : many ≤ 8) : keysT (namedM l many) = true ∧ (namedM l many).length = many := by
 obtain ⟨h1, h2, h3⟩ := namedGo_spec (l := l) hm (l.length + many + 1) 0 [] (by omega) List.nodup_nil (by simp) (by simp) (by intro t h1 h2; omega)
 exact ⟨by unfold keysT; simp only [Bool.and_eq_true, List.all_eq_true, decide_eq_true_eq]; exact ⟨h2, h1⟩, h3⟩
theorem strip0_all {s : List UInt8} (h : s.all isDig = true) : (strip0 s).all isDig = true := by
 rw [List.all_eq_true] at h ⊢
 exact fun b hb => h b ((List.dropWhile_sublist _).subset hb)
theorem strip0_head {s : List UInt8} (h : strip0 s ≠ []) : byteAt (strip0 s) 0 ≠ 48 := by
 induction s with
 | nil => exact (h rfl).elim
 | cons b s ih =>
  by_cases hb : b = 48
  ·have e : strip0 (b :: s) = strip0 s := by simp [strip0, hb]
   rw [e] at h ⊢; exact ih h
  ·have e : strip0 (b :: s) = b :: s := by simp [strip0, hb]
   rw [e]
   intro h2
   simp [byteAt] at h2
   exact hb (UInt8.toNat_inj.1 (by show b.toNat = 48; omega))
theorem trail_spec : ∀ (k : Nat) (d : List UInt8), (∃ r, d = (trail d k).1 ++ r) ∧ ((trail d k).2 = 0 ∨ (trail d k).1.getLast? ≠ some 48)
 | 0, d => ⟨⟨[], by simp [trail]⟩, .inl rfl⟩
 | k + 1, d => by
  simp only [trail]
  split
  ·obtain ⟨⟨r, hr⟩, h2⟩ := trail_spec k d.dropLast
   refine ⟨⟨r ++ d.drop (d.length - 1), ?_⟩, h2⟩
   have e : d.dropLast ++ d.drop (d.length - 1) = d := by rw [List.dropLast_eq_take, List.take_append_drop]
   rw [← List.append_assoc, ← hr, e]
  ·rename_i h; exact ⟨⟨[], by simp⟩, .inr h⟩
theorem NormM_may {neg : Bool} {digits : List UInt8} {scale : Nat} (hd : digits.all isDig = true) (h : (NormM neg digits scale).2 = 0) : dcMay (NormM neg digits scale).1 = true := by
 unfold NormM at h ⊢
 simp only at h ⊢
 obtain ⟨⟨r, hr⟩, hl⟩ := trail_spec scale (strip0 digits)
 generalize trail (strip0 digits) scale = x at *
 split
 ·decide +kernel
 ·rename_i hne
  rw [if_neg hne] at h
  split
  ·rename_i hb; rw [if_pos hb] at h; simp at h
  ·rename_i hb
   have hpos : 0 < x.1.length := List.length_pos_iff.2 hne
   have hall : x.1.all isDig = true := by
    have := strip0_all hd
    rw [hr, List.all_append, Bool.and_eq_true] at this; exact this.1
   have hh : byteAt x.1 0 ≠ 48 := by
    have h1 := strip0_head (s := digits) (by rw [hr]; simp [hne])
    rw [hr] at h1
    obtain ⟨c, d, hx⟩ : ∃ c d, x.1 = c :: d := by
     cases hx : x.1 with
     | nil => exact (hne hx).elim
     | cons c d => exact ⟨c, d, rfl⟩
    rw [hx] at h1 ⊢
    simpa [byteAt] using h1
   rw [dcMay_yes (by simp only []; omega) hall]
   simp only
   rw [if_neg (by intro e; rw [e] at hh; exact hh rfl)]
   have hlast : x.2 = 0 ∨ byteAt x.1 (x.1.length - 1) ≠ 48 := hl.imp id fun h h2 => h ((byteAt_last hpos).1 h2)
   simp [hh]
   exact hlast
theorem zerosM_all (n : Nat) : (zerosM n).all isDig = true := List.all_eq_true.2 fun b hb => by rw [(List.mem_replicate.1 hb).2]; rfl
theorem lastM_may {neg : Bool} {digits : List UInt8} {sc : Int} (hd : digits.all isDig = true) (h : (lastM neg digits sc).2 = 0) : dcMay (lastM neg digits sc).1 = true := by
 unfold lastM at h ⊢
 split
 ·rename_i hs; rw [if_pos hs] at h; exact NormM_may (by rw [List.all_append, hd, zerosM_all]; rfl) h
 ·rename_i hs; rw [if_neg hs] at h; exact NormM_may hd h
theorem run_all (s : List UInt8) (k : Nat) : ((s.take (k + runM s k)).drop k).all isDig = true := by
 have e : (s.take (k + runM s k)).drop k = (s.drop k).takeWhile fun b => digitM b.toNat := by
  rw [List.drop_take, show k + runM s k - k = runM s k by omega]
  unfold runM
  have : ∀ (l : List UInt8) (p : UInt8 → Bool), l.take (l.takeWhile p).length = l.takeWhile p := by
   intro l p
   induction l with
   | nil => rfl
   | cons a l ih => rw [List.takeWhile_cons]; split
                    ·simp [ih]
                    ·rfl
  exact this _ _
 rw [e, List.all_eq_true]
 have : ∀ (l : List UInt8) (p : UInt8 → Bool) (b : UInt8), b ∈ l.takeWhile p → p b = true := by
  intro l p b
  induction l with
  | nil => intro h; simp at h
  | cons a l ih =>
   intro h
   rw [List.takeWhile_cons] at h
   split at h
   ·rename_i ha
    rcases List.mem_cons.1 h with rfl | h
    ·exact ha
    ·exact ih h
   ·simp at h
 exact fun b hb => this _ _ b hb
theorem restM_may {s : List UInt8} {neg : Bool} {digits : List UInt8} {scale : Nat} (hd : digits.all isDig = true) : ∀ o, (restM s neg digits scale o).2 = 0 → dcMay (restM s neg digits scale o).1 = true
 | none, h => by simp [restM, badDc] at h
 | some (k, up), h => by
  simp only [restM] at h ⊢
  split
  ·rename_i hk; rw [if_pos hk] at h; exact lastM_may hd h
  ·rename_i hk; rw [if_neg hk] at h; simp [badDc] at h
theorem ParseM_may {s : List UInt8} (h : (ParseM s).2 = 0) : dcMay (ParseM s).1 = true := by
 unfold ParseM at h ⊢
 split
 ·rename_i hb; rw [if_pos hb] at h; simp [badDc] at h
 ·rename_i hb
  rw [if_neg hb] at h
  have hd := run_all s (a0M s)
  revert h
  generalize (s.take (a0M s + runM s (a0M s))).drop (a0M s) = d0 at *
  generalize a0M s + runM s (a0M s) = k
  intro h
  unfold part2 at h ⊢
  split
  ·rename_i hp
   rw [if_pos hp] at h
   split
   ·rename_i hz; rw [if_pos hz] at h; simp [tailM, badDc] at h
   ·rename_i hz
    rw [if_neg hz] at h
    exact restM_may (by rw [List.all_append, hd, run_all]; rfl) _ h
  ·rename_i hp
   rw [if_neg hp] at h
   exact restM_may hd _ h
theorem numM_may (s : List UInt8) : dcMay (numM s) = true := by
 unfold numM
 split
 ·rename_i h; exact ParseM_may h
 ·decide +kernel
theorem itemKids_len (alone : List Val) (x : Item) : (itemKids alone x).length ≤ 8 := by
 have := low3_lt x.many
 unfold itemKids kidsN; split
 ·simp; omega
 ·simp
theorem itemKids_mem {alone : List Val} {x : Item} {k : Val} (h : k ∈ itemKids alone x) : k ∈ alone := by
 unfold itemKids at h; split at h
 ·exact List.mem_of_mem_drop h
 ·cases h
theorem itemV_may {alone : List Val} (x : Item) (ha : ∀ v ∈ alone, mayT v = true) : mayT (itemV alone x) = true := by
 have hk := low3_lt x.kind
 have hn := namedM_may (l := x.keys) (itemKids_len alone x)
 have hl := itemKids_len alone x
 have hkid : ¬ (low3 x.kind = 5 ∨ low3 x.kind = 6) → itemKids alone x = [] := fun h => by unfold itemKids; rw [if_neg h]
 have hmem := fun k (hk : k ∈ itemKids alone x) => ha k (itemKids_mem hk)
 unfold itemV
 generalize itemKids alone x = kids at *
 refine mayT_intro ?_ ?_ ?_ ?_ ?_ ?_ ?_ ?_ ?_ ?_ <;> simp only [Val.kind_mk, Val.num_mk, Val.text_mk, Val.keys_mk, Val.kids_mk, Val.code_mk]
 ·omega
 ·by_cases h : low3 x.kind = 7
  ·simp [h]
  ·simp [h]; omega
 ·intro h; rw [if_pos (by omega)]; exact numM_may _
 ·intro h; rw [if_neg (by omega)]
 ·intro h; rw [if_pos (by omega)]; exact word_may _
 ·intro h; rw [if_neg (by omega)]
 ·intro h; rw [if_pos (by omega)]; exact ⟨hn.2, hn.1⟩
 ·intro h; rw [if_neg (by omega)]
 ·by_cases h : low3 x.kind = 5 ∨ low3 x.kind = 6
  ·right; omega
  ·left; exact hkid h
 ·exact hmem
theorem built_may (l : List Item) : mayT (builtM l) = true := by
 have key : ∀ (l : List Item) (alone : List Val), (∀ v ∈ alone, mayT v = true) → ∀ v ∈ l.foldl itemM alone, mayT v = true := by
  intro l
  induction l with
  | nil => exact fun alone h => h
  | cons x l ih =>
   intro alone h
   refine ih _ fun v hv => ?_
   unfold itemM at hv
   rcases List.mem_append.1 hv with hv | hv
   ·unfold itemRest at hv; split at hv
    ·exact h v (List.mem_of_mem_take hv)
    ·exact h v hv
   ·simp at hv; rw [hv]; exact itemV_may x h
 unfold builtM
 rw [List.getLastD_eq_getLast?]
 cases hx : (aloneM l).getLast? with
 | none => decide +kernel
 | some v => exact key _ [] (by simp) v (List.mem_of_getLast? hx)
end Go.Proofs.YtdojfdaglbphlaaGreatDoor
namespace Go.Proofs.YtdojfdaglbphlaaGreatDoor
open Sy Go
set_option maxRecDepth 100000
set_option maxHeartbeats 4000000
set_option linter.unusedSimpArgs false
set_option linter.unusedVariables false
variable {G : Glob}
theorem cloneR_ax (a b c d e f g : V) (ks kids : List PD) : AX Tryz.prog G 135 [.ptr 902 0] [(902, .vars 31 [a, b, c, d, e, f, .ms 909, .ms 912, g]), (909, .row 9 1 ks), (912, .row 31 9 kids)] (.tuple []) [902, 909, 912] [(902, .vars 31 [a, b, c, d, e, f, .ms 909, .ms 912, g]), (909, .row 9 1 ks), (912, .row 31 9 kids)] := by
 refine AX.introU tok 800 Tryz.func135 (by kernel_rfl) rfl rfl ?_
 simp only [Tryz.f135, enumA, List.map_cons, List.map_nil]
 refine AW.skip ?_
 exact ⟨.inl rfl, _, _, by (conv => lhs; simp), trivial, by simp, by simp, by simp, by simp⟩
theorem mappedR_ax (v : Val) (hv : mayT v = true) : AX Tryz.prog G 134 [.p v.enc, .p (.fn 135)] [] (.agg [.p (.int .i64 v.kind), .p (.int .u64 v.mask), .p (.bool v.num.neg), .p (.str v.num.digits), .p (.int .i64 v.num.scale), .p (.str v.text), .ms 909, .ms 912, .p (.int .i64 v.code)]) [] [(909, .row 9 1 (v.keys.map PD.str)), (912, .row 31 9 (v.kids.map Val.enc))] := by
 refine AX.introU tok 900 Tryz.func134 (by kernel_rfl) rfl rfl ?_
 simp only [Tryz.f134, enumA, List.map_cons, List.map_nil]
 have hsm := may_small hv
 have hck := cloneK_ar (G := G) v.keys (by omega)
 have hcv := cloneV_ar (G := G) v.kids (by omega)
 have ih : ∀ k ∈ v.kids, AFn Tryz.prog G 134 [k.enc, .fn 135] (mapV id k).enc := fun k hk => mapped_ev (G := G) 135 id clone1_ax k (may_kid hv hk)
 refine rgn [] [[], [1, 2, 4]] ?_
 iterate 2 refine op1 tok ?_
 refine runEnd ?_
 refine AW.seqRunDrawK tok mixed [1, 2, 4] 8 [[2], [7], [8], [2], [10], [11], [2], [13, 9]] [.nilf, .sl 1 (v.keys.map PD.str), .clo 9 [], .nilf, .sl 9 (v.kids.map Val.enc), .clo 31 []] [] (by kernel_rfl) (by intro C; conv => lhs; simp) (by first | exact hck | exact hcv | ((repeat' (first | with_reducible apply And.intro | intro _)) <;> first | exact (hck) | exact (hcv) | assumption | omega | contradiction | simp_all)) (by simp [Sm.sum, Sm.foot, Sm.tch, Sm.refs]; kernel_rfl) (by intro C; conv => lhs; simp) (by first | with_reducible exact True.intro | omega | simp | (simp; omega) | (simp +contextual; omega)) ?_
 refine AW.seq ?_
 refine rgn [] [[], [], [], [1, 2, 4, 16, 17, 18]] ?_
 iterate 4 refine op1 tok ?_
 refine runEnd ?_
 refine AW.block ?_
 refine AW.loop (α := Nat) (fun k => k ≤ v.kids.length) (fun k => ⟨upds 34 [(1, .p (.fn 135)), (2, .ptr 902 0), (4, .ptr 904 0), (16, .ms 912), (17, .p (.int .i64 v.kids.length)), (18, .p (.int .i64 k))], [], [(902, .vars 31 [.p (.int .i64 v.kind), .p (.int .u64 v.mask), .p (.bool v.num.neg), .p (.str v.num.digits), .p (.int .i64 v.num.scale), .p (.str v.text), .ms 909, .ms 912, .p (.int .i64 v.code)]), (904, .vars 31 zeroN), (909, .row 9 1 (v.keys.map PD.str)), (912, .row 31 9 (kidsAt id v k))], 900⟩) (fun k => v.kids.length - k) (0) (by simp) ⟨upds_le (by simp), rfl, by simp, by simp⟩ ?_
 rintro k hk
 refine rgn [] [[]] ?_
 refine op1 tok ?_
 refine runEnd ?_
 refine AW.seq ?_
 refine cnd ?_ ?_
 ·intro h19
  try simp at h19
  obtain ⟨x, hx⟩ : ∃ x, v.kids[k]? = some x := ⟨v.kids[k], by simp [h19]⟩
  have hix := ih x (List.mem_of_getElem? hx)
  have hx' := kidsAt_get (ch := id) hx
  have hkl := kidsAt_len id v k
  have hset := kidsAt_set (ch := id) hx
  rw [mapV_id] at hix hset
  simp only [Val.enc_def] at hx' hix hset
  refine AW.skip ?_
  refine AW.seq ?_
  refine AW.block ?_
  refine rgn [x.enc] [[], [], [], [], [], [1, 2, 4, 5, 6, 16, 17, 18]] ?_
  iterate 6 refine op1 tok ?_ (hv := by first | with_reducible exact True.intro | (simpa using hx'; done) | omega | simp | (simp; omega) | (simp +contextual; omega))
  refine runEnd ?_
  refine AW.runDrawK tok mixed [1, 2, 4, 16, 17, 18] 6 [[2], [23], [5], [6], [1], [26, 27]] [.nilp, x.enc] [x.enc, x.enc] (by kernel_rfl) (by intro C; conv => lhs; simp) (by first | exact hix | ((repeat' (first | with_reducible apply And.intro | intro _)) <;> first | exact (hix) | exact (hx') | assumption | omega | contradiction | simp_all)) (by simp [Sm.sum, Sm.foot, Sm.tch, Sm.refs]; kernel_rfl) (by intro C; conv => lhs; simp) (by exact ⟨by omega, hx'⟩) ?_
  refine rgz [] [[], [1, 2, 4, 16, 17, 18]] ?_
  iterate 2 refine op1 tok ?_
  refine runEnd ?_
  exact ⟨k + 1, (by omega), (by omega), upds_le (by simp [hset]), rfl, by simp [hset], by simp [hset]⟩
 ·intro h19
  try simp at h19
  obtain rfl : k = v.kids.length := by omega
  have hfull : kidsAt id v v.kids.length = v.kids.map Val.enc := by simp only [kidsAt, List.take_length, List.drop_length, List.map_nil, List.append_nil, mapV_id]
  rw [hfull]
  refine AW.exit ?_
  simp
  refine rgn [] [[]] ?_
  refine op1 tok ?_
  refine runOff ?_
  refine AOpsO.stepK [2, 4] (y_cx rfl (cloneR_ax (.p (.int .i64 v.kind)) (.p (.int .u64 v.mask)) (.p (.bool v.num.neg)) (.p (.str v.num.digits)) (.p (.int .i64 v.num.scale)) (.p (.str v.text)) (.p (.int .i64 v.code)) (v.keys.map PD.str) (v.kids.map Val.enc)) (by simp)) (by conv => lhs; simp) rfl ?_
  refine AOpsO.nil ?_
  refine rgn [] [[], [4]] ?_
  iterate 2 refine op1 tok ?_
  refine runEnd ?_
  exact AW.ret ⟨.inr rfl, _, _, by (conv => lhs; simp), trivial, by simp, by simp, by simp, by simp⟩
theorem cloneR_ev (v : Val) (hv : mayT v = true) : AX Tryz.prog G 78 [.p v.enc] [] (.agg [.p (.int .i64 v.kind), .p (.int .u64 v.mask), .p (.bool v.num.neg), .p (.str v.num.digits), .p (.int .i64 v.num.scale), .p (.str v.text), .ms 909, .ms 912, .p (.int .i64 v.code)]) [] [(909, .row 9 1 (v.keys.map PD.str)), (912, .row 31 9 (v.kids.map Val.enc))] := by
 refine AX.introU tok 1900 Tryz.func78 (by kernel_rfl) rfl rfl ?_
 simp only [Tryz.f78, enumA, List.map_cons, List.map_nil]
 have hm := mappedR_ax (G := G) v hv
 simp only [Val.enc_def] at hm
 refine rgn [] [[], [1, 2]] ?_
 iterate 2 refine op1 tok ?_
 refine runEnd ?_
 refine rgn [] [[]] ?_
 refine op1 tok ?_
 refine runOff ?_
 refine AOpsO.stepK [2, 4] (y_cx rfl hm (by simp)) (by conv => lhs; simp) rfl ?_
 refine AOpsO.run [[2]] ?_
 refine op1 tok ?_
 refine runEnd ?_
 exact AW.ret ⟨.inr rfl, _, _, by (conv => lhs; simp), trivial, by simp, by simp, by simp, by simp⟩
end Go.Proofs.YtdojfdaglbphlaaGreatDoor
namespace Go.Proofs.YtdojfdaglbphlaaGreatDoor
open Sy Go
set_option maxRecDepth 100000
set_option linter.unusedSimpArgs false
set_option linter.unusedVariables false
variable {G : Glob}
theorem ext68 : IsExt Tryz.prog 281 Extern.BytealgIndexByte.indexByte := fun args w => run_callFunc_extern Tryz.func281 (by kernel_rfl) (by kernel_rfl) (by kernel_rfl) (by kernel_rfl) args w
@[simp] theorem sIndexByte_ev (s : List UInt8) (n : Int) : AFn Tryz.prog G 276 [.str s, .int .u8 n] (.int .i64 (Lib.indexByte s n.toNat.toUInt8)) := by
 refine AFn.intro tok Tryz.func276 (by kernel_rfl) rfl ?_
 simp only [Tryz.f276, St.start]
 refine AW.seqRun tok [] (by intro C; conv => lhs; simp) trivial ?_
 refine AW.seqRunX tok 2 [] [] rfl rfl (by intro C; conv => lhs; simp) trivial (y_indexByte (s := s) (n := n) (p := True) (q := True) (r := True) ext68 rfl (by simp) trivial (by simp) trivial (by simp) trivial) (by intro C; conv => lhs; simp) trivial ?_
 exact AW.ret ⟨.inr rfl, _, _, by (conv => lhs; simp), trivial, by simp⟩
@[simp] theorem IndexByte_ev (s : List UInt8) (n : Int) : AFn Tryz.prog G 265 [.str s, .int .u8 n] (.int .i64 (Lib.indexByte s n.toNat.toUInt8)) := by
 refine AFn.intro tok Tryz.func265 (by kernel_rfl) rfl ?_
 simp only [Tryz.f265, St.start]
 refine AW.seqRun tok [] (by intro C; conv => lhs; simp) trivial ?_
 refine AW.seqRun tok [.tup [.str s, .int .u8 n], .int .i64 (Lib.indexByte s n.toNat.toUInt8)] (by intro C; conv => lhs; simp) (by simp) ?_
 exact AW.ret ⟨.inr rfl, _, _, by (conv => lhs; simp), trivial, by simp⟩
end Go.Proofs.YtdojfdaglbphlaaGreatDoor
namespace Go.Proofs.YtdojfdaglbphlaaGreatDoor
open Sy Go
set_option maxRecDepth 100000
set_option linter.unusedSimpArgs false
set_option linter.unusedVariables false
variable {G : Glob}
end Go.Proofs.YtdojfdaglbphlaaGreatDoor
namespace Go.Proofs.YtdojfdaglbphlaaGreatDoor
open Sy Go
set_option maxRecDepth 100000
set_option maxHeartbeats 4000000
set_option linter.unusedSimpArgs false
set_option linter.unusedVariables false
variable {G : Glob}
theorem getD_get {s : List UInt8} {k : Nat} (h : k < s.length) : s[k]? = some (s.getD k 0) := by simp [List.getD_eq_getElem?_getD, h]
theorem trimLeftByte_ev (s : List UInt8) (c : UInt8) : AFn Tryz.prog G 190 [.str s, .int .u8 c.toNat] (.str (s.dropWhile (fun b => b == c))) := by
 refine AFn.introU tok Tryz.func190 (by kernel_rfl) rfl rfl ?_
 simp only [Tryz.f190, enumA, List.map_cons, List.map_nil]
 refine rgn [] [[0, 1]] ?_
 refine op1 tok ?_
 refine runEnd ?_
 refine AW.seq ?_
 refine AW.block ?_
 refine AW.loop (α := List UInt8) (fun r => r.dropWhile (fun b => b == c) = s.dropWhile (fun b => b == c)) (fun r => ⟨upds 17 [(0, .p (.str r)), (1, .p (.int .u8 c.toNat))], [], [], 0⟩) (fun r => r.length) (s) rfl ⟨upds_le (by simp), rfl, by simp, by simp⟩ ?_
 rintro r hr
 have hix : 0 < r.length → r[0]? = some (r.getD 0 0) := fun h => getD_get h
 refine AW.seq ?_
 refine rgn [.int .u8 (r.getD 0 0).toNat] [[], [], [], [], [], [0, 1, 8, 10], [], [], [0, 1, 13]] ?_
 iterate 4 refine op1 tok ?_ (hv := by first | with_reducible exact True.intro | (first | exact fun h => ⟨h, _, hix (by omega), rfl⟩ | simp; done) | omega | simp | (simp; omega) | (simp +contextual; omega))
 iterate 4 refine op2 tok ?_ (hv := by first | with_reducible exact True.intro | (first | exact fun h => ⟨h, _, hix (by omega), rfl⟩ | simp; done) | omega | simp | (simp; omega) | (simp +contextual; omega))
 refine op1 tok ?_ (hv := by first | with_reducible exact True.intro | (first | exact fun h => ⟨h, _, hix (by omega), rfl⟩ | simp; done) | omega | simp | (simp; omega) | (simp +contextual; omega))
 refine runEnd ?_
 refine cnd ?_ ?_
 ·intro h13
  try simp at h13
  obtain ⟨b, r, rfl⟩ : ∃ b r', r = b :: r' := by
   cases r with
   | nil => simp at h13
   | cons b r => exact ⟨b, r, rfl⟩
  have hb : b = c := UInt8.toNat_inj.1 (by have := h13.2; simp at this; omega)
  subst hb
  have hr2 : List.dropWhile (fun b' => b' == b) r = List.dropWhile (fun b' => b' == b) s := by rw [← hr]; simp
  refine AW.skip ?_
  refine AW.block ?_
  refine rgz [] [[], [], [0, 1]] ?_
  iterate 3 refine op1 tok ?_
  refine runEnd ?_
  exact ⟨r, hr2, by simp, upds_le (by simp), rfl, by simp, by simp⟩
 ·intro h13
  try simp at h13
  have hr3 : s.dropWhile (fun b => b == c) = r := by
   rw [← hr]
   cases r with
   | nil => rfl
   | cons b r =>
    have hb : b ≠ c := by rintro rfl; simp at h13
    simp [hb]
  rw [hr3]
  refine AW.exit ?_
  simp
  refine rgn [] [[], [4]] ?_
  iterate 2 refine op1 tok ?_
  refine runEnd ?_
  exact AW.ret ⟨.inr rfl, _, _, by (conv => lhs; simp), trivial, by simp⟩
theorem suffix_last (s : List UInt8) (c : UInt8) : (decide (1 ≤ (s.length : Int)) && decide (List.drop (s.length - 1) s = [c])) = decide (s.getLast? = some c) := by
 by_cases h : s = []
 ·subst h; simp
 ·obtain ⟨a, b, rfl⟩ : ∃ a b, s = a ++ [b] := ⟨s.dropLast, s.getLast h, (List.dropLast_concat_getLast h).symm⟩
  rw [Bool.eq_iff_iff]
  simp
  intro _; omega
theorem sHasSuffix_ev (s : List UInt8) (c : UInt8) : AFn Tryz.prog G 194 [.str s, .str [c]] (.bool (decide (s.getLast? = some c))) := by
 refine AFn.introU tok Tryz.func194 (by kernel_rfl) rfl rfl ?_
 simp only [Tryz.f194, enumA, List.map_cons, List.map_nil]
 refine AW.strFactU (i := 0) rfl (by decide) ?_
 intro hlen
 have hsuf : (decide (1 ≤ (s.length : Int)) && decide (List.drop (s.length - 1) s = [c])) = decide (s.getLast? = some c) := suffix_last s c
 refine rgn [] [[0, 1]] ?_
 refine op1 tok ?_
 refine runEnd ?_
 refine rgn [] [[], [], [], [], [0, 1, 9], [], [], [], [], [], [1, 10, 11, 13, 15], [], [1, 10, 17], [], [], [20], [4]] ?_
 iterate 6 refine op1 tok ?_
 iterate 9 refine op2 tok ?_
 iterate 2 refine op1 tok ?_
 refine runEnd ?_
 exact AW.ret ⟨.inr rfl, _, _, by (conv => lhs; simp), trivial, by simp [hsuf]⟩
theorem HasSuffix_ev (s : List UInt8) (c : UInt8) : AFn Tryz.prog G 147 [.str s, .str [c]] (.bool (decide (s.getLast? = some c))) := by
 refine AFn.introU tok Tryz.func147 (by kernel_rfl) rfl rfl ?_
 simp only [Tryz.f147, enumA, List.map_cons, List.map_nil]
 refine rgn [] [[0, 1]] ?_
 refine op1 tok ?_
 refine runEnd ?_
 refine rgn [.nilp, .bool (decide (s.getLast? = some c))] [[], [], [7], [4]] ?_
 iterate 4 refine op1 tok ?_ (hv := by first | with_reducible exact True.intro | (exact sHasSuffix_ev s c; done) | omega | simp | (simp; omega) | (simp +contextual; omega))
 refine runEnd ?_
 exact AW.ret ⟨.inr rfl, _, _, by (conv => lhs; simp), trivial, by simp⟩
theorem TrimLeft1_ev (s : List UInt8) (c : UInt8) (hc : c.toNat < 128) : AFn Tryz.prog G 146 [.str s, .str [c]] (.str (s.dropWhile (fun b => b == c))) := by
 refine AFn.introU tok Tryz.func146 (by kernel_rfl) rfl rfl ?_
 simp only [Tryz.f146, enumA, List.map_cons, List.map_nil]
 refine rgn [] [[0, 1]] ?_
 refine op1 tok ?_
 refine runEnd ?_
 refine AW.seq ?_
 refine rgn [] [[], [], [], [], [], [0, 1, 12]] ?_
 iterate 3 refine op1 tok ?_
 iterate 2 refine op2 tok ?_
 refine op1 tok ?_
 refine runEnd ?_
 refine cnd ?_ ?_
 ·intro h12
  try simp at h12
  subst h12
  refine rgn [] [[], [4]] ?_
  iterate 2 refine op1 tok ?_
  refine runEnd ?_
  exact AW.ret ⟨.inr rfl, _, _, by (conv => lhs; simp), trivial, by simp⟩
 ·intro h12
  try simp at h12
  refine AW.skip ?_
  refine AW.seq ?_
  refine rgn [.int .u8 c.toNat] [[], [], [], [], [], [0, 1, 17, 19], [], [0, 1, 21]] ?_
  iterate 4 refine op1 tok ?_ (hv := by first | with_reducible exact True.intro | (simp; done) | omega | simp | (simp; omega) | (simp +contextual; omega))
  iterate 3 refine op2 tok ?_ (hv := by first | with_reducible exact True.intro | (simp; done) | omega | simp | (simp; omega) | (simp +contextual; omega))
  refine op1 tok ?_ (hv := by first | with_reducible exact True.intro | (simp; done) | omega | simp | (simp; omega) | (simp +contextual; omega))
  refine runEnd ?_
  refine cnd ?_ ?_
  ·intro h21
   try simp at h21
   refine rgn [.int .u8 c.toNat, .nilp, .str (s.dropWhile (fun b => b == c))] [[], [], [], [25], [4]] ?_
   iterate 5 refine op1 tok ?_ (hv := by first | with_reducible exact True.intro | (first | exact trimLeftByte_ev s c | simp; done) | omega | simp | (simp; omega) | (simp +contextual; omega))
   refine runEnd ?_
   exact AW.ret ⟨.inr rfl, _, _, by (conv => lhs; simp), trivial, by simp⟩
  ·intro h21
   try simp at h21
   omega
end Go.Proofs.YtdojfdaglbphlaaGreatDoor
namespace Go.Proofs.YtdojfdaglbphlaaGreatDoor
open Sy Go
set_option maxRecDepth 100000
set_option maxHeartbeats 4000000
set_option linter.unusedSimpArgs false
set_option linter.unusedVariables false
variable {G : Glob}
theorem dw48_le (s : List UInt8) : (strip0 s).length ≤ s.length := (List.dropWhile_sublist _).length_le
theorem dc_bounds {d : Dc} (h : dcMay d = true) : 1 ≤ d.digits.length ∧ d.digits.length ≤ 60 ∧ 0 ≤ d.scale ∧ d.scale ≤ 60 := by
 unfold dcMay at h; simp only [Bool.and_eq_true, decide_eq_true_eq] at h; omega
theorem made_ev (neg : Bool) (digits : List UInt8) (scale : Nat) (hd : digits.length ≤ 10000000000) (hs : scale ≤ 10000000000) : AFn Tryz.prog G 90 [.bool neg, .str digits, .int .i64 scale] (.tup [(NormM neg digits scale).1.enc, .int .i64 (NormM neg digits scale).2]) := by
 refine AFn.introU tok Tryz.func90 (by kernel_rfl) rfl rfl ?_
 simp only [Tryz.f90, enumA, List.map_cons, List.map_nil]
 have hstr : (strip0 digits).length ≤ digits.length := dw48_le digits
 refine rgn [] [[], [0, 1, 2, 6]] ?_
 iterate 2 refine op1 tok ?_
 refine runEnd ?_
 refine rgn [.nilp, .str (strip0 digits)] [[], [], [0, 1, 2, 6]] ?_
 iterate 3 refine op1 tok ?_ (hv := by first | with_reducible exact True.intro | (exact TrimLeft1_ev digits 48 (by decide); done) | omega | simp | (simp; omega) | (simp +contextual; omega))
 refine runEnd ?_
 refine AW.seq ?_
 refine AW.block ?_
 refine AW.loop (α := List UInt8 × Nat) (fun a => trail (strip0 digits) scale = trail a.1 a.2 ∧ a.2 ≤ scale ∧ a.1.length ≤ digits.length) (fun a => ⟨upds 40 [(0, .p (.bool neg)), (1, .p (.str a.1)), (2, .p (.int .i64 a.2)), (6, .ptr 6 0)], [], [(6, .vars 26 [.p (.bool false), .p (.str []), .p (.int .i64 0)])], 0⟩) (fun a => a.2) ((strip0 digits, scale)) ⟨rfl, Nat.le_refl _, hstr⟩ ⟨upds_le (by simp), rfl, by simp, by simp⟩ ?_
 rintro ⟨d, k⟩ ⟨ht, hk, hdl⟩
 simp only at ht hk hdl
 have hsf := HasSuffix_ev (G := G) d 48
 refine AW.seq ?_
 refine rgn [.nilp, .bool (decide (d.getLast? = some 48))] [[], [], [], [], [], [0, 1, 2, 6, 15]] ?_
 iterate 3 refine op1 tok ?_ (hv := by first | with_reducible exact True.intro | (first | exact fun h => ⟨h, hsf⟩ | simp; done) | omega | simp | (simp; omega) | (simp +contextual; omega))
 iterate 2 refine op2 tok ?_ (hv := by first | with_reducible exact True.intro | (first | exact fun h => ⟨h, hsf⟩ | simp; done) | omega | simp | (simp; omega) | (simp +contextual; omega))
 refine op1 tok ?_ (hv := by first | with_reducible exact True.intro | (first | exact fun h => ⟨h, hsf⟩ | simp; done) | omega | simp | (simp; omega) | (simp +contextual; omega))
 refine runEnd ?_
 refine cnd ?_ ?_
 ·intro h15
  try simp at h15
  obtain ⟨k, rfl⟩ : ∃ k', k = k' + 1 := ⟨k - 1, by omega⟩
  have hl : d.getLast? = some 48 := by simpa using h15.2
  have hpos : 0 < d.length := by cases d with
   | nil => simp at hl
   | cons => simp
  have ht' : trail (strip0 digits) scale = trail d.dropLast k := by rw [ht]; simp only [trail]; rw [if_pos hl]
  refine AW.skip ?_
  refine AW.block ?_
  refine rgz [] [[], [], [], [], [0, 2, 6, 20], [], [], [], [0, 1, 2, 6]] ?_
  iterate 9 refine op1 tok ?_ (hv := by first | with_reducible exact True.intro | (omega; done) | omega | simp | (simp; omega) | (simp +contextual; omega))
  refine runEnd ?_
  exact ⟨(d.dropLast, k), ⟨ht', by simp only []; omega, by simp; omega⟩, by simp, upds_le (by simp [take_last]), rfl, by simp [take_last], by simp [take_last]⟩
 ·intro h15
  try simp at h15
  have htl : trail (strip0 digits) scale = (d, k) := by
   rw [ht]
   cases k with
   | zero => rfl
   | succ k =>
    simp only [trail]
    rw [if_neg]
    intro hl
    have := h15 (by omega)
    simp [hl] at this
  have hN : NormM neg digits scale = if d = [] then (⟨false, [48], 0⟩, 0) else if 60 < d.length ∨ 60 < k then (⟨false, [], 0⟩, 3) else (⟨neg, d, k⟩, 0) := by unfold NormM; simp only [htl]
  rw [hN]
  refine AW.exit ?_
  simp
  refine AW.seq ?_
  refine AW.block ?_
  refine rgn [] [[], [], [0, 1, 2, 6, 23]] ?_
  iterate 3 refine op1 tok ?_
  refine runEnd ?_
  refine cnd ?_ ?_
  ·intro h23
   try simp at h23
   subst h23
   refine rgn [] [[], [], [6, 7]] ?_
   iterate 3 refine op1 tok ?_
   refine runEnd ?_
   exact AW.ret ⟨.inr rfl, _, _, by (conv => lhs; simp), trivial, by simp⟩
  ·intro h23
   try simp at h23
   rw [if_neg h23]
   refine rgn [] [[], [], [], [], [], [0, 1, 2, 6, 31, 33], [], [0, 1, 2, 6, 27]] ?_
   iterate 4 refine op1 tok ?_
   iterate 2 refine op2 tok ?_
   iterate 2 refine op1 tok ?_
   refine runEnd ?_
   refine cnd ?_ ?_
   ·intro h27
    try simp at h27
    rw [if_pos (by omega)]
    refine rgn [] [[], [], [6, 7]] ?_
    iterate 3 refine op1 tok ?_
    refine runEnd ?_
    exact AW.ret ⟨.inr rfl, _, _, by (conv => lhs; simp), trivial, by simp⟩
   ·intro h27
    try simp at h27
    rw [if_neg (by omega)]
    refine AW.skip ?_
    refine rgn [] [[], [], [], [6, 39], [], [6, 7]] ?_
    iterate 6 refine op1 tok ?_
    refine runEnd ?_
    exact AW.ret ⟨.inr rfl, _, _, by (conv => lhs; simp), trivial, by simp⟩
theorem RefPrint_ev (d : Dc) (hd : dcMay d = true) : AFn Tryz.prog G 69 [d.enc] (.str (PrintM d)) := by
 refine AFn.introU tok Tryz.func69 (by kernel_rfl) rfl rfl ?_
 simp only [Tryz.f69, enumA, List.map_cons, List.map_nil]
 have hb := dc_bounds hd
 have hzl : (zerosM (d.scale.toNat + 1 - d.digits.length)).length = d.scale.toNat + 1 - d.digits.length := by simp [zerosM]
 have hpl : (padM d).length = d.scale.toNat + 1 - d.digits.length + d.digits.length := by simp [padM, zerosM]
 have hP : PrintM d = (if d.neg = true then [45] else []) ++ (if d.scale = 0 then padM d else (padM d).take ((padM d).length - d.scale.toNat) ++ 46 :: (padM d).drop ((padM d).length - d.scale.toNat)) := rfl
 have hpad : zerosM (d.scale.toNat + 1 - d.digits.length) ++ d.digits = padM d := rfl
 rw [hP]
 have hz := zeros_ev (G := G) (d.scale - d.digits.length + 1) (by omega)
 rw [show (d.scale - (d.digits.length : Int) + 1).toNat = d.scale.toNat + 1 - d.digits.length by omega] at hz
 refine rgn [] [[], [1]] ?_
 iterate 2 refine op1 tok ?_
 refine runEnd ?_
 refine rgn [] [[], [], [1, 3]] ?_
 iterate 3 refine op1 tok ?_
 refine runEnd ?_
 refine AW.join (α := Unit) (fun _ => True) (fun a => ⟨upds 44 [(1, .ptr 1 0), (3, .p (.str (padM d)))], [], [(1, .vars 26 [.p (.bool d.neg), .p (.str d.digits), .p (.int .i64 d.scale)])], 0⟩) ?_ ?_
 ·
  refine rgn [] [[], [], [], [], [1, 3, 10]] ?_
  iterate 5 refine op1 tok ?_
  refine runEnd ?_
  refine cnd ?_ ?_
  ·intro h10
   try simp at h10
   refine rgz [.nilp, .str (zerosM (d.scale.toNat + 1 - d.digits.length))] [[], [], [], [], [1, 3, 15], [], [], [], [1, 19], [1, 3]] ?_
   iterate 10 refine op1 tok ?_ (hv := by first | with_reducible exact True.intro | (first | exact hz | omega; done) | omega | simp | (simp; omega) | (simp +contextual; omega))
   refine runEnd ?_
   exact ⟨(), trivial, upds_le (by simp [hpad]), rfl, by simp [hpad], by simp [hpad]⟩
  ·intro h10
   try simp at h10
   have hnp : padM d = d.digits := by unfold padM; rw [show d.scale.toNat + 1 - d.digits.length = 0 by omega]; rfl
   refine AW.skip ?_
   exact ⟨(), trivial, upds_le (by simp [hnp]), rfl, by simp [hnp], by simp [hnp]⟩
 ·
  rintro a hI
  have hk : ((padM d).length - d.scale).toNat = (padM d).length - d.scale.toNat := by omega
  generalize padM d = pd at *
  refine AW.seq ?_
  refine rgn [] [[], [], [1, 3, 22]] ?_
  iterate 3 refine op1 tok ?_
  refine runEnd ?_
  refine cnd ?_ ?_
  ·intro h22
   try simp at h22
   refine AW.runDrawK tok mixed [1, 3] 16 [[3], [3], [24], [1], [26], [25, 27], [23, 28], [29], [3], [3], [32], [1], [34], [33, 35], [31, 36], [30, 37]] [] [] (by kernel_rfl) (by intro C; conv => lhs; simp) (by omega) (by simp [Sm.sum, Sm.foot, Sm.tch, Sm.refs]; kernel_rfl) (by intro C; conv => lhs; simp) (by first | with_reducible exact True.intro | omega | simp | (simp; omega) | (simp +contextual; omega)) ?_
   refine AW.seq ?_
   refine rgn [] [[], [3, 40]] ?_
   iterate 2 refine op1 tok ?_
   refine runEnd ?_
   refine cnd ?_ ?_
   ·intro h40
    try simp at h40
    refine rgn [] [[], [], [2]] ?_
    iterate 3 refine op1 tok ?_
    refine runEnd ?_
    exact AW.ret ⟨.inr rfl, _, _, by (conv => lhs; simp), trivial, by simp [show ¬ d.scale = 0 by omega, h40, hk]⟩
   ·intro h40
    try simp at h40
    refine AW.skip ?_
    refine rgn [] [[], [2]] ?_
    iterate 2 refine op1 tok ?_
    refine runEnd ?_
    exact AW.ret ⟨.inr rfl, _, _, by (conv => lhs; simp), trivial, by simp [show ¬ d.scale = 0 by omega, h40, hk]⟩
  ·intro h22
   try simp at h22
   refine AW.skip ?_
   refine AW.seq ?_
   refine rgn [] [[], [3, 40]] ?_
   iterate 2 refine op1 tok ?_
   refine runEnd ?_
   refine cnd ?_ ?_
   ·intro h40
    try simp at h40
    refine rgn [] [[], [], [2]] ?_
    iterate 3 refine op1 tok ?_
    refine runEnd ?_
    exact AW.ret ⟨.inr rfl, _, _, by (conv => lhs; simp), trivial, by simp [show d.scale = 0 by omega, h40]⟩
   ·intro h40
    try simp at h40
    refine AW.skip ?_
    refine rgn [] [[], [2]] ?_
    iterate 2 refine op1 tok ?_
    refine runEnd ?_
    exact AW.ret ⟨.inr rfl, _, _, by (conv => lhs; simp), trivial, by simp [show d.scale = 0 by omega, h40]⟩
end Go.Proofs.YtdojfdaglbphlaaGreatDoor
namespace Go.Proofs.YtdojfdaglbphlaaGreatDoor
open Sy Go
set_option maxRecDepth 100000
set_option linter.unusedSimpArgs false
set_option linter.unusedVariables false
variable {G : Glob}
section
end
open Go.Shelf Go.RowKit
section
variable {P : Program} {ρ : Ren}
end
end Go.Proofs.YtdojfdaglbphlaaGreatDoor
namespace Go.Proofs.YtdojfdaglbphlaaGreatDoor
open Sy Go
set_option maxRecDepth 100000
set_option maxHeartbeats 4000000
set_option linter.unusedSimpArgs false
set_option linter.unusedVariables false
variable {G : Glob}
@[simp] theorem bytesP_app (a s : List UInt8) : bytesP (a ++ s) = bytesP a ++ s.map fun b => .int .u8 b.toNat := by simp [bytesP]
@[simp] theorem bytesP_nil : bytesP [] = [] := rfl
end Go.Proofs.YtdojfdaglbphlaaGreatDoor
namespace Go.Proofs.YtdojfdaglbphlaaGreatDoor
open Sy Go
variable {G : Glob}
end Go.Proofs.YtdojfdaglbphlaaGreatDoor
namespace Go.Proofs.YtdojfdaglbphlaaGreatDoor
open Sy Go
set_option maxRecDepth 100000
set_option maxHeartbeats 4000000
set_option linter.unusedSimpArgs false
set_option linter.unusedVariables false
variable {G : Glob}
theorem hexV_lt {c : UInt8} {n : Nat} (h : hexV c = some n) : n < 16 := by
 unfold hexV at h
 have h0 := c.toNat_lt
 split at h
 ·rename_i h1; cases h; rw [UInt8.le_iff_toNat_le, UInt8.le_iff_toNat_le] at h1; simp at h1; omega
 ·split at h
  ·rename_i h1; cases h; rw [UInt8.le_iff_toNat_le, UInt8.le_iff_toNat_le] at h1; simp at h1; omega
  ·split at h
   ·rename_i h1; cases h; rw [UInt8.le_iff_toNat_le, UInt8.le_iff_toNat_le] at h1; simp at h1; omega
   ·cases h
def escS : List UInt8 := [34, 92, 47, 98, 102, 110, 114, 116]
def escV : List UInt8 := [34, 92, 47, 8, 12, 10, 13, 9]
theorem esc_all : ∀ k : Fin 256, if (escT (UInt8.ofNat k.val)).isSome = true then 0 ≤ Lib.indexByte escS (UInt8.ofNat k.val) ∧ (Lib.indexByte escS (UInt8.ofNat k.val)).toNat < 8 ∧ escV[(Lib.indexByte escS (UInt8.ofNat k.val)).toNat]? = some (UInt8.ofNat ((escT (UInt8.ofNat k.val)).getD 0)) ∧ (escT (UInt8.ofNat k.val)).getD 0 < 256 else Lib.indexByte escS (UInt8.ofNat k.val) = -1 := by decide +kernel
theorem esc_at (c : UInt8) : if (escT c).isSome = true then 0 ≤ Lib.indexByte escS c ∧ (Lib.indexByte escS c).toNat < 8 ∧ escV[(Lib.indexByte escS c).toNat]? = some (UInt8.ofNat ((escT c).getD 0)) ∧ (escT c).getD 0 < 256 else Lib.indexByte escS c = -1 := by
 have := esc_all ⟨c.toNat, c.toNat_lt⟩
 simpa only [UInt8.ofNat_toNat] using this
theorem hexN_lt : ∀ (l : List UInt8) (x n : Nat), hexN l x = some n → n < (x + 1) * 16 ^ l.length
 | [], x, n, h => by simp [hexN] at h; subst h; simp
 | c :: l, x, n, h => by
  simp only [hexN] at h
  split at h
  ·cases h
  ·rename_i k hk
   have h1 := hexN_lt l _ n h
   have h2 := hexV_lt hk
   rw [List.length_cons, Nat.pow_succ]
   calc n < (16 * x + k + 1) * 16 ^ l.length := h1
    _ ≤ (16 * (x + 1)) * 16 ^ l.length := Nat.mul_le_mul_right _ (by omega)
    _ = (x + 1) * (16 ^ l.length * 16) := by rw [Nat.mul_comm 16, Nat.mul_assoc, Nat.mul_comm 16]
theorem unitL_lt (s : List UInt8) : (unitL s).getD 0 < 65536 := by
 cases h : unitL s with
 | none => simp
 | some n =>
  unfold unitL at h
  split at h
  ·cases h
  ·have h1 := hexN_lt _ _ _ h
   have h2 : ((s.drop 2).take 4).length ≤ 4 := by simp; omega
   have h3 : 16 ^ ((s.drop 2).take 4).length ≤ 16 ^ 4 := Nat.pow_le_pow_right (by omega) h2
   simp only [Option.getD_some]; omega
theorem escG_ok {s : List UInt8} (h : (escG s).2.2 = true) : (escG s).1 ≤ 1114111 ∧ ((escG s).1 < 55296 ∨ 57343 < (escG s).1) ∧ 2 ≤ (escG s).2.1 ∧ (escG s).2.1 ≤ 12 := by
 match s with
 | [] => simp [escG] at h
 | [a] => simp [escG] at h
 | a :: c :: t =>
  have hat := esc_at c
  have h1 := unitL_lt (a :: c :: t)
  unfold escG at h ⊢
  cases hv : escT c with
  | some v =>
   simp only [hv, Option.isSome_some, if_true, Option.getD_some] at hat h ⊢
   omega
  | none =>
   simp only [hv] at h ⊢
   unfold escU at h ⊢
   generalize unitL (a :: c :: t) = A at *
   generalize unitL ((a :: c :: t).drop 6) = B at *
   generalize A.getD 0 = x at *
   generalize B.getD 0 = y at *
   by_cases hc : A.isSome = false ∨ x / 1024 ≠ 54
   ·rw [if_pos hc] at h ⊢
    simp only [Bool.and_eq_true, decide_eq_true_eq] at h
    have h54 : x / 1024 ≠ 54 := hc.resolve_left (fun e => by rw [h.1] at e; cases e)
    simp only
    omega
   ·rw [if_neg hc] at h ⊢
    simp only
    omega
theorem enc_len (r : Int) : 1 ≤ (Lib.encodeRune r).length ∧ (Lib.encodeRune r).length ≤ 4 := by
 have := Lib.encodeRuneZ_length r
 simpa only [Lib.encodeRune, List.length_map] using this
end Go.Proofs.YtdojfdaglbphlaaGreatDoor
namespace Go.Proofs.YtdojfdaglbphlaaGreatDoor
open Sy Go
set_option maxRecDepth 100000
set_option maxHeartbeats 4000000
set_option linter.unusedSimpArgs false
set_option linter.unusedVariables false
variable {G : Glob}
theorem skipG_le : ∀ l : List UInt8, skipG l ≤ l.length
 | [] => Nat.le_refl _
 | [b] => by simp only [skipG]; split <;> (try split) <;> simp
 | b :: c :: u => by
  have h1 := skipG_le u
  have h2 := skipG_le (c :: u)
  simp only [skipG, List.length_cons] at h2 ⊢
  split
  ·omega
  ·split
   ·omega
   ·omega
theorem skipL_le (l : List UInt8) : skipL l ≤ l.length := by
 unfold skipL
 split
 ·omega
 ·rename_i h
  have h1 := skipG_le (l.drop 1)
  have h2 := List.length_pos_iff.2 h
  rw [List.length_drop] at h1; omega
theorem skipG_q (t : List UInt8) : skipG (34 :: t) = 1 := by unfold skipG; simp
theorem skipG_e : skipG [92] = 1 := by unfold skipG; simp
theorem skipG_b (d : UInt8) (u : List UInt8) : skipG (92 :: d :: u) = 2 + skipG u := by rw [skipG]; simp
theorem skipG_o {c : UInt8} (h1 : c ≠ 34) (h2 : c ≠ 92) (t : List UInt8) : skipG (c :: t) = 1 + skipG t := by
 cases t <;> (rw [skipG]; simp [h1, h2, skipG])
def skipAt (s : List UInt8) (i : Nat) : Nat := if i ≤ s.length then i + skipG (s.drop i) else s.length
theorem skipAt_step {s : List UInt8} {i : Nat} {c : UInt8} (h : s[i]? = some c) : skipAt s i = if c = 34 then i + 1 else if c = 92 then skipAt s (i + 2) else skipAt s (i + 1) := by
 have hi := (List.getElem?_eq_some_iff.1 h).1
 have hd : s.drop i = c :: s.drop (i + 1) := by
  rw [List.drop_eq_getElem_cons hi]; congr 1
  have := List.getElem?_eq_getElem hi
  rw [h] at this; exact (Option.some.inj this).symm
 unfold skipAt
 rw [if_pos (by omega), hd]
 by_cases h1 : c = 34
 ·rw [if_pos h1, h1, skipG_q]
 ·rw [if_neg h1]
  by_cases h2 : c = 92
  ·rw [if_pos h2]
   by_cases h3 : i + 2 ≤ s.length
   ·obtain ⟨d, u, hu⟩ : ∃ d u, s.drop (i + 1) = d :: u := by
     cases h4 : s.drop (i + 1) with
     | nil => have := congrArg List.length h4; simp at this; omega
     | cons d u => exact ⟨d, u, rfl⟩
    have hu2 : s.drop (i + 2) = u := by rw [show i + 2 = (i + 1) + 1 by omega, ← List.drop_drop, hu]; rfl
    rw [if_pos h3, hu2, hu, h2, skipG_b]; omega
   ·have hu : s.drop (i + 1) = [] := List.drop_of_length_le (by omega)
    rw [if_neg h3, hu, h2, skipG_e]
    have : s.length = i + 1 := by have := congrArg List.length hu; simp at this; omega
    omega
  ·rw [if_neg h2, if_pos (by omega), skipG_o h1 h2]; omega
theorem skip_first (s : List UInt8) : skipL s = skipAt s 1 := by
 unfold skipL skipAt
 split
 ·rename_i h; subst h; rfl
 ·rename_i h; have := List.length_pos_iff.2 h; rw [if_pos (by omega)]
theorem unitL_len {s : List UInt8} (h : (unitL s).isSome = true) : 6 ≤ s.length := by
 unfold unitL at h
 split at h
 ·cases h
 ·omega
theorem escG_len {s : List UInt8} (h : (escG s).2.2 = true) : (escG s).2.1 ≤ s.length := by
 match s with
 | [] => simp [escG] at h
 | [a] => simp [escG] at h
 | a :: c :: t =>
  have h1 := unitL_len (s := a :: c :: t)
  have h2 := unitL_len (s := (a :: c :: t).drop 6)
  unfold escG at h ⊢
  cases hv : escT c with
  | some v => simp only [hv]; simp
  | none =>
   simp only [hv] at h ⊢
   unfold escU at h ⊢
   generalize unitL (a :: c :: t) = A at *
   generalize unitL ((a :: c :: t).drop 6) = B at *
   split at h
   ·rename_i hc
    rw [if_pos hc]
    simp only [Bool.and_eq_true] at h
    exact h1 h.1
   ·rename_i hc
    rw [if_neg hc]
    simp only [Bool.and_eq_true] at h
    have := h2 h.1
    rw [List.length_drop] at this
    simp only; omega
theorem unq_props : ∀ (f : Nat) (s : List UInt8) (k : Nat) (out : List UInt8), ((unqG f s k out).2.2 = 0 ∧ (unqG f s k out).2.1 ≤ k + s.length) ∨ (((unqG f s k out).2.2 = 3 ∨ (unqG f s k out).2.2 = 6) ∧ (unqG f s k out).2.1 = 0)
 | 0, s, k, out => .inr (by simp [unqG])
 | f + 1, s, k, out => by
  simp only [unqG]
  split
  ·exact .inr (by simp)
  ·rename_i hne
   split
   ·split
    ·exact .inr (by simp)
    ·exact .inl ⟨rfl, by have := List.length_pos_iff.2 hne; simp only; omega⟩
   ·split
    ·exact .inr (by simp)
    ·split
     ·cases he : escL s with
      | none => exact .inr (by simp)
      | some cn =>
       obtain ⟨c, n⟩ := cn
       simp only
       have hn : n ≤ s.length := by
        unfold escL at he
        split at he
        ·rename_i h; cases he; exact escG_len h
        ·cases he
       have := unq_props f (s.drop n) (k + n) (out ++ Lib.encodeRune c)
       rw [List.length_drop] at this
       omega
     ·have hn := Lib.decodeL_le s hne
      have := unq_props f (s.drop (Lib.decodeL s).2) (k + (Lib.decodeL s).2) (out ++ Lib.encodeRune (Lib.decodeL s).1)
      rw [List.length_drop] at this
      omega
theorem unquote_props (s : List UInt8) : ((unquoteT s).2.2 = 0 ∧ (unquoteT s).2.1 ≤ s.length) ∨ (((unquoteT s).2.2 = 3 ∨ (unquoteT s).2.2 = 6) ∧ (unquoteT s).2.1 = 0) := by
 unfold unquoteT
 split
 ·rename_i h
  have := unq_props s.length (s.drop 1) 1 []
  rw [List.length_drop] at this
  have : 1 ≤ s.length := by cases s with
   | nil => simp at h
   | cons => simp
  omega
 ·exact .inr (by simp)
end Go.Proofs.YtdojfdaglbphlaaGreatDoor
namespace Go.Proofs.YtdojfdaglbphlaaGreatDoor
open Sy Go
set_option maxRecDepth 100000
set_option maxHeartbeats 4000000
set_option linter.unusedSimpArgs false
set_option linter.unusedVariables false
variable {G : Glob}
theorem sep_nodes (c : UInt8) (many : Nat) (st : RS) : (sepR c many st).2.nodes = st.nodes := by
 unfold sepR; simp only; split
 ·rfl
 ·split <;> simp
theorem sep_bad (c : UInt8) (many : Nat) (st : RS) (h : (sepR c many st).2.bad = false) : st.bad = false := by
 unfold sepR at h; simp only at h; split at h
 ·rename_i hb; rw [hb] at h; cases h
 ·rename_i hb; simpa using hb
theorem quoted_nodes (st : RS) : (quotedR st).1.nodes = st.nodes := by
 unfold quotedR quotedL; split
 ·rfl
 ·split <;> rfl
theorem quoted_bad (st : RS) (h : (quotedR st).1.bad = false) : st.bad = false := by
 unfold quotedR quotedL at h; split at h
 ·exact h
 ·split at h
  ·exact h
  ·cases h
theorem colon_nodes (st : RS) : (colonR st).nodes = st.nodes := by
 unfold colonR; split
 ·rfl
 ·simp
theorem atom_nodes (st : RS) : (atomR st).1.nodes = st.nodes := by
 unfold atomR
 split
 ·rfl
 ·split
  ·rfl
  ·split
   ·rfl
   ·split
    ·exact quoted_nodes st
    ·split <;> rfl
theorem atom_bad (st : RS) (h : (atomR st).1.bad = false) : st.bad = false := by
 unfold atomR at h
 split at h
 ·exact h
 ·split at h
  ·exact h
  ·split at h
   ·exact h
   ·split at h
    ·exact quoted_bad st h
    ·split at h
     ·simp only [numberR, Bool.or_eq_false_iff] at h; exact h.1
     ·cases h
theorem lens2 : ∀ n : Nat, (∀ st d, (valR n st d).1.bad = false → st.bad = false ∧ (valR n st d).1.nodes + (valR n st d).1.left.length ≤ st.nodes + st.left.length) ∧
  (∀ st d many vs, (lstR n st d many vs).1.bad = false → st.bad = false ∧ (lstR n st d many vs).1.nodes + (lstR n st d many vs).1.left.length ≤ st.nodes + st.left.length) ∧
  (∀ st d many ks vs, (objR n st d many ks vs).1.bad = false → st.bad = false ∧ (objR n st d many ks vs).1.nodes + (objR n st d many ks vs).1.left.length ≤ st.nodes + st.left.length)
 | 0 => ⟨fun st d h => by simp [valR] at h, fun st d many vs h => by simp [lstR] at h, fun st d many ks vs h => by simp [objR] at h⟩
 | n + 1 => by
  obtain ⟨ih1, ih2, ih3⟩ := lens2 n
  refine ⟨fun st d => ?_, fun st d many vs => ?_, fun st d many ks vs => ?_⟩
  ·have he := enter_le st d
   have hen : (enterR st d).nodes = st.nodes + 1 := rfl
   have heb : (enterR st d).bad = st.bad := rfl
   have ht : trimB (enterR st d).left = (enterR st d).left := trimB_trim _
   simp only [valR]
   split
   ·rename_i h
    have h1 := prefix_len h
    have h2 := tk_le [93] (dropR (enterR st d) 1)
    have h5 := tk_nodes [93] (dropR (enterR st d) 1)
    have h6 := tk_bad [93] (dropR (enterR st d) 1)
    simp only [dropR, List.length_drop, List.length_cons, List.length_nil] at h1 h2 h5 h6
    split
    ·simp only [dropR]; intro hb; exact ⟨by rw [← heb, ← h6]; exact hb, by omega⟩
    ·have h3 := ih2 (tk [93] (dropR (enterR st d) 1)).2 (d + 1) 1 []
     simp only [dropR] at h3 ⊢
     intro hb
     obtain ⟨h7, h8⟩ := h3 hb
     exact ⟨by rw [← heb, ← h6]; exact h7, by omega⟩
   ·split
    ·rename_i h
     have h1 := prefix_len h
     have h2 := tk_le [125] (dropR (enterR st d) 1)
     have h5 := tk_nodes [125] (dropR (enterR st d) 1)
     have h6 := tk_bad [125] (dropR (enterR st d) 1)
     simp only [dropR, List.length_drop, List.length_cons, List.length_nil] at h1 h2 h5 h6
     split
     ·simp only [dropR]; intro hb; exact ⟨by rw [← heb, ← h6]; exact hb, by omega⟩
     ·have h3 := ih3 (tk [125] (dropR (enterR st d) 1)).2 (d + 1) 1 [] []
      simp only [dropR] at h3 ⊢
      intro hb
      obtain ⟨h7, h8⟩ := h3 hb
      exact ⟨by rw [← heb, ← h6]; exact h7, by omega⟩
    ·have h1 := atom_lt (enterR st d) ht
     have h2 := atom_nodes (enterR st d)
     intro hb
     have := h1.2 hb
     exact ⟨heb ▸ atom_bad _ hb, by omega⟩
  ·simp only [lstR]
   split
   ·rename_i hb; intro h; simp only at h; rw [h] at hb; cases hb
   ·rename_i hb
    have hb' : st.bad = false := by simpa using hb
    have h1 := ih1 st d
    have h2 := sep_le 93 many (valR n st d).1
    have h3 := sep_nodes 93 many (valR n st d).1
    have h4 := sep_bad 93 many (valR n st d).1
    split
    ·simp only; intro h; have := h1 (h4 h); exact ⟨hb', by omega⟩
    ·intro h
     obtain ⟨h5, h6⟩ := ih2 (sepR 93 many (valR n st d).1).2 d (many + 1) (vs ++ [(valR n st d).2]) h
     have := h1 (h4 h5); exact ⟨hb', by omega⟩
  ·simp only [objR]
   split
   ·rename_i hb; intro h; simp only at h; rw [h] at hb; cases hb
   ·rename_i hb
    have hb' : st.bad = false := by simpa using hb
    have h1 := quoted_le st
    have h1' := quoted_nodes st
    have h2 := colon_le (quotedR st).1
    have h2' := colon_nodes (quotedR st).1
    have h3 := ih1 (colonR (quotedR st).1) d
    generalize hA : (if (colonR (quotedR st).1).bad = true then (colonR (quotedR st).1, ks, vs) else ((valR n (colonR (quotedR st).1) d).1, putM ks vs (quotedR st).2 (valR n (colonR (quotedR st).1) d).2)) = A
    have h4 : A.1.bad = false → A.1.nodes + A.1.left.length ≤ st.nodes + st.left.length := by
     rw [← hA]; split
     ·rename_i h; intro h'; simp only at h'; rw [h] at h'; cases h'
     ·intro h'; have := (h3 h').2; simp only; omega
    have h5 := sep_le 125 many A.1
    have h6 := sep_nodes 125 many A.1
    have h7 := sep_bad 125 many A.1
    split
    ·simp only; intro h; have := h4 (h7 h); exact ⟨hb', by omega⟩
    ·intro h
     obtain ⟨h8, h9⟩ := ih3 (sepR 125 many A.1).2 d (many + 1) A.2.1 A.2.2 h
     have := h4 (h7 h8); exact ⟨hb', by omega⟩
def lstM (n : Nat) (st : RS) (d : Nat) : RS × List Val := if (tk [93] st).1 = true then ((tk [93] st).2, []) else lstR n (tk [93] st).2 d 1 []
theorem lst_step (n : Nat) (st : RS) (d many : Nat) (vs : List Val) : lstR (n + 1) st d many vs = if st.bad = true then (st, vs) else if (sepR 93 many (valR n st d).1).1 = true then ((sepR 93 many (valR n st d).1).2, vs ++ [(valR n st d).2]) else lstR n (sepR 93 many (valR n st d).1).2 d (many + 1) (vs ++ [(valR n st d).2]) := by
 simp only [lstR]
def idxT (ks : List (List UInt8)) (s : List UInt8) : Int := if s ∈ ks then (ks.idxOf s : Int) else -1
theorem idxT_ax (l : List (List UInt8)) (s : List UInt8) : AX Tryz.prog G 137 [.ms 3, .p (.str s)] [(3, .row 9 1 (l.map PD.str))] (.p (.int .i64 (idxT l s))) [3] [(3, .row 9 1 (l.map PD.str))] := by
 refine AX.introU tok 900 Tryz.func137 (by kernel_rfl) rfl rfl ?_
 simp only [Tryz.f137, enumA, List.map_cons, List.map_nil]
 refine rgn [] [[0, 1]] ?_
 refine op1 tok ?_
 refine runEnd ?_
 refine AW.seq ?_
 refine rgn [] [[], [], [0, 1, 7, 8]] ?_
 iterate 3 refine op1 tok ?_
 refine runEnd ?_
 refine AW.block ?_
 refine AW.intFactU (i := 7) rfl (by decide) ?_; intro hlen; simp at hlen
 refine AW.loop (α := Nat) (fun k => k ≤ l.length ∧ s ∉ l.take k) (fun k => ⟨upds 19 [(0, .ms 3), (1, .p (.str s)), (7, .p (.int .i64 l.length)), (8, .p (.int .i64 k))], [3], [(3, .row 9 1 (l.map PD.str))], 900⟩) (fun k => l.length - k) (0) ⟨by omega, by simp⟩ ⟨upds_le (by simp), rfl, by simp, by simp⟩ ?_
 rintro k ⟨hk, hno⟩
 refine rgn [] [[]] ?_
 refine op1 tok ?_
 refine runEnd ?_
 refine AW.seq ?_
 refine cnd ?_ ?_
 ·intro h9
  try simp at h9
  obtain ⟨x, hx⟩ : ∃ x, l[k]? = some x := ⟨l[k], by simp [h9]⟩
  refine AW.skip ?_
  refine AW.seq ?_
  refine AW.block ?_
  refine rgn [] [[], [0, 1, 5, 7, 8]] ?_
  iterate 2 refine op1 tok ?_
  refine runEnd ?_
  refine rgn [.str x] [[], [], [], [], [], [0, 1, 5, 7, 8, 16]] ?_
  iterate 6 refine op1 tok ?_ (hv := by first | with_reducible exact True.intro | (simp [hx]; done) | omega | simp | (simp; omega) | (simp +contextual; omega))
  refine runEnd ?_
  refine cnd ?_ ?_
  ·intro h16
   try simp at h16
   have hR : idxT l s = k := by
    have hm : s ∈ l := by rw [h16]; exact List.mem_of_getElem? hx
    unfold idxT; rw [if_pos hm]
    have : l.idxOf s = k := by
     obtain ⟨h1, h2⟩ := List.getElem?_eq_some_iff.1 hx
     have h3 := List.take_append_drop k l
     rw [← h3, List.idxOf_append, if_neg hno, List.drop_eq_getElem_cons h1, h2, h16, List.idxOf_cons_self]
     simp; omega
    rw [this]
   refine rgn [] [[], [4]] ?_
   iterate 2 refine op1 tok ?_
   refine runEnd ?_
   exact AW.ret ⟨.inr rfl, _, _, by (conv => lhs; simp), trivial, by simp [hR], by simp, by simp, by simp⟩
  ·intro h16
   try simp at h16
   refine AW.skip ?_
   refine rgz [] [[], [0, 1, 7, 8]] ?_
   iterate 2 refine op1 tok ?_
   refine runEnd ?_
   exact ⟨k + 1, ⟨by omega, by rw [List.take_add_one, hx]; simp; exact ⟨hno, h16⟩⟩, by omega, upds_le (by simp), rfl, by simp, by simp⟩
 ·intro h9
  try simp at h9
  have hR : idxT l s = -1 := by rw [List.take_of_length_le h9] at hno; unfold idxT; rw [if_neg hno]
  refine AW.exit ?_
  simp
  refine rgn [] [[]] ?_
  refine op1 tok ?_
  refine runEnd ?_
  exact AW.ret ⟨.inr rfl, _, _, by (conv => lhs; simp), trivial, by simp [hR], by simp, by simp, by simp⟩
def objM (n : Nat) (st : RS) (d : Nat) : RS × List (List UInt8) × List Val := if (tk [125] st).1 = true then ((tk [125] st).2, [], []) else objR n (tk [125] st).2 d 1 [] []
theorem put_len {ks : List (List UInt8)} {vs : List Val} (h : ks.length = vs.length) (key : List UInt8) (v : Val) : (putM ks vs key v).1.length = (putM ks vs key v).2.length ∧ vs.length ≤ (putM ks vs key v).2.length ∧ (putM ks vs key v).2.length ≤ vs.length + 1 := by
 unfold putM; split
 ·simp [h]
 ·simp [h]
end Go.Proofs.YtdojfdaglbphlaaGreatDoor
