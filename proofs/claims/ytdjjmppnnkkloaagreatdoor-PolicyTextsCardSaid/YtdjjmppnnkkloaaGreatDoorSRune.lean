import Derived.Test.YtdjjmppnnkkloaaGreatDoorM4
namespace Go.Proofs.YtdjjmppnnkkloaaGreatDoor
open Sy Go
set_option maxRecDepth 100000
set_option linter.unusedSimpArgs false
set_option linter.unusedVariables false
variable {G : Glob}

def rloop (s : List UInt8) (i : Nat) : Nat → Nat → Int → Option Int
  | 0, _, v => some v
  | r + 1, j, v => match s[i + j]? with
    | none => none
    | some c => if (c.toNat : Int) < 128 ∨ 192 ≤ (c.toNat : Int) then none else rloop s i r (j + 1) (64 * v + c.toNat - 128)
def rcase (c : Int) : Nat × Int × Int :=
  if 194 ≤ c ∧ c < 224 then (2, 128, c - 192) else if 224 ≤ c ∧ c < 240 then (3, 2048, c - 224) else if 240 ≤ c ∧ c < 245 then (4, 65536, c - 240) else (0, 0, 0)
def rfin (low : Int) (need : Nat) : Option Int → Int × Int
  | none => (0, 0)
  | some v => if v < low ∨ v > 1114111 ∨ (55296 ≤ v ∧ v < 57344) then (0, 0) else (v, need)
def rtail (s : List UInt8) (i : Nat) (x : Nat × Int × Int) : Int × Int := if x.1 = 0 ∨ s.length < i + x.1 then (0, 0) else rfin x.2.1 x.1 (rloop s i (x.1 - 1) 1 x.2.2)
def runeM (s : List UInt8) (i : Nat) : Int × Int := match s[i]? with
  | none => (0, 0)
  | some b => if (b.toNat : Int) < 128 then (b.toNat, 1) else rtail s i (rcase b.toNat)
def rS (s : List UInt8) (i : Nat) (x : Nat × Int × Int) : St := ⟨[.p (.str s), .p (.int .i64 i), .dead, .dead, .p (.int .i64 0), .p (.int .i64 0), .dead, .p (.int .i64 x.1), .p (.int .i64 x.2.1), .p (.int .i64 x.2.2)] ++ List.replicate 86 .dead, [], [], 0⟩
def rS2 (s : List UInt8) (i : Nat) (need : Nat) (low : Int) (a : Nat × Int) : St := ⟨[.p (.str s), .p (.int .i64 i), .dead, .dead, .p (.int .i64 0), .p (.int .i64 0), .dead, .p (.int .i64 need), .p (.int .i64 low), .p (.int .i64 a.2), .p (.int .i64 a.1)] ++ List.replicate 85 .dead, [], [], 0⟩
theorem Rune_ev (s : List UInt8) (i : Nat) (hi : i < s.length) (hs : s.length ≤ 1000000000) : AFn Tryz.prog G 79 [.str s, .int .i64 i] (.tup [.int .i64 (runeM s i).1, .int .i64 (runeM s i).2]) := by
  refine AFn.intro tok Tryz.func79 (by kernel_rfl) rfl ?_
  simp only [Tryz.f79, St.start]
  obtain ⟨b, hb⟩ : ∃ b, s[i]? = some b := ⟨s[i], by simp [hi]⟩
  have hblt : b.toNat < 256 := b.toNat_lt
  have hrune : runeM s i = if (b.toNat : Int) < 128 then ((b.toNat : Int), 1) else rtail s i (rcase b.toNat) := by simp only [runeM, hb]
  refine AW.seqRun tok [] (by intro C; conv => lhs; simp) trivial ?_ -- r0 {}
  refine AW.seqRun tok [.int .u8 b.toNat] (by intro C; conv => lhs; simp) (by simp [hb]) ?_ -- r1 {t14:sidx}
  refine AW.seqRun tok [] (by intro C; conv => lhs; simp) trivial ?_ -- r2 {}
  refine AW.seqRun tok [] (by intro C; conv => lhs; simp) trivial ?_ -- r3 {}
  refine AW.seqRun tok [] (by intro C; conv => lhs; simp) trivial ?_ -- r4 {}
  refine AW.join (α := Nat × Int × Int) (fun x => runeM s i = rtail s i x ∧ x.1 ≤ 4 ∧ 0 ≤ x.2.2 ∧ x.2.2 ≤ 40) (fun x => rS s i x) ?_ ?_
  · refine AW.block ?_
    refine AW.seqRun tok [] (by intro C; conv => lhs; simp) trivial ?_ -- r5 {}
    refine AW.cond (c := .tmp 16) (by conv => lhs; simp) trivial ?_ ?_
    · intro h1
      simp at h1
      refine AW.seqRun tok [] (by intro C; conv => lhs; simp) trivial ?_ -- r6 {}
      exact AW.ret ⟨.inr rfl, _, _, by (conv => lhs; simp), trivial, by rw [hrune, if_pos h1]; simp⟩
    · intro h1
      simp at h1
      have hr2 : runeM s i = rtail s i (rcase b.toNat) := by rw [hrune, if_neg (by omega)]
      refine AW.seqRun tok [] (by intro C; conv => lhs; simp) (by simp) ?_ -- r7 {}
      refine AW.cond (c := .tmp 20) (by conv => lhs; simp) trivial ?_ ?_
      · intro h2
        simp at h2
        refine AW.seqRun tok [] (by intro C; conv => lhs; simp) trivial ?_ -- r8 {}
        refine AW.seqRun tok [] (by intro C; conv => lhs; simp) trivial ?_ -- r9 {}
        refine AW.run tok [] (by intro C; conv => lhs; simp) (by omega) ?_ -- r10 {}
        exact ⟨(2, 128, b.toNat - 192), ⟨by rw [hr2]; simp [rcase, h2], by simp, by simp; omega, by simp; omega⟩, by simp [rS], rfl, by simp [rS], by simp [rS]⟩
      · intro h2
        refine AW.seqRun tok [] (by intro C; conv => lhs; simp) (by simp) ?_ -- r11
        refine AW.cond (c := .tmp 29) (by conv => lhs; simp) trivial ?_ ?_
        · intro h3
          simp at h3
          refine AW.seqRun tok [] (by intro C; conv => lhs; simp) trivial ?_
          refine AW.seqRun tok [] (by intro C; conv => lhs; simp) trivial ?_
          refine AW.run tok [] (by intro C; conv => lhs; simp) (by omega) ?_
          exact ⟨(3, 2048, b.toNat - 224), ⟨by rw [hr2]; simp [rcase, h3, show ¬ ((b.toNat : Int) < 224) by omega], by simp, by simp; omega, by simp; omega⟩, by simp [rS], rfl, by simp [rS], by simp [rS]⟩
        · intro h3
          refine AW.seqRun tok [] (by intro C; conv => lhs; simp) (by simp) ?_ -- r15
          refine AW.cond (c := .tmp 38) (by conv => lhs; simp) trivial ?_ ?_
          · intro h4
            simp at h4
            refine AW.seqRun tok [] (by intro C; conv => lhs; simp) trivial ?_
            refine AW.seqRun tok [] (by intro C; conv => lhs; simp) trivial ?_
            refine AW.run tok [] (by intro C; conv => lhs; simp) (by omega) ?_
            exact ⟨(4, 65536, b.toNat - 240), ⟨by rw [hr2]; simp [rcase, h4, show ¬ ((b.toNat : Int) < 224) by omega, show ¬ ((b.toNat : Int) < 240) by omega], by simp, by simp; omega, by simp; omega⟩, by simp [rS], rfl, by simp [rS], by simp [rS]⟩
          · intro h4
            simp at h2 h3 h4
            refine AW.skip ?_
            exact ⟨(0, 0, 0), ⟨by rw [hr2]; simp [rcase, show ¬ (194 ≤ (b.toNat : Int) ∧ (b.toNat : Int) < 224) by omega, show ¬ (224 ≤ (b.toNat : Int) ∧ (b.toNat : Int) < 240) by omega, show ¬ (240 ≤ (b.toNat : Int) ∧ (b.toNat : Int) < 245) by omega],
              by simp, by simp, by simp⟩, by simp [rS], rfl, by simp [rS], by simp [rS]⟩
  · rintro ⟨need, low, v0⟩ ⟨hr, hneed, hv0, hv1⟩
    simp only at hneed hv0 hv1
    simp only [rS]
    rw [hr]
    refine AW.seq ?_
    refine AW.seqRun tok [] (by intro C; conv => lhs; simp) (by simp +contextual; omega) ?_ -- r19
    refine AW.cond (c := .tmp 56) (by conv => lhs; simp) trivial ?_ ?_
    · intro h1
      simp at h1
      refine AW.seqRun tok [] (by intro C; conv => lhs; simp) trivial ?_
      exact AW.ret ⟨.inr rfl, _, _, by (conv => lhs; simp), trivial, by simp [rtail, show need = 0 ∨ s.length < i + need by omega]⟩
    · intro h1
      simp at h1
      have hfit : ¬ (need = 0 ∨ s.length < i + need) := by omega
      have htl : rtail s i (need, low, v0) = rfin low need (rloop s i (need - 1) 1 v0) := by simp only [rtail]; rw [if_neg hfit]
      rw [htl]
      refine AW.skip ?_
      refine AW.seq ?_
      refine AW.seqRun tok [] (by intro C; conv => lhs; simp) trivial ?_ -- r21
      refine AW.block ?_
      refine AW.loop (α := Nat × Int) (fun a => 1 ≤ a.1 ∧ a.1 ≤ need ∧ rloop s i (need - 1) 1 v0 = rloop s i (need - a.1) a.1 a.2 ∧ 0 ≤ a.2 ∧ (a.1 = 1 → a.2 ≤ 40) ∧ (a.1 = 2 → a.2 ≤ 3000) ∧ (a.1 = 3 → a.2 ≤ 200000) ∧ (a.1 = 4 → a.2 ≤ 14000000))
        (fun a => rS2 s i need low a) (fun a => need - a.1) (1, v0) ⟨by simp, by omega, rfl, hv0, fun _ => hv1, by simp, by simp, by simp⟩ ⟨by simp [rS2], rfl, by simp [rS2], by simp [rS2]⟩ ?_
      rintro ⟨j, v⟩ ⟨hj1, hj2, hlp, hv, hb1, hb2, hb3, hb4⟩
      simp only at hj1 hj2 hlp hv hb1 hb2 hb3 hb4
      simp only [rS2]
      refine AW.seq ?_
      refine AW.seqRun tok [] (by intro C; conv => lhs; simp) trivial ?_ -- r22
      refine AW.cond (c := .tmp 59) (by conv => lhs; simp) trivial ?_ ?_
      · intro h4
        simp at h4
        obtain ⟨c, hc⟩ : ∃ c, s[i + j]? = some c := ⟨s[i + j]'(by omega), by simp [show i + j < s.length by omega]⟩
        have hclt : c.toNat < 256 := c.toNat_lt
        have hstep : rloop s i (need - j) j v = if (c.toNat : Int) < 128 ∨ 192 ≤ (c.toNat : Int) then none else rloop s i (need - (j + 1)) (j + 1) (64 * v + c.toNat - 128) := by
          rw [show need - j = (need - (j + 1)) + 1 by omega]; simp only [rloop, hc]
        refine AW.skip ?_
        refine AW.seq ?_
        refine AW.block ?_
        refine AW.seqRun tok [.int .u8 c.toNat] (by intro C; conv => lhs; simp) (by rw [show ((i : Int) + j).toNat = i + j by omega]; simp [hc]; omega) ?_ -- r24
        refine AW.seq ?_
        refine AW.seqRun tok [] (by intro C; conv => lhs; simp) (by simp) ?_ -- r25
        refine AW.cond (c := .tmp 73) (by conv => lhs; simp) trivial ?_ ?_
        · intro h5
          simp at h5
          refine AW.seqRun tok [] (by intro C; conv => lhs; simp) trivial ?_ -- r26
          exact AW.ret ⟨.inr rfl, _, _, by (conv => lhs; simp), trivial, by rw [hlp, hstep, if_pos (by omega)]; simp [rfin]⟩
        · intro h5
          simp at h5
          refine AW.skip ?_
          refine AW.run tok [] (by intro C; conv => lhs; simp) (by omega) ?_ -- r27
          refine AW.run tok [] (by intro C; conv => lhs; simp) (by omega) ?_ -- r23
          exact ⟨(j + 1, 64 * v + c.toNat - 128), ⟨by simp, by simp; omega, by rw [hlp, hstep, if_neg (by omega)], by simp; omega, by simp; omega, by simp; omega, by simp; omega, by simp; omega⟩, by simp; omega, by simp [rS2], rfl, by simp [rS2], by simp [rS2]⟩
      · intro h4
        simp at h4
        have hjn : j = need := by omega
        subst hjn
        rw [hlp]
        simp only [Nat.sub_self, rloop]
        refine AW.exit ?_
        simp
        refine AW.seq ?_
        refine AW.seqRun tok [] (by intro C; conv => lhs; simp) (by omega) ?_ -- r28
        refine AW.cond (c := .tmp 93) (by conv => lhs; simp) trivial ?_ ?_
        · intro h5
          simp at h5
          refine AW.seqRun tok [] (by intro C; conv => lhs; simp) trivial ?_
          exact AW.ret ⟨.inr rfl, _, _, by (conv => lhs; simp), trivial, by simp only [rfin]; rw [if_pos (by omega)]; simp⟩
        · intro h5
          simp at h5
          refine AW.skip ?_
          refine AW.seqRun tok [] (by intro C; conv => lhs; simp) trivial ?_
          exact AW.ret ⟨.inr rfl, _, _, by (conv => lhs; simp), trivial, by simp only [rfin]; rw [if_neg (by omega)]; simp⟩
end Go.Proofs.YtdjjmppnnkkloaaGreatDoor
