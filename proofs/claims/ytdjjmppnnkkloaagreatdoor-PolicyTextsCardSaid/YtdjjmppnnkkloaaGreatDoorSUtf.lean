import Derived.Test.YtdjjmppnnkkloaaGreatDoorSRValid
import Derived.Test.YtdjjmppnnkkloaaGreatDoorK1
import Derived.Lib.ValidLaws
/-
  A PLAIN LAW: the reference's runes are the model's own decoding; which texts are UTF-8.
-/
namespace Go.Proofs.YtdjjmppnnkkloaaGreatDoor
open Sy Go
set_option maxRecDepth 100000
set_option linter.unusedSimpArgs false
set_option linter.unusedVariables false

theorem ba_get {s : List UInt8} {j : Nat} {c : UInt8} (h : s[j]? = some c) : (⟨s.toArray⟩ : ByteArray).get! j = c := by
  have hj := (List.getElem?_eq_some_iff.1 h).1
  have hc := (List.getElem?_eq_some_iff.1 h).2
  show s.toArray[j]! = c
  rw [getElem!_pos s.toArray j (by simpa using hj)]
  simpa using hc
def byteO (o : Option UInt8) : Nat := match o with
  | some c => c.toNat
  | none => 0
def contO (o : Option UInt8) : Bool := match o with
  | some c => c.toNat / 64 == 2
  | none => false
def decO (b0 : Nat) (o1 o2 o3 : Option UInt8) : Nat × Nat :=
  if b0 < 0x80 then (b0, 1)
  else if b0 / 32 == 6 && contO o1 then
    if (b0 % 32) * 64 + byteO o1 % 64 ≥ 0x80 then ((b0 % 32) * 64 + byteO o1 % 64, 2) else (65533, 1)
  else if b0 / 16 == 14 && contO o1 && contO o2 then
    if (b0 % 16) * 4096 + (byteO o1 % 64) * 64 + byteO o2 % 64 ≥ 0x800 && Utf8.valid ((b0 % 16) * 4096 + (byteO o1 % 64) * 64 + byteO o2 % 64 : Nat) then ((b0 % 16) * 4096 + (byteO o1 % 64) * 64 + byteO o2 % 64, 3) else (65533, 1)
  else if b0 / 8 == 30 && contO o1 && contO o2 && contO o3 then
    if (b0 % 8) * 262144 + (byteO o1 % 64) * 4096 + (byteO o2 % 64) * 64 + byteO o3 % 64 ≥ 0x10000 && Utf8.valid ((b0 % 8) * 262144 + (byteO o1 % 64) * 4096 + (byteO o2 % 64) * 64 + byteO o3 % 64 : Nat) then
      ((b0 % 8) * 262144 + (byteO o1 % 64) * 4096 + (byteO o2 % 64) * 64 + byteO o3 % 64, 4) else (65533, 1)
  else (65533, 1)
theorem decode_O {s : List UInt8} {i : Nat} {b : UInt8} (h : s[i]? = some b) : Utf8.decode ⟨s.toArray⟩ i = decO b.toNat s[i + 1]? s[i + 2]? s[i + 3]? := by
  have hsz : (⟨s.toArray⟩ : ByteArray).size = s.length := by simp [ByteArray.size]
  have cont : ∀ k, (decide (i + k < (⟨s.toArray⟩ : ByteArray).size) && ((⟨s.toArray⟩ : ByteArray).get! (i + k)).toNat / 64 == 2) = contO s[i + k]? := by
    intro k
    rw [hsz]
    cases hk : s[i + k]? with
    | none =>
      have : ¬ i + k < s.length := by have := List.getElem?_eq_none_iff.1 hk; omega
      simp [contO, this]
    | some c =>
      have := (List.getElem?_eq_some_iff.1 hk).1
      simp [contO, this, ba_get hk]
  have byt : ∀ k, contO s[i + k]? = true → ((⟨s.toArray⟩ : ByteArray).get! (i + k)).toNat = byteO s[i + k]? := by
    intro k hk
    cases hc : s[i + k]? with
    | none => rw [hc] at hk; cases hk
    | some c => rw [ba_get hc]; rfl
  have b0 : ((⟨s.toArray⟩ : ByteArray).get! (i + 0)).toNat = b.toNat := by rw [Nat.add_zero, ba_get h]
  unfold Utf8.decode decO
  simp only [cont, b0]
  by_cases h1 : contO s[i + 1]? = true
  · rw [byt 1 h1]
    by_cases h2 : contO s[i + 2]? = true
    · rw [byt 2 h2]
      by_cases h3 : contO s[i + 3]? = true
      · rw [byt 3 h3]; simp only [h1, h2, h3]; rfl
      · simp only [h1, h2, h3, Bool.and_false, Bool.false_eq_true, if_false]; rfl
    · simp only [h1, h2, Bool.and_false, Bool.false_and, Bool.false_eq_true, if_false]; rfl
  · simp only [h1, Bool.and_false, Bool.false_and, Bool.false_eq_true, if_false]; rfl

theorem fin_case (low v : Int) (m k : Nat) (hk : k ≠ 0) (hv : v = (m : Int)) : (if (rfin low k (some v)).2 = 0 then ((65533 : Nat), (1 : Nat)) else ((rfin low k (some v)).1.toNat, (rfin low k (some v)).2.toNat)) =
    if (m : Int) < low ∨ (m : Int) > 1114111 ∨ (55296 ≤ (m : Int) ∧ (m : Int) < 57344) then (65533, 1) else (m, k) := by
  subst hv
  unfold rfin
  by_cases h : (m : Int) < low ∨ (m : Int) > 1114111 ∨ (55296 ≤ (m : Int) ∧ (m : Int) < 57344)
  · simp only [h, if_true]
  · simp only [h, if_false]
    rw [if_neg (by omega)]
    rfl
theorem valid_case (m : Nat) : Utf8.valid (m : Int) = decide (¬ ((m : Int) > 1114111 ∨ (55296 ≤ (m : Int) ∧ (m : Int) < 57344))) := by
  rw [Bool.eq_iff_iff]; simp only [Utf8.valid, Bool.or_eq_true, Bool.and_eq_true, decide_eq_true_eq]; omega
theorem isC (c : UInt8) : (c.toNat / 64 == 2) = decide (128 ≤ c.toNat ∧ c.toNat < 192) := by rw [Bool.eq_iff_iff]; simp only [beq_iff_eq, decide_eq_true_eq]; omega
theorem contO_some (c : UInt8) : contO (some c) = decide (128 ≤ c.toNat ∧ c.toNat < 192) := isC c
theorem rloop_ok {s : List UInt8} {i r j : Nat} {v : Int} {c : UInt8} (h : s[i + j]? = some c) (hc : 128 ≤ c.toNat ∧ c.toNat < 192) : rloop s i (r + 1) j v = rloop s i r (j + 1) (64 * v + c.toNat - 128) := by
  simp only [rloop, h]; rw [if_neg (by omega)]
theorem rloop_no {s : List UInt8} {i r j : Nat} {v : Int} {c : UInt8} (h : s[i + j]? = some c) (hc : ¬ (128 ≤ c.toNat ∧ c.toNat < 192)) : rloop s i (r + 1) j v = none := by
  simp only [rloop, h]; rw [if_pos (by omega)]
theorem decO_bad {n : Nat} {o1 o2 o3 : Option UInt8} (h0 : ¬ n < 128) (h : (n / 32 = 6 → contO o1 = true → n % 32 * 64 + byteO o1 % 64 < 128) ∧ (n / 16 = 14 → contO o1 = true → contO o2 = false) ∧ (n / 8 = 30 → contO o1 = true → contO o2 = true → contO o3 = true → 1114111 < n % 8 * 262144)) :
    decO n o1 o2 o3 = (65533, 1) := by
  obtain ⟨h1, h2, h3⟩ := h
  unfold decO
  rw [if_neg h0]
  by_cases a : n / 32 = 6
  · have b : ¬ n / 16 = 14 := by omega
    have c : ¬ n / 8 = 30 := by omega
    cases hc : contO o1 with
    | true => simp only [a, beq_self_eq_true, Bool.and_self, if_true]; rw [if_neg (by have := h1 a hc; omega)]
    | false => simp [a, b, c]
  · by_cases b : n / 16 = 14
    · have c : ¬ n / 8 = 30 := by omega
      cases hc : contO o1 with
      | true => simp [a, b, c, h2 b hc]
      | false => simp [a, b, c]
    · by_cases c : n / 8 = 30
      · cases hc1 : contO o1 with
        | false => simp [a, b]
        | true =>
          cases hc2 : contO o2 with
          | false => simp [a, b]
          | true =>
            cases hc3 : contO o3 with
            | false => simp [a, b]
            | true =>
              have hb := h3 c hc1 hc2 hc3
              simp only [a, b, c, beq_iff_eq, beq_self_eq_true, Bool.false_and, Bool.and_self, Bool.and_true, if_false, if_true, Bool.false_eq_true]
              rw [if_neg]
              rw [valid_case]
              simp only [Bool.and_eq_true, decide_eq_true_eq]
              omega
      · simp [a, b, c]

theorem decO_2 {n : Nat} {c : UInt8} {o2 o3 : Option UInt8} (h0 : ¬ n < 128) (hn : n / 32 = 6) (hc : 128 ≤ c.toNat ∧ c.toNat < 192) :
    decO n (some c) o2 o3 = if n % 32 * 64 + c.toNat % 64 ≥ 128 then (n % 32 * 64 + c.toNat % 64, 2) else (65533, 1) := by
  have h1 : contO (some c) = true := by rw [contO_some]; exact decide_eq_true hc
  unfold decO
  rw [if_neg h0, if_pos (by rw [h1, hn]; rfl)]
  rfl
theorem decO_3 {n : Nat} {c d : UInt8} {o3 : Option UInt8} (h0 : ¬ n < 128) (hn : n / 16 = 14) (hc : 128 ≤ c.toNat ∧ c.toNat < 192) (hd : 128 ≤ d.toNat ∧ d.toNat < 192) {m : Nat} (hm : m = n % 16 * 4096 + c.toNat % 64 * 64 + d.toNat % 64) :
    decO n (some c) (some d) o3 = if (m : Int) < 2048 ∨ (m : Int) > 1114111 ∨ (55296 ≤ (m : Int) ∧ (m : Int) < 57344) then (65533, 1) else (m, 3) := by
  have h1 : contO (some c) = true := by rw [contO_some]; exact decide_eq_true hc
  have h2 : contO (some d) = true := by rw [contO_some]; exact decide_eq_true hd
  have e1 : ¬ n / 32 = 6 := by omega
  unfold decO
  rw [if_neg h0, if_neg (by rw [h1]; simp [e1]), if_pos (by rw [h1, h2, hn]; rfl)]
  simp only [byteO, ← hm, valid_case]
  clear hm
  by_cases hb : (m : Int) < 2048 ∨ (m : Int) > 1114111 ∨ 55296 ≤ (m : Int) ∧ (m : Int) < 57344
  · rw [if_pos hb, if_neg]; simp only [Bool.and_eq_true, decide_eq_true_eq]; omega
  · rw [if_neg hb, if_pos]; simp only [Bool.and_eq_true, decide_eq_true_eq]; omega
theorem decO_4 {n : Nat} {c d e : UInt8} (h0 : ¬ n < 128) (hn : n / 8 = 30) (hc : 128 ≤ c.toNat ∧ c.toNat < 192) (hd : 128 ≤ d.toNat ∧ d.toNat < 192) (he : 128 ≤ e.toNat ∧ e.toNat < 192) {m : Nat}
    (hm : m = n % 8 * 262144 + c.toNat % 64 * 4096 + d.toNat % 64 * 64 + e.toNat % 64) :
    decO n (some c) (some d) (some e) = if (m : Int) < 65536 ∨ (m : Int) > 1114111 ∨ (55296 ≤ (m : Int) ∧ (m : Int) < 57344) then (65533, 1) else (m, 4) := by
  have h1 : contO (some c) = true := by rw [contO_some]; exact decide_eq_true hc
  have h2 : contO (some d) = true := by rw [contO_some]; exact decide_eq_true hd
  have h3 : contO (some e) = true := by rw [contO_some]; exact decide_eq_true he
  have e1 : ¬ n / 32 = 6 := by omega
  have e2 : ¬ n / 16 = 14 := by omega
  unfold decO
  rw [if_neg h0, if_neg (by rw [h1]; simp [e1]), if_neg (by rw [h1, h2]; simp [e2]), if_pos (by rw [h1, h2, h3, hn]; rfl)]
  simp only [byteO, ← hm, valid_case]
  clear hm
  by_cases hb : (m : Int) < 65536 ∨ (m : Int) > 1114111 ∨ 55296 ≤ (m : Int) ∧ (m : Int) < 57344
  · rw [if_pos hb, if_neg]; simp only [Bool.and_eq_true, decide_eq_true_eq]; omega
  · rw [if_neg hb, if_pos]; simp only [Bool.and_eq_true, decide_eq_true_eq]; omega

/-- What the reference's rune says of the model's. -/
theorem rune_decode {s : List UInt8} {i : Nat} (hi : i < s.length) : Utf8.decode ⟨s.toArray⟩ i = if (runeM s i).2 = 0 then (65533, 1) else ((runeM s i).1.toNat, (runeM s i).2.toNat) := by
  obtain ⟨b, hb⟩ : ∃ b, s[i]? = some b := ⟨s[i], by simp [hi]⟩
  rw [decode_O hb]
  have hblt : b.toNat < 256 := b.toNat_lt
  have hr : runeM s i = if (b.toNat : Int) < 128 then ((b.toNat : Int), 1) else rtail s i (rcase b.toNat) := by simp only [runeM, hb]
  have in1 : ∀ k, s[i + k]? = none ↔ s.length ≤ i + k := fun k => List.getElem?_eq_none_iff
  have has : ∀ k, i + k < s.length → ∃ c, s[i + k]? = some c := fun k hk => ⟨s[i + k], by simp [hk]⟩
  generalize b.toNat = n at hblt hr
  by_cases h0 : n < 128
  · rw [if_pos (by omega)] at hr
    rw [hr]
    simp [decO, h0]
  rw [if_neg (by omega)] at hr
  rw [hr]
  clear hr
  have tail0 : ∀ x : Nat × Int × Int, (x.1 = 0 ∨ s.length < i + x.1) → (if (rtail s i x).2 = 0 then ((65533 : Nat), (1 : Nat)) else ((rtail s i x).1.toNat, (rtail s i x).2.toNat)) = (65533, 1) := by
    intro x hx; unfold rtail; rw [if_pos hx]; rfl
  have tailn : ∀ x : Nat × Int × Int, ¬ (x.1 = 0 ∨ s.length < i + x.1) → rloop s i (x.1 - 1) 1 x.2.2 = none → (if (rtail s i x).2 = 0 then ((65533 : Nat), (1 : Nat)) else ((rtail s i x).1.toNat, (rtail s i x).2.toNat)) = (65533, 1) := by
    intro x hx hn; unfold rtail; rw [if_neg hx, hn]; rfl
  have tails : ∀ (x : Nat × Int × Int) (v : Int) (m : Nat), ¬ (x.1 = 0 ∨ s.length < i + x.1) → rloop s i (x.1 - 1) 1 x.2.2 = some v → v = m → (if (rtail s i x).2 = 0 then ((65533 : Nat), (1 : Nat)) else ((rtail s i x).1.toNat, (rtail s i x).2.toNat)) =
      if (m : Int) < x.2.1 ∨ (m : Int) > 1114111 ∨ (55296 ≤ (m : Int) ∧ (m : Int) < 57344) then (65533, 1) else (m, x.1) := by
    intro x v m hx hl hv; unfold rtail; rw [if_neg hx, hl]; exact fin_case _ _ _ _ (by omega) hv
  by_cases hA : 194 ≤ n ∧ n < 224
  · have hrc : rcase n = (2, 128, (n : Int) - 192) := by unfold rcase; rw [if_pos (by omega)]
    rw [hrc]
    by_cases hl : s.length < i + 2
    · rw [tail0 _ (Or.inr hl)]
      refine decO_bad h0 ⟨fun _ h => ?_, fun h => by omega, fun h => by omega⟩
      rw [(in1 1).2 (by omega)] at h; cases h
    obtain ⟨c, h1⟩ := has 1 (by omega)
    rw [h1]
    by_cases hc : 128 ≤ c.toNat ∧ c.toNat < 192
    · rw [tails (2, 128, (n : Int) - 192) _ (n % 32 * 64 + c.toNat % 64) (by simp; omega) (by rw [show (2 : Nat) - 1 = 0 + 1 from rfl, rloop_ok h1 hc]; rfl) (by simp only []; omega)]
      rw [decO_2 h0 (by omega) hc, if_pos (by omega), if_neg (by simp only []; omega)]
    · rw [tailn _ (by simp; omega) (by rw [show ((2 : Nat), (128 : Int), (n : Int) - 192).1 - 1 = 0 + 1 from rfl, rloop_no h1 hc])]
      refine decO_bad h0 ⟨fun _ h => ?_, fun h => by omega, fun h => by omega⟩
      rw [contO_some] at h; exact (hc (of_decide_eq_true h)).elim
  by_cases hB : 224 ≤ n ∧ n < 240
  · have hrc : rcase n = (3, 2048, (n : Int) - 224) := by unfold rcase; rw [if_neg (by omega), if_pos (by omega)]
    rw [hrc]
    by_cases hl : s.length < i + 3
    · rw [tail0 _ (Or.inr hl)]
      refine decO_bad h0 ⟨fun h => by omega, fun _ _ => ?_, fun h => by omega⟩
      rw [(in1 2).2 (by omega)]; rfl
    obtain ⟨c, h1⟩ := has 1 (by omega)
    obtain ⟨d, h2⟩ := has 2 (by omega)
    rw [h1, h2]
    by_cases hc : 128 ≤ c.toNat ∧ c.toNat < 192
    · by_cases hd : 128 ≤ d.toNat ∧ d.toNat < 192
      · rw [tails (3, 2048, (n : Int) - 224) _ (n % 16 * 4096 + c.toNat % 64 * 64 + d.toNat % 64) (by simp; omega) (by rw [show (3 : Nat) - 1 = 1 + 1 from rfl, rloop_ok h1 hc, show (1 : Nat) = 0 + 1 from rfl, rloop_ok h2 hd]; rfl) (by simp only []; omega)]
        exact decO_3 h0 (by omega) hc hd rfl
      · rw [tailn _ (by simp; omega) (by rw [show ((3 : Nat), (2048 : Int), (n : Int) - 224).1 - 1 = 1 + 1 from rfl, rloop_ok h1 hc, show (1 : Nat) = 0 + 1 from rfl, rloop_no h2 hd])]
        refine decO_bad h0 ⟨fun h => by omega, fun _ _ => ?_, fun h => by omega⟩
        rw [contO_some]; exact decide_eq_false hd
    · rw [tailn _ (by simp; omega) (by rw [show ((3 : Nat), (2048 : Int), (n : Int) - 224).1 - 1 = 1 + 1 from rfl, rloop_no h1 hc])]
      refine decO_bad h0 ⟨fun h => by omega, fun _ h => ?_, fun h => by omega⟩
      rw [contO_some] at h; exact (hc (of_decide_eq_true h)).elim
  by_cases hC : 240 ≤ n ∧ n < 245
  · have hrc : rcase n = (4, 65536, (n : Int) - 240) := by unfold rcase; rw [if_neg (by omega), if_neg (by omega), if_pos (by omega)]
    rw [hrc]
    by_cases hl : s.length < i + 4
    · rw [tail0 _ (Or.inr hl)]
      refine decO_bad h0 ⟨fun h => by omega, fun h => by omega, fun _ _ _ h => ?_⟩
      rw [(in1 3).2 (by omega)] at h; cases h
    obtain ⟨c, h1⟩ := has 1 (by omega)
    obtain ⟨d, h2⟩ := has 2 (by omega)
    obtain ⟨e, h3⟩ := has 3 (by omega)
    rw [h1, h2, h3]
    by_cases hc : 128 ≤ c.toNat ∧ c.toNat < 192
    · by_cases hd : 128 ≤ d.toNat ∧ d.toNat < 192
      · by_cases he : 128 ≤ e.toNat ∧ e.toNat < 192
        · rw [tails (4, 65536, (n : Int) - 240) _ (n % 8 * 262144 + c.toNat % 64 * 4096 + d.toNat % 64 * 64 + e.toNat % 64) (by simp; omega)
            (by rw [show (4 : Nat) - 1 = 2 + 1 from rfl, rloop_ok h1 hc, show (2 : Nat) = 1 + 1 from rfl, rloop_ok h2 hd, show (1 : Nat) = 0 + 1 from rfl, rloop_ok h3 he]; rfl) (by simp only []; omega)]
          exact decO_4 h0 (by omega) hc hd he rfl
        · rw [tailn _ (by simp; omega) (by rw [show ((4 : Nat), (65536 : Int), (n : Int) - 240).1 - 1 = 2 + 1 from rfl, rloop_ok h1 hc, show (2 : Nat) = 1 + 1 from rfl, rloop_ok h2 hd, show (1 : Nat) = 0 + 1 from rfl, rloop_no h3 he])]
          refine decO_bad h0 ⟨fun h => by omega, fun h => by omega, fun _ _ _ h => ?_⟩
          rw [contO_some] at h; exact (he (of_decide_eq_true h)).elim
      · rw [tailn _ (by simp; omega) (by rw [show ((4 : Nat), (65536 : Int), (n : Int) - 240).1 - 1 = 2 + 1 from rfl, rloop_ok h1 hc, show (2 : Nat) = 1 + 1 from rfl, rloop_no h2 hd])]
        refine decO_bad h0 ⟨fun h => by omega, fun h => by omega, fun _ _ h => ?_⟩
        rw [contO_some] at h; exact (hd (of_decide_eq_true h)).elim
    · rw [tailn _ (by simp; omega) (by rw [show ((4 : Nat), (65536 : Int), (n : Int) - 240).1 - 1 = 2 + 1 from rfl, rloop_no h1 hc])]
      refine decO_bad h0 ⟨fun h => by omega, fun h => by omega, fun _ h => ?_⟩
      rw [contO_some] at h; exact (hc (of_decide_eq_true h)).elim
  · have hrc : rcase n = (0, 0, 0) := by unfold rcase; rw [if_neg (by omega), if_neg (by omega), if_neg (by omega)]
    rw [hrc, tail0 _ (.inl rfl)]
    refine decO_bad h0 ⟨fun h _ => ?_, fun h => by omega, fun h _ _ _ => by omega⟩
    have : byteO s[i + 1]? % 64 < 64 := Nat.mod_lt _ (by omega)
    omega

theorem runeM_drop (s : List UInt8) (i : Nat) : runeM s i = runeM (s.drop i) 0 := by
  have h : ∀ k, (s.drop i)[k]? = s[i + k]? := fun k => by rw [List.getElem?_drop]
  have hl : ∀ (f : Nat) (j : Nat) (v : Int), rloop s i f j v = rloop (s.drop i) 0 f j v := by
    intro f
    induction f with
    | zero => intro j v; rfl
    | succ f ih =>
      intro j v
      simp only [rloop, Nat.zero_add, h, ih]
  unfold runeM
  rw [h 0, Nat.add_zero]
  cases hb : s[i]? with
  | none => rfl
  | some b =>
    have hi := (List.getElem?_eq_some_iff.1 hb).1
    simp only [rtail, hl, List.length_drop]
    have e : (s.length < i + (rcase ↑b.toNat).1) ↔ (s.length - i < 0 + (rcase ↑b.toNat).1) := by omega
    simp only [e]
theorem valid_eq (s : List UInt8) : Lib.validD s = validM s := by
  have key : ∀ (n : Nat) (s : List UInt8) (i f : Nat), n = s.length - i → i ≤ s.length → s.length + 1 ≤ f + i → vloop s f i = Lib.validD (s.drop i) := by
    intro n
    induction n using Nat.strongRecOn with
    | _ n ih =>
      intro s i f hn hi hf
      cases f with
      | zero => omega
      | succ f =>
        simp only [vloop]
        by_cases hlt : i < s.length
        · rw [if_pos hlt]
          have hne : s.drop i ≠ [] := by simp; omega
          rw [Lib.validD_step _ hne]
          have hd := rune_decode (s := s.drop i) (i := 0) (by simp; omega)
          rw [← runeM_drop] at hd
          have hl := runeM_len s i hlt
          have hdl : Lib.decodeL (s.drop i) = Utf8.decode ⟨(s.drop i).toArray⟩ 0 := rfl
          rw [hdl, hd]
          by_cases h0 : (runeM s i).2 = 0
          · rw [if_pos h0, if_pos h0, if_pos ⟨rfl, rfl⟩]
          · rw [if_neg h0, if_neg h0]
            have hne2 : ¬ ((runeM s i).1.toNat = 65533 ∧ (runeM s i).2.toNat = 1) := by
              rintro ⟨h1, h2⟩
              have : (runeM s i).1 = 65533 := by omega
              have h3 : (runeM s i).2 = 1 := by omega
              obtain ⟨b, hb⟩ : ∃ b, s[i]? = some b := ⟨s[i], by simp [hlt]⟩
              have hb256 : b.toNat < 256 := b.toNat_lt
              have hr : runeM s i = if (b.toNat : Int) < 128 then ((b.toNat : Int), 1) else rtail s i (rcase b.toNat) := by simp only [runeM, hb]
              rw [hr] at this h3
              split at this
              · simp only [] at this; omega
              · rename_i hge
                rw [if_neg hge] at h3
                unfold rtail at h3
                split at h3
                · simp at h3
                · rename_i hx
                  have : (rcase b.toNat).1 = 0 ∨ 2 ≤ (rcase b.toNat).1 := by
                    unfold rcase; repeat' split
                    all_goals simp
                  unfold rfin at h3
                  split at h3
                  · simp at h3
                  · split at h3
                    · simp at h3
                    · simp only [] at h3; omega
            simp only []
            rw [if_neg hne2, List.drop_drop]
            exact ih _ (by omega) s (i + (runeM s i).2.toNat) f rfl (by omega) (by omega)
        · rw [if_neg hlt, List.drop_eq_nil_of_le (by omega)]; rfl
  exact (key _ s 0 (s.length + 1) rfl (by omega) (by omega)).symm
end Go.Proofs.YtdjjmppnnkkloaaGreatDoor
