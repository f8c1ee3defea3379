import Derived.Test.YtdjjmppnnkkloaaGreatDoorSRefPol
import Derived.Test.YtdjjmppnnkkloaaGreatDoorSPolParse
import Derived.Test.YtdjjmppnnkkloaaGreatDoorK2
/-
  PLAIN LAWS: a policy that was printed is parsed as it was.
-/
namespace Go.Proofs.YtdjjmppnnkkloaaGreatDoor
open Sy Go
set_option maxRecDepth 100000
set_option linter.unusedSimpArgs false
set_option linter.unusedVariables false
/-! ### Words and lines -/
theorem nm_clean : ∀ k : Fin 256, nmB (UInt8.ofNat k.val) = true → UInt8.ofNat k.val ≠ 32 ∧ UInt8.ofNat k.val ≠ 10 ∧ UInt8.ofNat k.val ≠ 36 := by decide +kernel
theorem name_clean {s : List UInt8} (h : mayNameM s = true) : s ≠ [] ∧ 32 ∉ s ∧ 10 ∉ s ∧ 36 ∉ s := by
  rw [name_spec] at h
  simp only [Bool.and_eq_true, List.all_eq_true] at h
  have key : ∀ b ∈ s, b ≠ 32 ∧ b ≠ 10 ∧ b ≠ 36 := fun b hb => by
    have := nm_clean ⟨b.toNat, b.toNat_lt⟩
    simp only [UInt8.ofNat_toNat] at this
    exact this (h.1.1 b hb)
  refine ⟨?_, fun hb => (key _ hb).1 rfl, fun hb => (key _ hb).2.1 rfl, fun hb => (key _ hb).2.2 rfl⟩
  rintro rfl
  simp [hdB] at h
theorem join_two (x y : List UInt8) (r : List (List UInt8)) : Lib.join (x :: y :: r) [32] = x ++ 32 :: Lib.join (y :: r) [32] := by simp [Lib.join, List.intercalate, List.intersperse]
theorem join_mem {c : UInt8} (hc : c ≠ 32) : ∀ ws : List (List UInt8), (∀ w ∈ ws, c ∉ w) → c ∉ Lib.join ws [32]
  | [], _ => by simp [Lib.join, List.intercalate]
  | [x], h => by rw [Lib.join_one]; exact h x (by simp)
  | x :: y :: r, h => by
    rw [join_two]
    have ih := join_mem hc (y :: r) fun w hw => h w (by simp [hw])
    simp only [List.mem_append, List.mem_cons, not_or]
    exact ⟨h x (by simp), hc, ih⟩
theorem split_join : ∀ (ws : List (List UInt8)) (r : List UInt8), (∀ w ∈ ws, 32 ∉ w) → ws ≠ [] → splitB 32 (Lib.join ws [32] ++ 32 :: r) = ws ++ splitB 32 r ∧ splitB 32 (Lib.join ws [32]) = ws
  | [], _, _, h => absurd rfl h
  | [x], r, h, _ => by
    rw [Lib.join_one]
    exact ⟨splitB_at (h x (by simp)), splitB_no (h x (by simp))⟩
  | x :: y :: t, r, h, _ => by
    obtain ⟨i1, i2⟩ := split_join (y :: t) r (fun w hw => h w (by simp [hw])) (by simp)
    rw [join_two]
    constructor
    · rw [List.append_assoc, List.cons_append, splitB_at (h x (by simp)), i1]; rfl
    · rw [splitB_at (h x (by simp)), i2]
theorem split_lines : ∀ (ls : List (List UInt8)) (r : List UInt8), (∀ l ∈ ls, 10 ∉ l) → splitB 10 (ls.flatMap (· ++ [10]) ++ r) = ls ++ splitB 10 r
  | [], r, _ => rfl
  | l :: ls, r, h => by
    have ih := split_lines ls r fun x hx => h x (by simp [hx])
    simp only [List.flatMap_cons, List.append_assoc, List.cons_append, List.nil_append]
    rw [splitB_at (h l (by simp)), ih]
theorem split_cut (ls : List (List UInt8)) (hne : ls ≠ []) (h : ∀ l ∈ ls, 10 ∉ l) : splitB 10 (cutEnd 10 (ls.flatMap (· ++ [10]))) = ls := by
  obtain ⟨a, x, rfl⟩ : ∃ a x, ls = a ++ [x] := ⟨ls.dropLast, ls.getLast hne, (List.dropLast_concat_getLast _).symm⟩
  have e : (a ++ [x]).flatMap (· ++ [10]) = (a.flatMap (· ++ [10]) ++ x) ++ [10] := by simp
  have e2 : cutEnd 10 ((a ++ [x]).flatMap (· ++ [10])) = a.flatMap (· ++ [10]) ++ x := by
    unfold cutEnd
    rw [e, List.getLast?_concat, if_pos rfl, List.dropLast_concat]
  rw [e2, split_lines a x fun l hl => h l (by simp [hl]), splitB_no (h x (by simp))]
/-! ### Numbers -/
theorem dec_digits (u : Nat) : ∀ b ∈ Lib.decDigits u, 48 ≤ b.toNat ∧ b.toNat ≤ 57 := by
  induction u using Nat.strongRecOn with
  | _ u ih =>
    intro b hb
    rw [Lib.decDigits] at hb
    split at hb
    · simp only [List.mem_singleton] at hb
      subst hb
      rw [UInt8.toNat_ofNat']; omega
    · rename_i h
      rcases List.mem_append.1 hb with hb | hb
      · exact ih (u / 10) (by omega) b hb
      · simp only [List.mem_singleton] at hb
        subst hb
        rw [UInt8.toNat_ofNat']; omega
theorem dec_ne (u : Nat) : Lib.decDigits u ≠ [] := by
  rw [Lib.decDigits]; split <;> simp
theorem parseU_append : ∀ (l r : List UInt8) (acc a : Nat), Lib.parseUint10 acc l = .ok a → Lib.parseUint10 acc (l ++ r) = Lib.parseUint10 a r
  | [], r, acc, a, h => by simp only [Lib.parseUint10] at h; cases h; rfl
  | c :: l, r, acc, a, h => by
    simp only [List.cons_append, Lib.parseUint10] at h ⊢
    split at h
    · rename_i h1
      rw [if_pos h1]
      split at h
      · cases h
      · rename_i h2
        rw [if_neg h2]
        split at h
        · cases h
        · rename_i h3
          rw [if_neg h3]
          exact parseU_append l r _ a h
    · cases h
theorem parseU_dec (u : Nat) : u < 1000000000 → Lib.parseUint10 0 (Lib.decDigits u) = .ok u := by
  induction u using Nat.strongRecOn with
  | _ u ih =>
    intro hu
    rw [Lib.decDigits]
    split
    · simp only [Lib.parseUint10]
      have : (UInt8.ofNat (48 + u)).toNat = 48 + u := by rw [UInt8.toNat_ofNat']; omega
      rw [this, if_pos (by omega), if_neg (by omega), if_neg (by omega)]
      congr 1; omega
    · rename_i h
      rw [parseU_append _ _ _ _ (ih (u / 10) (by omega) (by omega))]
      simp only [Lib.parseUint10]
      have : (UInt8.ofNat (48 + u % 10)).toNat = 48 + u % 10 := by rw [UInt8.toNat_ofNat']; omega
      rw [this, if_pos (by omega), if_neg (by omega), if_neg (by omega)]
      congr 1; omega
theorem atoi_itoa {n : Int} (h0 : 0 ≤ n) (h1 : n < 1000000000) : atoiT (Lib.itoa n) = (n, .noerr) := by
  have e : Lib.itoa n = Lib.decDigits n.toNat := by unfold Lib.itoa; rw [if_neg (by omega)]
  have h : Lib.atoiAll (Lib.itoa n) = .ok n := by
    rw [e]
    have hd := dec_digits n.toNat
    have hp := parseU_dec n.toNat (by omega)
    cases hl : Lib.decDigits n.toNat with
    | nil => exact absurd hl (dec_ne _)
    | cons c r =>
      have hc := hd c (by rw [hl]; simp)
      rw [hl] at hp
      have hm : Lib.parseMag (c :: r) = .ok n.toNat := by unfold Lib.parseMag; rw [if_neg (by simp), hp]
      unfold Lib.atoiAll
      simp only
      rw [if_neg (by omega), hm]
      simp only
      rw [if_neg (by omega), if_neg (by omega), if_neg (by omega)]
      congr 1; omega
  unfold atoiT; rw [h]
theorem number_itoa {n : Int} (h : 1 ≤ n ∧ n ≤ 100000) : numberM (Lib.itoa n) = n := by
  unfold numberM
  rw [atoi_itoa (by omega) (by omega), if_neg]
  simp only [isErr, fuelM]
  simp; omega
theorem itoa_clean (n : Int) : (10 : UInt8) ∉ Lib.itoa n := by
  have hd : ∀ u, (10 : UInt8) ∉ Lib.decDigits u := fun u h => by have := dec_digits u 10 h; simp at this
  unfold Lib.itoa
  split
  · simp only [List.mem_cons, not_or]; exact ⟨by decide, hd _⟩
  · exact hd _
/-! ### Texts in quotes, patterns -/
theorem qb_clean : ∀ k : Fin 256, (10 : UInt8) ∉ qb (UInt8.ofNat k.val) := by decide +kernel
theorem quote_clean (s : List UInt8) : (10 : UInt8) ∉ quoteT s := by
  unfold quoteT qBody
  simp only [List.mem_cons, List.mem_append, List.mem_flatMap, List.not_mem_nil, or_false, not_or]
  refine ⟨by decide, ?_, by decide⟩
  rintro ⟨b, _, hb⟩
  have := qb_clean ⟨b.toNat, b.toNat_lt⟩
  simp only [UInt8.ofNat_toNat] at this
  exact this hb
theorem written_clean (t : Step) : (10 : UInt8) ∉ writtenT t := by
  unfold writtenT
  split
  · rename_i h; simp only [List.mem_cons, not_or]; exact ⟨by decide, (name_clean h.2).2.2.1⟩
  · split
    · simp only [List.mem_cons, List.mem_append, List.not_mem_nil, or_false, not_or]; exact ⟨by decide, quote_clean _, by decide⟩
    · split
      · simp only [List.mem_cons, List.mem_append, List.not_mem_nil, or_false, not_or]; exact ⟨by decide, itoa_clean _, by decide⟩
      · split
        · decide
        · split <;> decide
theorem path_clean (l : List Step) : (10 : UInt8) ∉ printS l := by
  unfold printS
  simp only [List.mem_cons, List.mem_flatMap, not_or]
  refine ⟨by decide, ?_⟩
  rintro ⟨t, _, ht⟩
  exact written_clean t ht
/-! ### Names of a mask -/
theorem or_bit {a : Int} {i j : Nat} (hi : i < 64) : (natM (orM a (bitM i))).testBit j = ((natM a).testBit j || decide (i = j)) := by
  have : natM (bitM i) = 2 ^ i := by
    have h : 2 ^ i < 2 ^ 64 := Nat.pow_lt_pow_right (by decide) hi
    unfold bitM
    rw [Nat.mod_eq_of_lt h, natM_cast h]
  rw [natM_or, this, Nat.testBit_or, Nat.testBit_two_pow]
theorem maskG_names {cats : List (List UInt8)} (hn : cats.Nodup) (h64 : cats.length ≤ 64) (m : Int) : ∀ (suf pre ws : List (List UInt8)) (acc : Int), cats = pre ++ suf → InM acc →
    ∃ r, maskG cats (pickC suf pre.length m ++ ws) acc = maskG cats ws r ∧ InM r ∧ ∀ j, (natM r).testBit j = ((natM acc).testBit j || (decide (pre.length ≤ j ∧ j < cats.length) && (natM m).testBit j))
  | [], pre, ws, acc, he, ha => ⟨acc, rfl, ha, fun j => by
      rw [he]; simp only [List.append_nil]
      rw [show decide (pre.length ≤ j ∧ j < pre.length) = false by simp only [decide_eq_false_iff_not]; omega]; simp⟩
  | c :: suf, pre, ws, acc, he, ha => by
    have hl : pre.length + suf.length + 1 = cats.length := by rw [he]; simp; omega
    have he2 : cats = (pre ++ [c]) ++ suf := by rw [he]; simp
    have hlen : (pre ++ [c]).length = pre.length + 1 := by simp
    by_cases hb : hasM m pre.length = true
    · have hix : cats.idxOf c = pre.length := by
        have := List.Nodup.idxOf_getElem hn pre.length (by omega)
        rw [show cats[pre.length] = c by simp [he]] at this
        exact this
      have hcm : c ∈ cats := by rw [he]; simp
      obtain ⟨r, h1, h2, h3⟩ := maskG_names hn h64 m suf (pre ++ [c]) ws (orM acc (bitM pre.length)) he2 (or_in _ _)
      rw [hlen] at h1
      refine ⟨r, ?_, h2, fun j => ?_⟩
      · simp only [pickC, if_pos hb, List.cons_append, List.nil_append, maskG]
        rw [if_pos hcm, hix]; exact h1
      · rw [h3 j, or_bit (by omega), hlen]
        unfold hasM at hb
        by_cases hj : pre.length = j
        · subst hj
          simp [hb]; omega
        · have : decide (pre.length + 1 ≤ j ∧ j < cats.length) = decide (pre.length ≤ j ∧ j < cats.length) := by
            rw [decide_eq_decide]; omega
          rw [this]; simp [hj]
    · obtain ⟨r, h1, h2, h3⟩ := maskG_names hn h64 m suf (pre ++ [c]) ws acc he2 ha
      rw [hlen] at h1
      refine ⟨r, ?_, h2, fun j => ?_⟩
      · simp only [pickC, if_neg hb, List.nil_append]; exact h1
      · rw [h3 j, hlen]
        unfold hasM at hb
        by_cases hj : pre.length = j
        · subst hj
          simp only [Bool.not_eq_true] at hb
          simp [hb]
        · have : decide (pre.length + 1 ≤ j ∧ j < cats.length) = decide (pre.length ≤ j ∧ j < cats.length) := by
            rw [decide_eq_decide]; omega
          rw [this]
theorem mask_of_bits {m r : Int} {n : Nat} (hm : InM m) (hr : InM r) (hn : n ≤ 64) (hb : n < 64 → m / 2 ^ n = 0) (h : ∀ j, (natM r).testBit j = ((natM 0).testBit j || (decide (0 ≤ j ∧ j < n) && (natM m).testBit j))) : r = m := by
  have hlt : natM m < 2 ^ n := by
    by_cases h64 : n < 64
    · have h0 := hb h64
      have hmm := natM_of hm
      have h1 : (0 : Int) < 2 ^ n := Int.pow_pos (by decide)
      have h2 : m < 2 ^ n := by
        have e := Int.mul_ediv_add_emod m (2 ^ n)
        have e2 := Int.emod_lt_of_pos m h1
        rw [h0] at e
        omega
      rw [← hmm] at h2
      have : ((natM m : Nat) : Int) < ((2 ^ n : Nat) : Int) := by simpa using h2
      omega
    · rw [show n = 64 by omega]; exact natM_lt m
  have : natM r = natM m := by
    apply Nat.eq_of_testBit_eq
    intro j
    rw [h j]
    by_cases hj : j < n
    · simp [hj, natM]
    · have : (natM m).testBit j = false := Nat.testBit_lt_two_pow (Nat.lt_of_lt_of_le hlt (Nat.pow_le_pow_right (by decide) (by omega)))
      rw [this]; simp [natM]
  rw [← natM_of hm, ← natM_of hr, this]
theorem maskG_skip {cats : List (List UInt8)} (hne : [] ∉ cats) (ws : List (List UInt8)) (acc : Int) : maskG cats ([] :: ws) acc = maskG cats ws acc := by
  simp [maskG, hne]
/-- The mask of the names of a mask, with a blank behind. -/
theorem mask_names {cats : List (List UInt8)} (h : catsMayM cats = 0) {m : Int} (hm : InM m) (hb : badM cats.length m = false) : maskT cats (namesT cats m ++ [32]) = (m, 0) := by
  obtain ⟨h1, h2, h3⟩ := may_cats h
  have hcl : ∀ c ∈ cats, c ≠ [] ∧ 32 ∉ c := fun c hc => by have := name_clean (List.all_eq_true.1 h3 c hc); exact ⟨this.1, this.2.1⟩
  have hne : [] ∉ cats := fun hc => (hcl _ hc).1 rfl
  unfold badM at hb
  simp only [Bool.or_eq_false_iff, decide_eq_false_iff_not, Bool.and_eq_false_iff] at hb
  have hbb : cats.length < 64 → m / 2 ^ cats.length = 0 := fun hl => by
    rcases hb.2 with h | h
    · exact absurd (by omega) h
    · exact Decidable.not_not.1 h
  have hsp : maskG cats (splitB 32 (namesT cats m ++ [32])) 0 = maskG cats (pickC cats 0 m ++ [[]]) 0 := by
    unfold namesT
    by_cases hp : pickC cats 0 m = []
    · rw [hp]
      have : splitB 32 (Lib.join [] [32] ++ [32]) = [[], []] := by decide
      rw [this, List.nil_append, maskG_skip hne]
    · have := (split_join (pickC cats 0 m) [] (fun w hw => (hcl w (pick_sub hw)).2) hp).1
      rw [this]; rfl
  obtain ⟨r, e1, e2, e3⟩ := maskG_names h2 h1 m cats [] [[]] 0 rfl (by unfold InM; omega)
  have hr : r = m := mask_of_bits hm e2 h1 hbb e3
  unfold maskT
  rw [hsp]
  simp only [List.length_nil] at e1
  rw [e1, maskG_skip hne, hr]
  rfl
end Go.Proofs.YtdjjmppnnkkloaaGreatDoor
