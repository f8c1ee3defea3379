import Derived.Test.YtdjjmppnnkkloaaDoorM3
import Derived.Lib.MapLaws
import Derived.Lib.ValidLaws
/-
  A PLAIN LAW: a text in quotes, written and read.
-/
namespace Go.Proofs.YtdjjmppnnkkloaaDoor
open Go
open Go.Lib
set_option linter.unusedSimpArgs false
set_option linter.unusedVariables false

def hexD (n : Nat) : UInt8 := if n < 10 then UInt8.ofNat (48 + n) else UInt8.ofNat (87 + n)
/-- A byte, as it stands in quotes. -/
def qb (b : UInt8) : List UInt8 :=
  if b = 34 ∨ b = 92 then [92, b] else if b = 10 then [92, 110] else if b = 13 then [92, 114] else if b = 9 then [92, 116]
  else if b < 32 ∨ b = 127 then [92, 117, 48, 48, hexD (b.toNat / 16), hexD (b.toNat % 16)] else [b]
def qBody (s : List UInt8) : List UInt8 := s.flatMap qb
def quoteT (s : List UInt8) : List UInt8 := 34 :: (qBody s ++ [34])

def hexV (c : UInt8) : Option Nat := if 48 ≤ c ∧ c ≤ 57 then some (c.toNat - 48) else if 97 ≤ c ∧ c ≤ 102 then some (c.toNat - 87) else if 65 ≤ c ∧ c ≤ 70 then some (c.toNat - 55) else none
def hexN : List UInt8 → Nat → Option Nat
  | [], x => some x
  | c :: l, x => match hexV c with
    | none => none
    | some k => hexN l (16 * x + k)
def unitL (s : List UInt8) : Option Nat := if s.length < 6 ∨ s.take 2 ≠ [92, 117] then none else hexN ((s.drop 2).take 4) 0
def escT (c : UInt8) : Option Nat := if c = 34 then some 34 else if c = 92 then some 92 else if c = 47 then some 47 else if c = 98 then some 8 else if c = 102 then some 12 else if c = 110 then some 10 else if c = 114 then some 13 else if c = 116 then some 9 else none
def escU (u w : Option Nat) : Nat × Nat × Bool :=
  if u.isSome = false ∨ u.getD 0 / 1024 ≠ 54 then (u.getD 0, 6, u.isSome && decide (u.getD 0 / 1024 ≠ 55)) else (65536 + u.getD 0 % 1024 * 1024 + w.getD 0 % 1024, 12, w.isSome && decide (w.getD 0 / 1024 = 55))
/-- What stands behind a backslash: the rune, how many bytes, whether there is one. -/
def escG (s : List UInt8) : Nat × Nat × Bool := match s with
  | _ :: c :: _ => match escT c with
    | some v => (v, 2, true)
    | none => escU (unitL s) (unitL (s.drop 6))
  | _ => (0, 0, false)
def escL (s : List UInt8) : Option (Nat × Nat) := if (escG s).2.2 = true then some ((escG s).1, (escG s).2.1) else none
def unqG : Nat → List UInt8 → Nat → List UInt8 → List UInt8 × Nat × Int
  | 0, _, _, _ => ([], 0, 6)
  | f + 1, s, at', out => if s = [] then ([], 0, 6)
    else if (decodeL s).1 = 34 then (if 4096 < out.length then ([], 0, 3) else (out, at' + 1, 0))
    else if (decodeL s).1 < 32 ∨ ((decodeL s).1 = 65533 ∧ (decodeL s).2 = 1) then ([], 0, 6)
    else if (decodeL s).1 = 92 then (match escL s with
      | none => ([], 0, 6)
      | some (c, n) => unqG f (s.drop n) (at' + n) (out ++ encodeRune c))
    else unqG f (s.drop (decodeL s).2) (at' + (decodeL s).2) (out ++ encodeRune (decodeL s).1)
def unquoteT (s : List UInt8) : List UInt8 × Nat × Int := if s.head? = some 34 then unqG s.length (s.drop 1) 1 [] else ([], 0, 6)

theorem decodeL_lt {b : UInt8} {t : List UInt8} (h : b.toNat < 128) : decodeL (b :: t) = (b.toNat, 1) := by
  unfold decodeL
  rw [decode_at]
  have e : (⟨(b :: t).toArray⟩ : ByteArray).get! 0 = b := rfl
  rw [e]
  unfold decodeN
  rw [if_pos h]
theorem ofNat_lt {b : UInt8} (h : b.toNat < 128) : encodeRune (b.toNat : Int) = [b] := by
  simp only [encodeRune, encodeRuneZ_one (r := (b.toNat : Int)) (by omega) (by omega), List.map_cons, List.map_nil]
  congr 1
  simp
theorem decodeL_get (l : List UInt8) : decodeL l = decodeN l.length (l.getD 0 0).toNat (l.getD 1 0).toNat (l.getD 2 0).toNat (l.getD 3 0).toNat := by
  unfold decodeL
  rw [decode_at]
  have e : ∀ k, (⟨l.toArray⟩ : ByteArray).get! k = l.getD k 0 := by
    intro k
    show l.toArray[k]! = _
    simp [List.getD_eq_getElem?_getD]
    rfl
  simp only [e]
  rfl
set_option maxRecDepth 100000 in
set_option maxHeartbeats 2000000 in
theorem decodeN_more (n b0 b1 b2 b3 n' b1' b2' b3' : Nat) (hv : ¬ ((decodeN n b0 b1 b2 b3).1 = 65533 ∧ (decodeN n b0 b1 b2 b3).2 = 1)) (h : (decodeN n b0 b1 b2 b3).2 ≤ n')
    (h1 : 1 < (decodeN n b0 b1 b2 b3).2 → b1' = b1) (h2 : 2 < (decodeN n b0 b1 b2 b3).2 → b2' = b2) (h3 : 3 < (decodeN n b0 b1 b2 b3).2 → b3' = b3) : decodeN n' b0 b1' b2' b3' = decodeN n b0 b1 b2 b3 := by
  revert hv h h1 h2 h3
  generalize e : decodeN n b0 b1 b2 b3 = p
  obtain ⟨r, w⟩ := p
  intro hv h h1 h2 h3
  simp only at hv h h1 h2 h3
  unfold decodeN at e
  by_cases c0 : b0 < 128
  · rw [if_pos c0] at e
    unfold decodeN; rw [if_pos c0]; exact e
  · rw [if_neg c0] at e
    by_cases c1 : b0 / 32 = 6 ∧ (1 < n ∧ b1 / 64 = 2)
    · rw [if_pos c1] at e
      split at e
      · rename_i k
        cases e
        have e1 := h1 (by omega)
        subst e1
        unfold decodeN; rw [if_neg c0, if_pos ⟨c1.1, by omega, c1.2.2⟩, if_pos k]
      · cases e; exact absurd ⟨rfl, rfl⟩ hv
    · rw [if_neg c1] at e
      by_cases c2 : b0 / 16 = 14 ∧ (1 < n ∧ b1 / 64 = 2) ∧ (2 < n ∧ b2 / 64 = 2)
      · rw [if_pos c2] at e
        split at e
        · rename_i k
          cases e
          have e1 := h1 (by omega)
          have e2 := h2 (by omega)
          subst e1; subst e2
          unfold decodeN; rw [if_neg c0, if_neg (by omega), if_pos ⟨c2.1, ⟨by omega, c2.2.1.2⟩, by omega, c2.2.2.2⟩, if_pos k]
        · cases e; exact absurd ⟨rfl, rfl⟩ hv
      · rw [if_neg c2] at e
        split at e
        · rename_i c3
          split at e
          · rename_i k
            cases e
            have e1 := h1 (by omega)
            have e2 := h2 (by omega)
            have e3 := h3 (by omega)
            subst e1; subst e2; subst e3
            unfold decodeN; rw [if_neg c0, if_neg (by omega), if_neg (by omega), if_pos ⟨c3.1, ⟨by omega, c3.2.1.2⟩, ⟨by omega, c3.2.2.1.2⟩, by omega, c3.2.2.2.2⟩, if_pos k]
          · cases e; exact absurd ⟨rfl, rfl⟩ hv
        · cases e; exact absurd ⟨rfl, rfl⟩ hv
theorem decodeL_pos (l : List UInt8) (hne : l ≠ []) : 1 ≤ (decodeL l).2 := by
  rw [decodeL_get l]
  unfold decodeN
  repeat' split
  all_goals simp
/-- What follows a rune does not matter. -/
theorem decodeL_more (l t : List UInt8) (hne : l ≠ []) (hv : ¬ ((decodeL l).1 = 65533 ∧ (decodeL l).2 = 1)) : decodeL (l.take (decodeL l).2 ++ t) = decodeL l := by
  have hle := decodeL_le l hne
  have hpos := decodeL_pos l hne
  have e := decodeL_get l
  generalize hk : (decodeL l).2 = k at *
  have g : ∀ j, j < k → (l.take k ++ t).getD j 0 = l.getD j 0 := by
    intro j hj
    rw [List.getD_eq_getElem?_getD, List.getD_eq_getElem?_getD, List.getElem?_append_left (by simp; omega), List.getElem?_take, if_pos hj]
  rw [decodeL_get (l.take k ++ t), e, g 0 (by omega)]
  rw [e] at hk hv
  refine decodeN_more _ _ _ _ _ _ _ _ _ (by rw [hk]; exact hv) ?_ ?_ ?_ ?_
  · rw [hk]; simp; omega
  · rw [hk]; intro h; rw [g 1 h]
  · rw [hk]; intro h; rw [g 2 h]
  · rw [hk]; intro h; rw [g 3 h]
theorem big_bytes (l : List UInt8) (hne : l ≠ []) (hv : ¬ ((decodeL l).1 = 65533 ∧ (decodeL l).2 = 1)) (hb : 128 ≤ (l.getD 0 0).toNat) : (∀ b ∈ l.take (decodeL l).2, 128 ≤ b.toNat) ∧ 128 ≤ (decodeL l).1 := by
  have hr := decodeL_get l
  have hle := decodeL_le l hne
  have hlen : 0 < l.length := by cases l with
    | nil => exact absurd rfl hne
    | cons a l => simp
  unfold decodeN at hr
  rw [if_neg (by omega)] at hr
  split at hr
  · rename_i c
    split at hr
    · rw [hr] at hv hle ⊢
      simp only at hle ⊢
      rw [takeB l (by omega)]
      refine ⟨fun b hb' => ?_, by omega⟩
      simp at hb'
      rcases hb' with h | h <;> (subst h; simp at hb c; omega)
    · rw [hr] at hv; exact absurd ⟨rfl, rfl⟩ hv
  · split at hr
    · rename_i c
      split at hr
      · rw [hr] at hv hle ⊢
        simp only at hle ⊢
        rw [takeC l (by omega)]
        refine ⟨fun b hb' => ?_, by omega⟩
        simp at hb'
        rcases hb' with h | h | h <;> (subst h; simp at hb c; omega)
      · rw [hr] at hv; exact absurd ⟨rfl, rfl⟩ hv
    · split at hr
      · rename_i c
        split at hr
        · rw [hr] at hv hle ⊢
          simp only at hle ⊢
          rw [takeD l (by omega)]
          refine ⟨fun b hb' => ?_, by omega⟩
          simp at hb'
          rcases hb' with h | h | h | h <;> (subst h; simp at hb c; omega)
        · rw [hr] at hv; exact absurd ⟨rfl, rfl⟩ hv
      · rw [hr] at hv; exact absurd ⟨rfl, rfl⟩ hv
theorem qBody_big {l : List UInt8} (h : ∀ b ∈ l, 128 ≤ b.toNat) : qBody l = l := by
  induction l with
  | nil => rfl
  | cons b l ih =>
    have hb := h b (by simp)
    have h1 : qb b = [b] := by
      unfold qb
      have ne : ∀ c : UInt8, c.toNat < 128 → b ≠ c := fun c hc e => by subst e; omega
      rw [if_neg (by rintro (e | e) <;> exact ne _ (by decide) e), if_neg (ne _ (by decide)), if_neg (ne _ (by decide)), if_neg (ne _ (by decide)), if_neg]
      rintro (e | e)
      · rw [UInt8.lt_iff_toNat_lt] at e
        simp at e; omega
      · exact ne _ (by decide) e
    show qb b ++ qBody l = _
    rw [h1, ih fun b hb => h b (List.mem_cons_of_mem _ hb)]
    rfl
theorem qBody_append (a b : List UInt8) : qBody (a ++ b) = qBody a ++ qBody b := by simp [qBody]
/-- A byte below 128 in quotes is read as it was. -/
theorem unq_byte (b : UInt8) (hb : b.toNat < 128) (f : Nat) (at' : Nat) (out t : List UInt8) : unqG (f + 1) (qb b ++ t) at' out = unqG f t (at' + (qb b).length) (out ++ [b]) := by
  have esc : ∀ (x : UInt8) (l : List UInt8) (c : UInt8), c.toNat < 128 → escL (92 :: x :: (l ++ t)) = some (c.toNat, l.length + 2) → unqG (f + 1) (92 :: x :: l ++ t) at' out = unqG f t (at' + (92 :: x :: l).length) (out ++ [c]) := by
    intro x l c hc he
    show unqG (f + 1) (92 :: x :: (l ++ t)) at' out = _
    simp only [unqG]
    rw [if_neg (by simp), decodeL_lt (show (92 : UInt8).toNat < 128 by decide), if_neg (by decide), if_neg (by decide), if_pos (by decide), he]
    simp only
    rw [ofNat_lt hc]
    rw [show (92 :: x :: (l ++ t)).drop (l.length + 2) = t by simp]
    simp
  unfold qb
  split
  · rename_i h
    rcases h with rfl | rfl
    · exact esc 34 [] 34 (by decide) rfl
    · exact esc 92 [] 92 (by decide) rfl
  · rename_i h0
    split
    · rename_i h; subst h; exact esc 110 [] 10 (by decide) rfl
    · split
      · rename_i h; subst h; exact esc 114 [] 13 (by decide) rfl
      · split
        · rename_i h; subst h; exact esc 116 [] 9 (by decide) rfl
        · split
          · rename_i h
            refine esc 117 [48, 48, hexD (b.toNat / 16), hexD (b.toNat % 16)] b hb ?_
            have hex : ∀ k : Fin 128, k.val < 32 ∨ k.val = 127 → hexN [48, 48, hexD (k.val / 16), hexD (k.val % 16)] 0 = some k.val := by decide +kernel
            have h' : b.toNat < 32 ∨ b.toNat = 127 := by
              rcases h with h | h
              · rw [UInt8.lt_iff_toNat_lt] at h; exact .inl h
              · subst h; exact .inr rfl
            have h2 := hex ⟨b.toNat, hb⟩ h'
            simp only at h2
            have h3 : unitL (92 :: 117 :: ([48, 48, hexD (b.toNat / 16), hexD (b.toNat % 16)] ++ t)) = some b.toNat := by
              unfold unitL
              rw [if_neg (by simp)]
              exact h2
            have h4 : escL (92 :: 117 :: ([48, 48, hexD (b.toNat / 16), hexD (b.toNat % 16)] ++ t)) = some (b.toNat, 6) := by
              have h5 : escG (92 :: 117 :: ([48, 48, hexD (b.toNat / 16), hexD (b.toNat % 16)] ++ t)) = (b.toNat, 6, true) := by
                unfold escG
                simp only [show escT 117 = none by decide, h3, escU, Option.isSome_some, Option.getD_some]
                rw [if_pos (by right; omega)]
                simp; omega
              unfold escL
              rw [h5]; rfl
            exact h4
          · rename_i h1 h2 h3 h4
            have n34 : b.toNat ≠ 34 := fun e => h0 (.inl (UInt8.toNat_inj.1 e))
            have n92 : b.toNat ≠ 92 := fun e => h0 (.inr (UInt8.toNat_inj.1 e))
            have n32 : ¬ b.toNat < 32 := fun e => h4 (.inl (by rw [UInt8.lt_iff_toNat_lt]; exact e))
            show unqG (f + 1) (b :: t) at' out = _
            simp only [unqG]
            rw [if_neg (by simp), decodeL_lt hb, if_neg (by simpa using n34), if_neg (by simp; omega), if_neg (by simpa using n92)]
            simp only
            rw [ofNat_lt hb]
            simp
theorem qb_pos (b : UInt8) : 1 ≤ (qb b).length := by unfold qb; repeat' split
                                                     all_goals simp
theorem unq_back : ∀ (n : Nat) (s : List UInt8), s.length ≤ n → validD s = true → ∀ (f at' : Nat) (out rest : List UInt8), s.length < f → (out ++ s).length ≤ 4096 →
    unqG f (qBody s ++ 34 :: rest) at' out = (out ++ s, at' + (qBody s).length + 1, 0)
  | n, [], _, _, f, at', out, rest, hf, hl => by
    obtain ⟨f, rfl⟩ : ∃ g, f = g + 1 := ⟨f - 1, by omega⟩
    simp only [qBody, List.flatMap_nil, List.nil_append, unqG]
    rw [if_neg (by simp), decodeL_lt (show (34 : UInt8).toNat < 128 by decide)]
    simp only [List.append_nil] at hl
    rw [if_pos (show ((34 : UInt8).toNat, 1).1 = 34 from rfl), if_neg (by omega)]
    simp
  | 0, b :: s, h, _, _, _, _, _, _, _ => by simp at h
  | n + 1, b :: s, h, hv, f, at', out, rest, hf, hl => by
    obtain ⟨f, rfl⟩ : ∃ g, f = g + 1 := ⟨f - 1, by omega⟩
    by_cases hb : b.toNat < 128
    · rw [validD_cons b s hb] at hv
      have e : qBody (b :: s) = qb b ++ qBody s := rfl
      rw [e, List.append_assoc, unq_byte b hb, unq_back n s (by simp at h; omega) hv f _ _ rest (by simp at hf; omega) (by simpa using hl)]
      simp; omega
    · have hne : (b :: s) ≠ [] := by simp
      rw [validD_step _ hne] at hv
      split at hv
      · cases hv
      · rename_i hok
        obtain ⟨h1, h2⟩ := big_bytes (b :: s) hne hok (by simpa using by omega)
        have hpos := decodeL_pos (b :: s) hne
        have hle := decodeL_le (b :: s) hne
        have hmore := decodeL_more (b :: s)
        have henc := encode_decode (b :: s) hne hok
        generalize hk : decodeL (b :: s) = p at *
        obtain ⟨r, k⟩ := p
        simp only at *
        have hsplit : (b :: s) = (b :: s).take k ++ (b :: s).drop k := (List.take_append_drop k _).symm
        have hb2 : qBody (b :: s) = (b :: s).take k ++ qBody ((b :: s).drop k) := by
          conv => lhs; rw [hsplit]
          rw [qBody_append, qBody_big h1]
        have htl : ((b :: s).take k).length = k := by rw [List.length_take]; omega
        have hx : ∀ u, decodeL ((b :: s).take k ++ u) = (r, k) := fun u => hmore u hne hok
        generalize hA : (b :: s).take k = A at *
        generalize hD : (b :: s).drop k = D at *
        have hlenAD : (b :: s).length = A.length + D.length := by rw [hsplit]; simp
        rw [hb2, List.append_assoc]
        simp only [unqG, hx]
        rw [if_neg (by intro e; have := congrArg List.length e; simp at this), if_neg (by omega), if_neg (by omega), if_neg (by omega), henc]
        rw [show (A ++ (qBody D ++ 34 :: rest)).drop k = qBody D ++ 34 :: rest by rw [← htl, List.drop_left]]
        rw [unq_back n D (by omega) hv f _ _ rest (by omega) (by rw [List.append_assoc, ← hsplit]; exact hl)]
        rw [hsplit]
        simp; omega
theorem qBody_len : ∀ s : List UInt8, s.length ≤ (qBody s).length
  | [] => Nat.le_refl _
  | b :: s => by
    have h1 := qb_pos b
    have h2 := qBody_len s
    show s.length + 1 ≤ (qb b ++ qBody s).length
    rw [List.length_append]; omega
theorem unquote_back (s rest : List UInt8) (hv : validD s = true) (hl : s.length ≤ 4096) : unquoteT (quoteT s ++ rest) = (s, (quoteT s).length, 0) := by
  unfold unquoteT quoteT
  simp only [List.cons_append, List.head?_cons, if_true, List.drop_succ_cons, List.drop_zero, List.append_assoc, List.singleton_append, List.nil_append]
  have hb := qBody_len s
  rw [unq_back s.length s (Nat.le_refl _) hv _ 1 [] rest (by simp; omega) (by simpa using hl)]
  simp; omega
end Go.Proofs.YtdjjmppnnkkloaaDoor
