import Derived.Test.YtdjjmppnnkkloaaGreatDoorSRefRL
import Derived.Test.YtdjjmppnnkkloaaGreatDoorSRefW
import Derived.Test.YtdjjmppnnkkloaaGreatDoorSPolBack2
/-
  PLAIN LAWS: how the reference parses a policy, and that it comes to the same.
-/
namespace Go.Proofs.YtdjjmppnnkkloaaGreatDoor
open Sy Go
set_option maxRecDepth 100000
set_option linter.unusedSimpArgs false
set_option linter.unusedVariables false
/-- The lines of a text. -/
def linesT (s : List UInt8) : List (List UInt8) := if (splitB 10 s).getLast? = some [] then (splitB 10 s).dropLast else splitB 10 s
/-- What stands behind a word and a blank. -/
def behindT (l w : List UInt8) : List UInt8 := if l.take (w.length + 1) = w ++ [32] then l.drop (w.length + 1) else []
def notD (b : UInt8) : Bool := !decide (b = 36)
def dollarT (s : List UInt8) : Nat := (s.takeWhile notD).length
def digitsT (s : List UInt8) : Nat := if s.all isDig = true ∧ s.length ≤ 7 then dgN s else 0
def candM (cats : List (List UInt8)) (l : List UInt8) : Mk × Int := (⟨(parseT ((behindT l kwMark).drop (dollarT (behindT l kwMark)))).1, (maskT cats ((behindT l kwMark).take (dollarT (behindT l kwMark)))).1⟩, (parseT ((behindT l kwMark).drop (dollarT (behindT l kwMark)))).2)
def candMs (cats : List (List UInt8)) : List (List UInt8) → Option (List Mk)
  | [] => some []
  | l :: r => if (candM cats l).2 ≠ 0 then none else (candMs cats r).map ((candM cats l).1 :: ·)
def candC (l : List (List UInt8)) : List (List UInt8) := wordsT (behindT (l.getD 0 []) kwCats)
def candP (l : List (List UInt8)) (ms : List Mk) : Pol := ⟨candC l, ms, (unquoteT (behindT (l.getD (l.length - 3) []) kwToken)).1, digitsT (behindT (l.getD (l.length - 2) []) kwFuel), digitsT (behindT (l.getD (l.length - 1) []) kwQuota)⟩
def finishP (s : List UInt8) (p : Pol) : Pol × Int := if polMay p ≠ 0 ∨ polPrint p ≠ s then (pol0, 22) else (p, 0)
def refParse (s : List UInt8) : Pol × Int :=
  if (linesT s).length < 4 ∨ catsMayM (candC (linesT s)) ≠ 0 then (pol0, 22) else
    match candMs (candC (linesT s)) (((linesT s).drop 1).take ((linesT s).length - 4)) with
    | none => (pol0, 22)
    | some ms => finishP s (candP (linesT s) ms)
/-! ### Masks are masks -/
theorem maskG_in {cats : List (List UInt8)} : ∀ (ws : List (List UInt8)) (a : Int), InM a → ∀ r, maskG cats ws a = some r → InM r
  | [], a, ha, r, h => by simp only [maskG] at h; cases h; exact ha
  | w :: ws, a, ha, r, h => by
    simp only [maskG] at h
    split at h
    · exact maskG_in ws _ (or_in _ _) r h
    · split at h
      · exact maskG_in ws a ha r h
      · cases h
theorem maskT_in (cats : List (List UInt8)) (s : List UInt8) : InM (maskT cats s).1 := by
  unfold maskT
  split
  · unfold InM; simp
  · rename_i m h; exact maskG_in _ 0 (by unfold InM; omega) m h
theorem lineM_in {p : Pol} (h : ∀ m ∈ p.marks, InM m.mask) (s : List UInt8) : ∀ m ∈ (lineM p s).1.marks, InM m.mask := by
  unfold lineM
  simp only
  repeat' split
  all_goals first | exact h | skip
  intro m hm
  simp only [List.mem_append, List.mem_singleton] at hm
  rcases hm with hm | rfl
  · exact h m hm
  · exact maskT_in _ _
theorem foldP_in : ∀ (ls : List (List UInt8)) (a : Pol × Bool), (∀ m ∈ a.1.marks, InM m.mask) → ∀ m ∈ (ls.foldl stepP a).1.marks, InM m.mask
  | [], a, h => h
  | l :: ls, a, h => by
    rw [List.foldl_cons]
    refine foldP_in ls _ ?_
    unfold stepP
    split
    · exact lineM_in h l
    · exact h
theorem polParse_in (s : List UInt8) : ∀ m ∈ (polParse s).1.marks, InM m.mask := by
  unfold polParse
  split
  · exact foldP_in _ _ (by intro m hm; cases hm)
  · intro m hm; cases hm
theorem candMs_in {cats : List (List UInt8)} : ∀ (ls : List (List UInt8)) (ms : List Mk), candMs cats ls = some ms → ∀ m ∈ ms, InM m.mask
  | [], ms, h => by simp only [candMs] at h; cases h; intro m hm; cases hm
  | l :: ls, ms, h => by
    simp only [candMs] at h
    split at h
    · cases h
    · obtain ⟨r, hr, rfl⟩ := Option.map_eq_some_iff.1 h
      intro m hm
      rcases List.mem_cons.1 hm with rfl | hm
      · exact maskT_in _ _
      · exact candMs_in ls r hr m hm
/-! ### A policy that was printed -/
theorem lines_print {p : Pol} (h : catsMayM p.cats = 0) : linesT (polPrint p) = linesP p := by
  have h1 := split_lines (linesP p) [] (lines_clean h)
  rw [List.append_nil, ← print_lines] at h1
  unfold linesT
  rw [h1, show splitB 10 ([] : List UInt8) = [[]] from rfl, List.getLast?_concat, if_pos rfl, List.dropLast_concat]
theorem behind_join (w x : List UInt8) : behindT (Lib.join [w, x] [32]) w = x := by
  rw [join_two, Lib.join_one]
  have e : w ++ 32 :: x = (w ++ [32]) ++ x := by simp
  unfold behindT
  rw [e, if_pos (by rw [List.take_left' (by simp)]), List.drop_left' (by simp)]
theorem behind_cats {p : Pol} (h : catsMayM p.cats = 0) : wordsT (behindT (Lib.join (kwCats :: p.cats) [32]) kwCats) = p.cats := by
  have hc := cats_clean h
  cases hcs : p.cats with
  | nil => decide
  | cons c r =>
    rw [hcs] at hc
    have : Lib.join (kwCats :: c :: r) [32] = Lib.join [kwCats, Lib.join (c :: r) [32]] [32] := by rw [join_two, join_two, Lib.join_one]
    rw [this, behind_join]
    unfold wordsT
    rw [(split_join (c :: r) [] (fun w hw => (hc w hw).2.1) (by simp)).2, List.filter_eq_self]
    intro w hw
    simp [(hc w hw).1]
theorem dollar_at {a r : List UInt8} (h : 36 ∉ a) : dollarT (a ++ 36 :: r) = a.length := by
  unfold dollarT
  rw [List.takeWhile_append_of_pos (fun b hb => by unfold notD; simp; rintro rfl; exact h hb), List.takeWhile_cons, if_neg (by decide), List.append_nil]
theorem cand_mark {cats : List (List UInt8)} (h : catsMayM cats = 0) {m : Mk} (hm : InM m.mask) (hl : mayL m.path = 0) (hb : badM cats.length m.mask = false) : candM cats (lnMark cats m) = (m, 0) := by
  have e1 : behindT (lnMark cats m) kwMark = (namesT cats m.mask ++ [32]) ++ printS m.path := by
    unfold lnMark
    have : Lib.join [kwMark, namesT cats m.mask, printS m.path] [32] = Lib.join [kwMark, Lib.join [namesT cats m.mask, printS m.path] [32]] [32] := by simp only [join_two, Lib.join_one]
    rw [this, behind_join, join_two, Lib.join_one]; simp
  have e2 : dollarT (behindT (lnMark cats m) kwMark) = (namesT cats m.mask ++ [32]).length := by
    rw [e1]; unfold printS
    rw [dollar_at]
    simp only [List.mem_append, List.mem_cons, List.not_mem_nil, or_false, not_or]
    exact ⟨names_no h (.inr rfl) _, by decide⟩
  have hz := may_zeroL hl
  unfold candM
  rw [e2, e1, List.drop_left, List.take_left, printS_parse hz.1 hz.2, mask_names h hm hb]
theorem cand_marks {cats : List (List UInt8)} (h : catsMayM cats = 0) : ∀ ms : List Mk, (∀ m ∈ ms, InM m.mask ∧ mayL m.path = 0 ∧ badM cats.length m.mask = false) → candMs cats (ms.map (lnMark cats)) = some ms
  | [], _ => rfl
  | m :: ms, hm => by
    obtain ⟨h1, h2, h3⟩ := hm m (by simp)
    simp only [List.map_cons, candMs]
    rw [cand_mark h h1 h2 h3, cand_marks h ms fun x hx => hm x (by simp [hx])]
    rfl
theorem dec_len (u : Nat) : ∀ k, 1 ≤ k → u < 10 ^ k → (Lib.decDigits u).length ≤ k := by
  induction u using Nat.strongRecOn with
  | _ u ih =>
    intro k hk hu
    rw [Lib.decDigits]
    split
    · simpa using hk
    · rename_i h
      obtain ⟨k, rfl⟩ : ∃ j, k = j + 1 := ⟨k - 1, by omega⟩
      have hk1 : 1 ≤ k := by
        rcases Nat.eq_zero_or_pos k with h0 | h0
        · subst h0; simp at hu; omega
        · exact h0
      rw [Nat.pow_succ] at hu
      have := ih (u / 10) (by omega) k hk1 (by omega)
      simp; omega
theorem dec_dg (u : Nat) : dgN (Lib.decDigits u) = u := by
  induction u using Nat.strongRecOn with
  | _ u ih =>
    rw [Lib.decDigits]
    split
    · rename_i h
      have : (UInt8.ofNat (48 + u)).toNat = 48 + u := by rw [UInt8.toNat_ofNat']; omega
      simp only [dgN, List.foldl_cons, List.foldl_nil, this]; omega
    · rename_i h
      have : (UInt8.ofNat (48 + u % 10)).toNat = 48 + u % 10 := by rw [UInt8.toNat_ofNat']; omega
      rw [dgN_snoc, ih (u / 10) (by omega), this]; omega
theorem digits_itoa {n : Int} (h : 1 ≤ n ∧ n ≤ 100000) : ((digitsT (Lib.itoa n) : Nat) : Int) = n := by
  have e : Lib.itoa n = Lib.decDigits n.toNat := by unfold Lib.itoa; rw [if_neg (by omega)]
  have h1 := dec_len n.toNat 7 (by decide) (by omega)
  have h2 : (Lib.decDigits n.toNat).all isDig = true := List.all_eq_true.2 fun b hb => by
    have := dec_digits n.toNat b hb
    simp only [isDig, digitM, Bool.and_eq_true, decide_eq_true_eq]; omega
  unfold digitsT
  rw [e, if_pos ⟨h2, h1⟩, dec_dg]; omega
theorem ref_print {p : Pol} (h : PolOK p) (hi : ∀ m ∈ p.marks, InM m.mask) : refParse (polPrint p) = (p, 0) := by
  have hl := lines_print (p := p) h.cats
  have hlen : (linesP p).length = p.marks.length + 4 := by simp [linesP, lnHead]
  have e0 : (linesP p).getD 0 [] = Lib.join (kwCats :: p.cats) [32] := by simp [linesP, lnHead]
  have ec : candC (linesP p) = p.cats := by unfold candC; rw [e0, behind_cats h.cats]
  have em : ((linesP p).drop 1).take ((linesP p).length - 4) = p.marks.map (lnMark p.cats) := by
    rw [hlen, Nat.add_sub_cancel]
    simp only [linesP, lnHead, List.cons_append, List.drop_succ_cons, List.drop_zero, List.append_assoc]
    rw [List.take_left' (by simp)]
  have e3 : (linesP p).getD ((linesP p).length - 3) [] = Lib.join [kwToken, quoteT p.token] [32] := by
    rw [hlen]; simp [linesP, lnHead, List.getD_eq_getElem?_getD, List.getElem?_append]
  have e2 : (linesP p).getD ((linesP p).length - 2) [] = Lib.join [kwFuel, Lib.itoa p.fuel] [32] := by
    rw [hlen]; simp [linesP, lnHead, List.getD_eq_getElem?_getD, List.getElem?_append]
  have e1 : (linesP p).getD ((linesP p).length - 1) [] = lnQuota p := by
    rw [hlen]; simp [linesP, lnHead, List.getD_eq_getElem?_getD, List.getElem?_append]
  have hm := cand_marks h.cats p.marks fun m hm => ⟨hi m hm, marks_may h.marks m hm⟩
  have eu := unquote_back p.token [] h.token.2 (by have := h.token.1; omega)
  rw [List.append_nil] at eu
  have ep : candP (linesP p) p.marks = p := by
    unfold candP
    rw [ec, e3, e2, e1]
    unfold lnQuota
    rw [behind_join, behind_join, behind_join, eu, digits_itoa h.fuel, digits_itoa h.quota]
  unfold refParse
  rw [hl, ec, if_neg (by simp only [not_or]; exact ⟨by omega, by simp [h.cats]⟩), em, hm]
  show finishP _ (candP (linesP p) p.marks) = _
  rw [ep]
  unfold finishP
  rw [if_neg (by simp [may_pol.2 h])]
theorem ref_ok (s : List UInt8) : refParse s = (pol0, 22) ∨ ∃ p, refParse s = (p, 0) ∧ PolOK p ∧ polPrint p = s ∧ ∀ m ∈ p.marks, InM m.mask := by
  unfold refParse
  split
  · exact .inl rfl
  · split
    · exact .inl rfl
    · rename_i ms hms
      unfold finishP
      split
      · exact .inl rfl
      · rename_i h
        simp only [not_or, Decidable.not_not] at h
        exact .inr ⟨_, rfl, may_pol.1 h.1, h.2, candMs_in _ _ hms⟩
/-- Both parsers come to the same. -/
theorem ref_parse (s : List UInt8) : refParse s = polParse s := by
  rcases ref_ok s with h | ⟨p, h1, h2, h3, h4⟩
  · rcases parse_ok (s := s) with ⟨g1, g2, g3⟩ | g
    · have := ref_print g2 (polParse_in s)
      rw [g3, h] at this
      have := congrArg Prod.snd this
      simp at this
    · rw [h, g]
  · have := parse_print h2 h4
    rw [h3] at this
    rw [h1, this]
end Go.Proofs.YtdjjmppnnkkloaaGreatDoor
