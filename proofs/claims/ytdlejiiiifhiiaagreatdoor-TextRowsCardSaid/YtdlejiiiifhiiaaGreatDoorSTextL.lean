import Derived.Test.YtdlejiiiifhiiaaGreatDoorSTreeL2
import Derived.Test.YtdlejiiiifhiiaaGreatDoorK2
import Derived.Test.YtdlejiiiifhiiaaGreatDoorK1
/-
  PLAIN: how documents are read and printed.
-/
namespace Go.Proofs.YtdlejiiiifhiiaaGreatDoor
open Sy Go
set_option maxRecDepth 100000
set_option linter.unusedSimpArgs false
set_option linter.unusedVariables false
/-- A reader. -/
structure RS where
  left : List UInt8
  nodes : Nat
  bad : Bool
  deep : Bool
  big : Bool
  deriving DecidableEq
def dropR (st : RS) (k : Nat) : RS := { st with left := st.left.drop k }
def isBl (b : UInt8) : Bool := b == 32 || b == 9 || b == 13 || b == 10
def trimB (s : List UInt8) : List UInt8 := s.dropWhile isBl
def numl (b : UInt8) : Bool := isDig b || b == 45 || b == 43 || b == 46 || b == 101 || b == 69
def tk (w : List UInt8) (st : RS) : Bool × RS :=
  if w.isPrefixOf (trimB st.left) then (true, { st with left := (trimB st.left).drop w.length }) else (false, { st with left := trimB st.left })
def skipG : List UInt8 → Nat
  | [] => 0
  | b :: t => if b = 34 then 1 else if b = 92 then (match t with
    | [] => 1
    | _ :: u => 2 + skipG u) else 1 + skipG t
def skipL (s : List UInt8) : Nat := if s = [] then 0 else 1 + skipG (s.drop 1)
def quotedL (l : List UInt8) (st : RS) (u : List UInt8 × Nat × Int) : RS × List UInt8 :=
  if u.2.2 = 0 then ({ st with left := l.drop u.2.1 }, u.1) else if u.2.2 = 3 then ({ st with left := l.drop (skipL l), big := true }, u.1) else ({ st with left := l.drop u.2.1, bad := true }, u.1)
def quotedR (st : RS) : RS × List UInt8 := quotedL (trimB st.left) st (unquoteT (trimB st.left))
def numberR (st : RS) : RS × Val :=
  ({ st with left := st.left.dropWhile numl, big := st.big || decide ((ParseL (st.left.takeWhile numl)).2 = 3), bad := st.bad || decide ((ParseL (st.left.takeWhile numl)).2 = 4) }, .mk 4 0 (ParseL (st.left.takeWhile numl)).1 [] [] [] 0)
/-- Behind a part: whether that was the last one. -/
def sepR (c : UInt8) (many : Nat) (st : RS) : Bool × RS :=
  let st1 : RS := { st with big := st.big || decide (200 < many) }
  if st1.bad = true then (true, st1) else
  let a := tk [c] st1
  if a.1 = true then (true, a.2) else let b := tk [44] a.2
    (false, { b.2 with bad := !b.1 })
def putM (ks : List (List UInt8)) (vs : List Val) (key : List UInt8) (v : Val) : List (List UInt8) × List Val := if key ∈ ks then (ks, vs.set (ks.idxOf key) v) else (ks ++ [key], vs ++ [v])
def colonR (st : RS) : RS := if st.bad = true then st else { (tk [58] st).2 with bad := !(tk [58] st).1 }
def wNull : List UInt8 := [110, 117, 108, 108]
def wTrue : List UInt8 := [116, 114, 117, 101]
def wFalse : List UInt8 := [102, 97, 108, 115, 101]
def enterR (st : RS) (d : Nat) : RS := ⟨trimB st.left, st.nodes + 1, st.bad, st.deep || decide (12 < d), st.big || decide (400 < st.nodes + 1)⟩
def atomR (st : RS) : RS × Val :=
  if wNull.isPrefixOf st.left then (dropR st 4, .mk 1 0 dc0 [] [] [] 0)
  else if wTrue.isPrefixOf st.left then (dropR st 4, .mk 3 0 dc0 [] [] [] 0)
  else if wFalse.isPrefixOf st.left then (dropR st 5, .mk 2 0 dc0 [] [] [] 0)
  else if ([34] : List UInt8).isPrefixOf st.left then ((quotedR st).1, .mk 5 0 dc0 (quotedR st).2 [] [] 0)
  else if st.left ≠ [] ∧ (byteAt st.left 0 = 45 ∨ digitM (byteAt st.left 0) = true) then numberR st
  else ({ st with bad := true }, zeroV)
mutual
/-- The value that stands there, so deep. -/
def valR : Nat → RS → Nat → RS × Val
  | 0, st, _ => ({ st with bad := true }, zeroV)
  | n + 1, st, d =>
    if ([91] : List UInt8).isPrefixOf (enterR st d).left then
      (let a := tk [93] (dropR (enterR st d) 1)
       let r := if a.1 = true then (a.2, []) else lstR n a.2 (d + 1) 1 []
       (r.1, .mk 6 0 dc0 [] [] r.2 0))
    else if ([123] : List UInt8).isPrefixOf (enterR st d).left then
      (let a := tk [125] (dropR (enterR st d) 1)
       let r := if a.1 = true then (a.2, [], []) else objR n a.2 (d + 1) 1 [] []
       (r.1, .mk 7 0 dc0 [] r.2.1 r.2.2 0))
    else atomR (enterR st d)
def lstR : Nat → RS → Nat → Nat → List Val → RS × List Val
  | 0, st, _, _, vs => ({ st with bad := true }, vs)
  | n + 1, st, d, many, vs =>
    if st.bad = true then (st, vs) else
    let a := valR n st d
    let b := sepR 93 many a.1
    if b.1 = true then (b.2, vs ++ [a.2]) else lstR n b.2 d (many + 1) (vs ++ [a.2])
def objR : Nat → RS → Nat → Nat → List (List UInt8) → List Val → RS × List (List UInt8) × List Val
  | 0, st, _, _, ks, vs => ({ st with bad := true }, ks, vs)
  | n + 1, st, d, many, ks, vs =>
    if st.bad = true then (st, ks, vs) else
    let q := quotedR st
    let c := colonR q.1
    let a := if c.bad = true then (c, ks, vs) else let v := valR n c d
      (v.1, putM ks vs q.2 v.2)
    let b := sepR 125 many a.1
    if b.1 = true then (b.2, a.2) else objR n b.2 d (many + 1) a.2.1 a.2.2
end
/-- A document. -/
def oneM (s : List UInt8) : Val × Int × Int :=
  let r := valR (2 * s.length + 2) ⟨s, 0, false, false, false⟩ 1
  if r.1.bad = true then (zeroV, 0, 10) else if r.1.deep = true then (zeroV, 0, 11) else if r.1.big = true then (zeroV, 0, 3) else (r.2, (s.length : Int) - r.1.left.length, 0)

/-! ### What is left grows less -/
theorem trimB_le (s : List UInt8) : (trimB s).length ≤ s.length := (List.dropWhile_sublist _).length_le
theorem tk_le (w : List UInt8) (st : RS) : (tk w st).2.left.length ≤ st.left.length ∧ ((tk w st).1 = true → (tk w st).2.left.length + w.length ≤ st.left.length) := by
  have h := trimB_le st.left
  unfold tk
  split
  · rename_i hp
    have := (List.isPrefixOf_iff_prefix.1 hp).length_le
    simp only [List.length_drop]
    exact ⟨by omega, fun _ => by omega⟩
  · exact ⟨h, fun h => by cases h⟩
@[simp] theorem tk_bad (w : List UInt8) (st : RS) : (tk w st).2.bad = st.bad := by unfold tk; split <;> rfl
@[simp] theorem tk_nodes (w : List UInt8) (st : RS) : (tk w st).2.nodes = st.nodes := by unfold tk; split <;> rfl
@[simp] theorem tk_deep (w : List UInt8) (st : RS) : (tk w st).2.deep = st.deep := by unfold tk; split <;> rfl
@[simp] theorem tk_big (w : List UInt8) (st : RS) : (tk w st).2.big = st.big := by unfold tk; split <;> rfl
theorem quoted_le (st : RS) : (quotedR st).1.left.length ≤ st.left.length := by
  have h := trimB_le st.left
  unfold quotedR quotedL
  split
  · simp only [List.length_drop]; omega
  · split <;> (simp only [List.length_drop]; omega)
theorem sep_le (c : UInt8) (many : Nat) (st : RS) : (sepR c many st).2.left.length ≤ st.left.length := by
  unfold sepR
  simp only
  split
  · exact Nat.le_refl _
  · split
    · exact (tk_le _ _).1
    · exact Nat.le_trans (tk_le _ _).1 (tk_le _ _).1
theorem colon_le (st : RS) : (colonR st).left.length ≤ st.left.length := by
  unfold colonR; split
  · exact Nat.le_refl _
  · exact (tk_le _ _).1
theorem enter_le (st : RS) (d : Nat) : (enterR st d).left.length ≤ st.left.length := trimB_le _
theorem dropWhile_le (p : UInt8 → Bool) (l : List UInt8) : (l.dropWhile p).length ≤ l.length := (List.dropWhile_sublist _).length_le
theorem unqG_pos : ∀ (f : Nat) (s : List UInt8) (k : Nat) (out : List UInt8), (unqG f s k out).2.2 = 0 → k + 1 ≤ (unqG f s k out).2.1
  | 0, s, k, out, h => by simp [unqG] at h
  | f + 1, s, k, out, h => by
    simp only [unqG] at h ⊢
    split at h
    · simp at h
    · rename_i h1
      rw [if_neg h1]
      split at h
      · rename_i h2
        rw [if_pos h2]
        split at h
        · simp at h
        · rename_i h3; rw [if_neg h3]; exact Nat.le_refl _
      · rename_i h2
        rw [if_neg h2]
        split at h
        · simp at h
        · rename_i h3
          rw [if_neg h3]
          split at h
          · rename_i h4
            rw [if_pos h4]
            cases he : escL s with
            | none => rw [he] at h; simp at h
            | some cn =>
              obtain ⟨c, n⟩ := cn
              rw [he] at h
              simp only at h ⊢
              have := unqG_pos f _ _ _ h
              omega
          · rename_i h4
            rw [if_neg h4]
            have := unqG_pos f _ _ _ h
            omega
theorem quoted_lt {st : RS} (h : ([34] : List UInt8).isPrefixOf (trimB st.left) = true) : (quotedR st).1.bad = false → (quotedR st).1.left.length < st.left.length := by
  have h1 := trimB_le st.left
  obtain ⟨t, ht⟩ := List.isPrefixOf_iff_prefix.1 h
  unfold quotedR quotedL
  generalize trimB st.left = l at *
  subst ht
  have hu : unquoteT ([34] ++ t) = unqG (t.length + 1) t 1 [] := by
    unfold unquoteT
    simp
  rw [hu]
  split
  · rename_i h0
    intro _
    have := unqG_pos _ _ _ _ h0
    simp only [List.length_drop]
    simp at h1 ⊢; omega
  · split
    · intro _
      simp only [List.length_drop, skipL]
      simp at h1 ⊢; omega
    · intro hb; simp at hb
theorem parse_nil : (ParseL []).2 = 4 := by decide +kernel
theorem number_lt {st : RS} (h : (numberR st).1.bad = false) : (numberR st).1.left.length < st.left.length := by
  unfold numberR at h ⊢
  simp only [Bool.or_eq_false_iff, decide_eq_false_iff_not] at h
  have hs := List.takeWhile_append_dropWhile (p := numl) (l := st.left)
  generalize hA : st.left.takeWhile numl = A at *
  simp only
  have hl := congrArg List.length hs
  rw [List.length_append] at hl
  have : A ≠ [] := by rintro rfl; exact h.2 parse_nil
  have := List.length_pos_iff.2 this
  omega
theorem trimB_trim (s : List UInt8) : trimB (trimB s) = trimB s := by
  unfold trimB
  induction s with
  | nil => rfl
  | cons b s ih =>
    rw [List.dropWhile_cons]
    split
    · exact ih
    · rename_i h; rw [List.dropWhile_cons, if_neg h]
theorem prefix_len {w l : List UInt8} (h : w.isPrefixOf l = true) : w.length ≤ l.length := (List.isPrefixOf_iff_prefix.1 h).length_le
theorem atom_lt (st : RS) (ht : trimB st.left = st.left) : (atomR st).1.left.length ≤ st.left.length ∧ ((atomR st).1.bad = false → (atomR st).1.left.length < st.left.length) := by
  unfold atomR
  split
  · rename_i h; have := prefix_len h; simp [wNull, dropR] at this ⊢; omega
  · split
    · rename_i h; have := prefix_len h; simp [wTrue, dropR] at this ⊢; omega
    · split
      · rename_i h; have := prefix_len h; simp [wFalse, dropR] at this ⊢; omega
      · split
        · rename_i h; exact ⟨quoted_le st, quoted_lt (by rw [ht]; exact h)⟩
        · split
          · exact ⟨dropWhile_le _ _, number_lt⟩
          · exact ⟨Nat.le_refl _, fun h => by simp at h⟩
theorem lens : ∀ n : Nat, (∀ st d, (valR n st d).1.left.length ≤ st.left.length ∧ ((valR n st d).1.bad = false → (valR n st d).1.left.length < st.left.length)) ∧
    (∀ st d many vs, (lstR n st d many vs).1.left.length ≤ st.left.length) ∧ (∀ st d many ks vs, (objR n st d many ks vs).1.left.length ≤ st.left.length)
  | 0 => ⟨fun st d => ⟨by simp [valR], fun h => by simp [valR] at h⟩, fun st d many vs => by simp [lstR], fun st d many ks vs => by simp [objR]⟩
  | n + 1 => by
    obtain ⟨ih1, ih2, ih3⟩ := lens n
    refine ⟨fun st d => ?_, fun st d many vs => ?_, fun st d many ks vs => ?_⟩
    · have he := enter_le st d
      have ht : trimB (enterR st d).left = (enterR st d).left := trimB_trim _
      simp only [valR]
      split
      · rename_i h
        have h1 := prefix_len h
        have h2 := tk_le [93] (dropR (enterR st d) 1)
        simp only [dropR, List.length_drop, List.length_cons, List.length_nil] at h1 h2
        split
        · simp only [dropR]; exact ⟨by omega, fun _ => by omega⟩
        · have h3 := ih2 (tk [93] (dropR (enterR st d) 1)).2 (d + 1) 1 []
          simp only [dropR] at h3 ⊢
          exact ⟨by omega, fun _ => by omega⟩
      · split
        · rename_i h
          have h1 := prefix_len h
          have h2 := tk_le [125] (dropR (enterR st d) 1)
          simp only [dropR, List.length_drop, List.length_cons, List.length_nil] at h1 h2
          split
          · simp only [dropR]; exact ⟨by omega, fun _ => by omega⟩
          · have h3 := ih3 (tk [125] (dropR (enterR st d) 1)).2 (d + 1) 1 [] []
            simp only [dropR] at h3 ⊢
            exact ⟨by omega, fun _ => by omega⟩
        · have h1 := atom_lt (enterR st d) ht
          exact ⟨by omega, fun hb => by have := h1.2 hb; omega⟩
    · simp only [lstR]
      split
      · exact Nat.le_refl _
      · have h1 := (ih1 st d).1
        have h2 := sep_le 93 many (valR n st d).1
        split
        · simp only; omega
        · have := ih2 (sepR 93 many (valR n st d).1).2 d (many + 1) (vs ++ [(valR n st d).2]); omega
    · simp only [objR]
      split
      · exact Nat.le_refl _
      · have h1 := quoted_le st
        have h2 := colon_le (quotedR st).1
        have h3 := (ih1 (colonR (quotedR st).1) d).1
        generalize hA : (if (colonR (quotedR st).1).bad = true then (colonR (quotedR st).1, ks, vs) else ((valR n (colonR (quotedR st).1) d).1, putM ks vs (quotedR st).2 (valR n (colonR (quotedR st).1) d).2)) = A
        have h4 : A.1.left.length ≤ st.left.length := by
          rw [← hA]; split
          · simp only; omega
          · simp only; omega
        have h5 := sep_le 125 many A.1
        split
        · simp only; omega
        · have := ih3 (sepR 125 many A.1).2 d (many + 1) A.2.1 A.2.2; omega
end Go.Proofs.YtdlejiiiifhiiaaGreatDoor
