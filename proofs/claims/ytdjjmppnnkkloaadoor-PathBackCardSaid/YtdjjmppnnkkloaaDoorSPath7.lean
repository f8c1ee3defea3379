import Derived.Test.YtdjjmppnnkkloaaDoorSPath6
namespace Go.Proofs.YtdjjmppnnkkloaaDoor
open Sy Go
set_option maxRecDepth 100000
set_option linter.unusedSimpArgs false
set_option linter.unusedVariables false
variable {G : Glob}

def nameLen : List UInt8 → List UInt8
  | [] => []
  | c :: r => if mayNameM [97, c] then c :: nameLen r else []
def guessM (s : List UInt8) : Step :=
  if hasPre s [42, 42] then ⟨5, [], 0⟩ else if hasPre s [46, 42] then ⟨3, [], 0⟩ else if hasPre s [91, 42] then ⟨4, [], 0⟩
  else if hasPre s [46] then ⟨1, nameLen s.tail, 0⟩ else ⟨0, [], 0⟩
theorem hasPre_mono (s : List UInt8) (a b : UInt8) (h : hasPre s [a, b] = true) : hasPre s [a] = true := by
  simp only [hasPre, Bool.and_eq_true, decide_eq_true_eq, List.length_cons, List.length_nil] at h ⊢
  obtain ⟨h1, h2⟩ := h
  refine ⟨by omega, ?_⟩
  have := congrArg (List.take 1) h2
  simpa [List.take_take] using this
theorem nameLen_le : ∀ r : List UInt8, (nameLen r).length ≤ r.length
  | [] => by simp [nameLen]
  | c :: r => by
    have := nameLen_le r
    simp only [nameLen]; split <;> simp <;> omega
theorem nameLen_take : ∀ r : List UInt8, r.take (nameLen r).length = nameLen r
  | [] => by simp [nameLen]
  | c :: r => by
    have := nameLen_take r
    simp only [nameLen]; split <;> simp [this]
theorem nameLen_go : ∀ (r : List UInt8) (n : Nat) (c : UInt8), n ≤ (nameLen r).length → r[n]? = some c → (mayNameM [97, c] = true ↔ n < (nameLen r).length)
  | [], n, c, h, hc => by simp at hc
  | d :: r, 0, c, h, hc => by
    simp at hc; subst hc
    simp only [nameLen]; split
    · rename_i hm; simp [hm]
    · rename_i hm; simp [hm]
  | d :: r, n + 1, c, h, hc => by
    simp at hc
    simp only [nameLen] at h ⊢
    split at h
    · rename_i hm
      rw [if_pos hm]
      have := nameLen_go r n c (by simpa using h) hc
      simpa using this
    · simp at h

theorem drop_take1 {l : List UInt8} {k : Nat} {x : UInt8} (h : l[k]? = some x) : (l.take (k + 1)).drop k = [x] := by
  have hk : (l.take k).length = k := by
    have := (List.getElem?_eq_some_iff.1 h).1
    simp; omega
  rw [List.take_add_one, h]
  exact List.drop_left' hk
theorem nameLen_key {r : List UInt8} {n : Nat} (b : UInt8) (h : n = (nameLen r).length) : List.drop 1 (List.take (n + 1) (b :: r)) = nameLen r := by
  subst h; simp [nameLen_take]

def gS (s : List UInt8) (n : Nat) : St := ⟨[.p (.str s), .dead, .ptr 2 0, .dead, .dead, .dead, .dead, .dead, .p (.int .i64 (n + 1))] ++ List.replicate 82 .dead, [], [(2, .vars 33 [.p (.int .i64 0), .p (.str []), .p (.int .i64 0)])], 0⟩
/-- The step that a text may begin with, where it is not a quoted key, nor a number. -/
theorem guess_ev (s : List UInt8) (hq : hasPre s [91] = true → hasPre s [91, 42] = true) : AFn Tryd.prog G 15 [.str s] (guessM s).enc := by
  refine AFn.intro tok Tryd.func15 (by kernel_rfl) rfl ?_
  simp only [Tryd.f15, St.start]
  refine AW.strFact (i := 0) rfl ?_
  intro hlen
  refine AW.seqRun tok [] (by intro C; conv => lhs; simp) (by simp) ?_ -- r0
  refine AW.seq ?_
  refine AW.block ?_
  refine AW.seqRun tok [.tup [.str s, .str [42, 42]], .bool (hasPre s [42, 42])] (by intro C; conv => lhs; simp) (by simp) ?_ -- r1
  refine AW.cond (c := .tmp 9) (by conv => lhs; simp) trivial ?_ ?_
  · intro h1
    refine AW.seqRun tok [] (by intro C; conv => lhs; simp) (by simp) ?_ -- r2
    exact AW.ret ⟨.inr rfl, _, _, by (conv => lhs; simp), trivial, by simp [guessM, h1]⟩
  · intro h1
    refine AW.seqRun tok [.tup [.str s, .str [46, 42]], .bool (hasPre s [46, 42])] (by intro C; conv => lhs; simp) (by simp) ?_ -- r3
    refine AW.cond (c := .tmp 13) (by conv => lhs; simp) trivial ?_ ?_
    · intro h2
      refine AW.seqRun tok [] (by intro C; conv => lhs; simp) (by simp) ?_ -- r4
      exact AW.ret ⟨.inr rfl, _, _, by (conv => lhs; simp), trivial, by simp [guessM, h1, h2]⟩
    · intro h2
      refine AW.seqRun tok [.tup [.str s, .str [91, 42]], .bool (hasPre s [91, 42])] (by intro C; conv => lhs; simp) (by simp) ?_ -- r5
      refine AW.cond (c := .tmp 17) (by conv => lhs; simp) trivial ?_ ?_
      · intro h3
        refine AW.seqRun tok [] (by intro C; conv => lhs; simp) (by simp) ?_ -- r6
        exact AW.ret ⟨.inr rfl, _, _, by (conv => lhs; simp), trivial, by simp [guessM, h1, h2, h3]⟩
      · intro h3
        have h91 : ¬ hasPre s [91] = true := fun h => by rw [hq h] at h3; cases h3
        refine AW.seqRun tok [.tup [.str s, .str [91, 34]], .bool (hasPre s [91, 34])] (by intro C; conv => lhs; simp) (by simp) ?_ -- r7
        refine AW.cond (c := .tmp 21) (by conv => lhs; simp) trivial ?_ ?_
        · intro h4; exact (h91 (hasPre_mono s _ _ h4)).elim
        · intro h4
          refine AW.seqRun tok [.tup [.str s, .str [91]], .bool (hasPre s [91])] (by intro C; conv => lhs; simp) (by simp) ?_ -- r10
          refine AW.cond (c := .tmp 33) (by conv => lhs; simp) trivial ?_ ?_
          · intro h5; exact (h91 h5).elim
          · intro h5
            refine AW.seqRun tok [.tup [.str s, .str [46]], .bool (hasPre s [46])] (by intro C; conv => lhs; simp) (by simp) ?_ -- r17
            refine AW.cond (c := .tmp 68) (by conv => lhs; simp) trivial ?_ ?_
            · intro h6
              obtain ⟨b, r, rfl⟩ : ∃ b r, s = b :: r := by
                cases s with
                | nil => simp [hasPre] at h6
                | cons b r => exact ⟨b, r, rfl⟩
              have hnl := nameLen_le r
              simp only [List.length_cons] at hlen
              refine AW.seqRun tok [] (by intro C; conv => lhs; simp) trivial ?_ -- r18
              refine AW.seq ?_
              refine AW.block ?_
              -- LOOP
              refine AW.loop (α := Nat) (fun n => n ≤ (nameLen r).length) (fun n => gS (b :: r) n) (fun n => r.length - n) 0 (by omega) ⟨by simp [gS], rfl, by simp [gS], by simp [gS]⟩ ?_
              intro n hn
              simp only [gS]
              refine AW.seq ?_
              by_cases hnr : n < r.length
              · obtain ⟨c, hc⟩ : ∃ c, r[n]? = some c := ⟨r[n], by simp [hnr]⟩
                have hgo := nameLen_go r n c hn hc
                have hM := MayName_ev (G := G) [97, c]
                have hsl := drop_take1 (l := b :: r) (k := n + 1) (x := c) (by simpa using hc)
                refine AW.seqRun tok [.tup [.str [97, c]], .bool (mayNameM [97, c])] (by intro C; conv => lhs; simp)
                  (by simp [hnr]; exact ⟨⟨by omega, by omega⟩, ⟨by omega, by omega, by omega⟩, by omega, by rw [show ((n : Int) + 1 + 1).toNat = n + 1 + 1 by omega]; exact hsl, hM⟩) ?_ -- r19
                refine AW.cond (c := .tmp 83) (by conv => lhs; simp) trivial ?_ ?_
                · intro h7
                  simp at h7
                  have h8 := hgo.1 h7.2
                  refine AW.skip ?_
                  refine AW.block ?_
                  refine AW.run tok [] (by intro C; conv => lhs; simp) (by omega) ?_ -- r20 {}
                  exact ⟨n + 1, by omega, by omega, by simp [gS], rfl, by simp [gS], by simp [gS]⟩ -- END OF ROUND
                · intro h7
                  simp [hnr] at h7
                  have h8 : n = (nameLen r).length := by
                    have : ¬ n < (nameLen r).length := fun h => by rw [hgo.2 h] at h7; cases h7
                    omega
                  refine AW.exit ?_ -- exit 3
                  simp
                  refine AW.seqRun tok [] (by intro C; conv => lhs; simp) (by omega) ?_ -- r21
                  exact AW.ret ⟨.inr rfl, _, _, by (conv => lhs; simp), trivial, by simp [guessM, h1, h2, h3, h6, nameLen_key b h8, nameLen_take, h8]⟩
              · have h8 : n = (nameLen r).length := by omega
                have h9 : n = r.length := by omega
                refine AW.seqRun tok [.tup [.str []], .bool false] (by intro C; conv => lhs; simp) (by simp [hnr]; omega) ?_ -- r19
                refine AW.cond (c := .tmp 83) (by conv => lhs; simp) trivial ?_ ?_
                · intro h7
                  simp at h7
                · intro h7
                  refine AW.exit ?_ -- exit 3
                  simp
                  refine AW.seqRun tok [] (by intro C; conv => lhs; simp) (by omega) ?_ -- r21
                  exact AW.ret ⟨.inr rfl, _, _, by (conv => lhs; simp), trivial, by simp [guessM, h1, h2, h3, h6, nameLen_key b h8, nameLen_take, h8]⟩
            · intro h6
              refine AW.skip ?_
              refine AW.seqRun tok [] (by intro C; conv => lhs; simp) (by simp) ?_ -- r22
              exact AW.ret ⟨.inr rfl, _, _, by (conv => lhs; simp), trivial, by simp [guessM, h1, h2, h3, h6]⟩
end Go.Proofs.YtdjjmppnnkkloaaDoor
