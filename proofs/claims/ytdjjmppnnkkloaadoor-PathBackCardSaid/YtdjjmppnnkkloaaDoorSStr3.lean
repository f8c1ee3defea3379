import Derived.Test.YtdjjmppnnkkloaaDoorSStr2
namespace Go.Proofs.YtdjjmppnnkkloaaDoor
open Sy Go
set_option maxRecDepth 100000
set_option linter.unusedSimpArgs false
set_option linter.unusedVariables false
variable {G : Glob}

def letters : List UInt8 := [97, 98, 99, 100, 101, 102, 103, 104, 105, 106, 107, 108, 109, 110, 111, 112, 113, 114, 115, 116, 117, 118, 119, 120, 121, 122]
def nameSet : List UInt8 := [97, 98, 99, 100, 101, 102, 103, 104, 105, 106, 107, 108, 109, 110, 111, 112, 113, 114, 115, 116, 117, 118, 119, 120, 121, 122, 48, 49, 50, 51, 52, 53, 54, 55, 56, 57, 95]
theorem dropWhile_nil {p : UInt8 → Bool} : ∀ {l : List UInt8}, l.dropWhile p = [] ↔ ∀ b ∈ l, p b = true
  | [] => by simp
  | a :: l => by
    have ih := dropWhile_nil (p := p) (l := l)
    cases h : p a with
    | true => simp [List.dropWhile_cons, h, ih]
    | false => simp [List.dropWhile_cons, h]
theorem dropWhile_head {p : UInt8 → Bool} : ∀ {l r : List UInt8} {c : UInt8}, l.dropWhile p = c :: r → p c = false
  | [], _, _, h => by simp at h
  | a :: l, r, c, h => by
    cases hp : p a with
    | true => simp [List.dropWhile_cons, hp] at h; exact dropWhile_head h
    | false => simp [List.dropWhile_cons, hp] at h; rw [← h.1]; exact hp
theorem trimM_nil (s cs : List UInt8) : trimM s cs = [] ↔ ∀ b ∈ s, asF cs b.toNat = true := by
  unfold trimM trimL
  rw [dropWhile_nil]
  unfold trimR
  constructor
  · intro h b hb
    have h2 : (s.reverse.dropWhile fun b => asF cs b.toNat) = [] := by
      cases hd : (s.reverse.dropWhile fun b => asF cs b.toNat) with
      | nil => rfl
      | cons c r =>
        have h3 := h c (by rw [hd]; simp)
        have h4 := dropWhile_head hd
        rw [h3] at h4; cases h4
    rw [dropWhile_nil] at h2
    exact h2 b (by simpa using hb)
  · intro h b hb
    simp only [List.mem_reverse] at hb
    exact h b (by simpa using List.Sublist.mem hb (List.dropWhile_sublist _))
theorem indexByte_mem (l : List UInt8) (c : UInt8) : 0 ≤ Lib.indexByte l c ↔ c ∈ l := by
  induction l with
  | nil => simp [Lib.indexByte]
  | cons b l ih =>
    have hge := Lib.indexByte_ge l c
    unfold Lib.indexByte
    by_cases h : b = c
    · subst h; simp
    · simp only [beq_iff_eq, h, if_false, List.mem_cons, Ne.symm h, false_or, ← ih]
      by_cases h2 : Lib.indexByte l c = -1
      · simp [h2]
      · simp only [h2, if_false]; omega
def mayNameM (s : List UInt8) : Bool := (s.all fun b => asF nameSet b.toNat) && (decide (s.length ≤ 24) && match s with
  | b :: _ => decide (b ∈ letters)
  | [] => false)
theorem MayName_ev (s : List UInt8) : AFn Tryd.prog G 23 [.str s] (.bool (mayNameM s)) := by
  refine AFn.intro tok Tryd.func23 (by kernel_rfl) rfl ?_
  simp only [Tryd.f23, St.start]
  have hT := Trim_ev (G := G) s nameSet (by decide) (by decide)
  refine AW.seqRun tok [] (by intro C; conv => lhs; simp) trivial ?_ -- r0 {}
  refine AW.seqRun tok [.tup [.str s, .str nameSet], .str (trimM s nameSet)] (by intro C; conv => lhs; simp) (by simpa [nameSet] using hT) ?_ -- r1 {t5:CALL call f44}
  have e1 : decide (trimM s nameSet = []) = s.all fun b => asF nameSet b.toNat := by
    rw [Bool.eq_iff_iff]; simp [trimM_nil]
  rcases s with _ | ⟨b, s⟩
  · refine AW.seqRun tok [.int .u8 0, .tup [.str letters, .int .u8 0], .int .i64 0] (by intro C; conv => lhs; simp) (by simp) ?_ -- r2
    exact AW.ret ⟨.inr rfl, _, _, by (conv => lhs; simp), trivial, by simp [mayNameM]⟩
  · refine AW.seqRun tok [.int .u8 b.toNat, .tup [.str letters, .int .u8 b.toNat], .int .i64 (Lib.indexByte letters b)] (by intro C; conv => lhs; simp) (by
      have := IndexByte_ev (G := G) letters b.toNat
      simp [letters] at this ⊢
      exact fun h1 h2 => ⟨⟨h1, h2⟩, this⟩) ?_ -- r2
    exact AW.ret ⟨.inr rfl, _, _, by (conv => lhs; simp), trivial, by simp [mayNameM, ← e1, indexByte_mem, Bool.and_assoc]; congr 2; exact decide_eq_decide.2 (by omega)⟩
end Go.Proofs.YtdjjmppnnkkloaaDoor
