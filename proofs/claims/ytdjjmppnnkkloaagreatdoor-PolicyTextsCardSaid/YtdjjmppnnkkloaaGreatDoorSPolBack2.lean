import Derived.Test.YtdjjmppnnkkloaaGreatDoorSPolBackL
/-
  PLAIN LAWS: a policy that was printed is parsed as it was; a text that is cut is none.
-/
namespace Go.Proofs.YtdjjmppnnkkloaaGreatDoor
open Sy Go
set_option maxRecDepth 100000
set_option linter.unusedSimpArgs false
set_option linter.unusedVariables false
def lnMark (cats : List (List UInt8)) (m : Mk) : List UInt8 := Lib.join [kwMark, namesT cats m.mask, printS m.path] [32]
def lnHead (p : Pol) : List (List UInt8) := Lib.join (kwCats :: p.cats) [32] :: (p.marks.map (lnMark p.cats) ++ [Lib.join [kwToken, quoteT p.token] [32], Lib.join [kwFuel, Lib.itoa p.fuel] [32]])
def lnQuota (p : Pol) : List UInt8 := Lib.join [kwQuota, Lib.itoa p.quota] [32]
/-- The lines of a policy. -/
def linesP (p : Pol) : List (List UInt8) := lnHead p ++ [lnQuota p]
theorem print_lines (p : Pol) : polPrint p = (linesP p).flatMap (· ++ [10]) := by
  have e : ∀ l : List Mk, l.flatMap (markT p.cats) = (l.map (lnMark p.cats)).flatMap (· ++ [10]) := fun l => by
    rw [List.flatMap_map]; rfl
  simp only [polPrint, headT, List.take_length, e, linesP, lnHead, lnQuota, rowT, List.flatMap_append, List.flatMap_cons, List.flatMap_nil, List.append_nil, List.append_assoc, List.cons_append, List.nil_append]
theorem cats_clean {cats : List (List UInt8)} (h : catsMayM cats = 0) : ∀ c ∈ cats, c ≠ [] ∧ 32 ∉ c ∧ 10 ∉ c ∧ 36 ∉ c := fun c hc => name_clean (List.all_eq_true.1 (may_cats h).2.2 c hc)
theorem names_no {cats : List (List UInt8)} (h : catsMayM cats = 0) {c : UInt8} (hc : c = 10 ∨ c = 36) (m : Int) : c ∉ namesT cats m := by
  refine join_mem (by rcases hc with rfl | rfl <;> decide) _ fun w hw => ?_
  have := cats_clean h w (pick_sub hw)
  rcases hc with rfl | rfl
  · exact this.2.2.1
  · exact this.2.2.2
theorem lines_clean {p : Pol} (h : catsMayM p.cats = 0) : ∀ l ∈ linesP p, 10 ∉ l := by
  intro l hl
  have k1 : (10 : UInt8) ∉ kwCats ∧ (10 : UInt8) ∉ kwMark ∧ (10 : UInt8) ∉ kwToken ∧ (10 : UInt8) ∉ kwFuel ∧ (10 : UInt8) ∉ kwQuota := by decide
  simp only [linesP, lnHead, lnQuota, List.cons_append, List.mem_cons, List.mem_append, List.mem_map, List.not_mem_nil, or_false, false_or, List.append_assoc] at hl
  rcases hl with rfl | ⟨m, _, rfl⟩ | rfl | rfl | rfl
  · refine join_mem (by decide) _ fun w hw => ?_
    rcases List.mem_cons.1 hw with rfl | hw
    · exact k1.1
    · exact (cats_clean h w hw).2.2.1
  · refine join_mem (by decide) _ fun w hw => ?_
    simp only [List.mem_cons, List.not_mem_nil, or_false] at hw
    rcases hw with rfl | rfl | rfl
    · exact k1.2.1
    · exact names_no h (.inl rfl) _
    · exact path_clean _
  all_goals
    refine join_mem (by decide) _ fun w hw => ?_
    simp only [List.mem_cons, List.not_mem_nil, or_false] at hw
    rcases hw with rfl | rfl
  · exact k1.2.2.1
  · exact quote_clean _
  · exact k1.2.2.2.1
  · exact itoa_clean _
  · exact k1.2.2.2.2
  · exact itoa_clean _
/-! ### Each line is read as it was -/
theorem line_catsT (p : Pol) {cats : List (List UInt8)} (h : catsMayM cats = 0) : lineM p (Lib.join (kwCats :: cats) [32]) = ({ p with cats := cats }, true) := by
  have hk : (32 : UInt8) ∉ kwCats := by decide
  have hc := cats_clean h
  have key : ∃ rest f, cutB 32 (Lib.join (kwCats :: cats) [32]) = (kwCats, rest, f) ∧ (splitB 32 rest).filter (fun x => !decide (x = [])) = cats := by
    cases cats with
    | nil => exact ⟨[], false, by rw [Lib.join_one, cutB_no hk], by decide⟩
    | cons c r =>
      refine ⟨Lib.join (c :: r) [32], true, by rw [join_two, cutB_at hk], ?_⟩
      rw [(split_join (c :: r) [] (fun w hw => (hc w hw).2.1) (by simp)).2, List.filter_eq_self]
      intro w hw
      simp [(hc w hw).1]
  obtain ⟨rest, f, e1, e2⟩ := key
  unfold lineM
  simp only [e1, if_true, e2, h, decide_true]
theorem line_markT (p : Pol) (h : catsMayM p.cats = 0) {m : Mk} (hm : InM m.mask) (hl : mayL m.path = 0) (hb : badM p.cats.length m.mask = false) : lineM p (lnMark p.cats m) = ({ p with marks := p.marks ++ [m] }, true) := by
  have hk : (32 : UInt8) ∉ kwMark := by decide
  have e1 : cutB 32 (lnMark p.cats m) = (kwMark, namesT p.cats m.mask ++ 32 :: printS m.path, true) := by
    unfold lnMark
    rw [join_two, join_two, Lib.join_one, cutB_at hk]
  have e2 : cutB 36 (namesT p.cats m.mask ++ 32 :: printS m.path) = (namesT p.cats m.mask ++ [32], m.path.flatMap writtenT, true) := by
    have : namesT p.cats m.mask ++ 32 :: printS m.path = (namesT p.cats m.mask ++ [32]) ++ 36 :: m.path.flatMap writtenT := by simp [printS]
    rw [this, cutB_at]
    simp only [List.mem_append, List.mem_cons, List.not_mem_nil, or_false, not_or]
    exact ⟨names_no h (.inr rfl) _, by decide⟩
  have hz := may_zeroL hl
  have e3 : parseT (36 :: m.path.flatMap writtenT) = (m.path, 0) := printS_parse hz.1 hz.2
  have e4 := mask_names h hm hb
  unfold lineM
  simp only [e1, e2, e3, e4]
  rw [if_neg (by decide), if_pos trivial]
  rfl
theorem line_tokenT (p : Pol) {t : List UInt8} (h : t.length ≤ 24 ∧ Lib.validD t = true) : lineM p (Lib.join [kwToken, quoteT t] [32]) = ({ p with token := t }, true) := by
  have e1 : cutB 32 (Lib.join [kwToken, quoteT t] [32]) = (kwToken, quoteT t, true) := by rw [join_two, Lib.join_one, cutB_at (by decide)]
  have e2 := unquote_back t [] h.2 (by omega)
  rw [List.append_nil] at e2
  unfold lineM
  simp only [e1, e2]
  rw [if_neg (by decide), if_neg (by decide), if_pos trivial]
  rfl
theorem line_fuelT (p : Pol) {n : Int} (h : 1 ≤ n ∧ n ≤ 100000) : lineM p (Lib.join [kwFuel, Lib.itoa n] [32]) = ({ p with fuel := n }, true) := by
  have e1 : cutB 32 (Lib.join [kwFuel, Lib.itoa n] [32]) = (kwFuel, Lib.itoa n, true) := by rw [join_two, Lib.join_one, cutB_at (by decide)]
  unfold lineM
  simp only [e1, number_itoa h]
  rw [if_neg (by decide), if_neg (by decide), if_neg (by decide), if_pos trivial]
theorem line_quotaT (p : Pol) {n : Int} (h : 1 ≤ n ∧ n ≤ 100000) : lineM p (Lib.join [kwQuota, Lib.itoa n] [32]) = ({ p with quota := n }, true) := by
  have e1 : cutB 32 (Lib.join [kwQuota, Lib.itoa n] [32]) = (kwQuota, Lib.itoa n, true) := by rw [join_two, Lib.join_one, cutB_at (by decide)]
  unfold lineM
  simp only [e1, number_itoa h]
  rw [if_neg (by decide), if_neg (by decide), if_neg (by decide), if_neg (by decide), if_pos trivial]
theorem fold_marks {cats : List (List UInt8)} (h : catsMayM cats = 0) : ∀ (ms : List Mk) (p : Pol), p.cats = cats → (∀ m ∈ ms, InM m.mask ∧ mayL m.path = 0 ∧ badM cats.length m.mask = false) → (ms.map (lnMark cats)).foldl stepP (p, true) = ({ p with marks := p.marks ++ ms }, true)
  | [], p, _, _ => by simp
  | m :: ms, p, hp, hm => by
    subst hp
    obtain ⟨h1, h2, h3⟩ := hm m (by simp)
    have e : stepP (p, true) (lnMark p.cats m) = ({ p with marks := p.marks ++ [m] }, true) := by
      simp only [stepP, if_true]; exact line_markT p h h1 h2 h3
    rw [List.map_cons, List.foldl_cons, e]
    have ih := fold_marks h ms { p with marks := p.marks ++ [m] } rfl fun x hx => hm x (by simp [hx])
    rw [ih]; simp
/-- What was printed is parsed as it was. -/
theorem read_print {p : Pol} (h : PolOK p) (hi : ∀ m ∈ p.marks, InM m.mask) : readP (polPrint p) = (p, true) := by
  unfold readP
  rw [print_lines, split_cut _ (by simp [linesP]) (lines_clean h.cats)]
  have hm : ∀ m ∈ p.marks, InM m.mask ∧ mayL m.path = 0 ∧ badM p.cats.length m.mask = false := fun m hm => ⟨hi m hm, marks_may h.marks m hm⟩
  unfold linesP lnHead
  simp only [List.cons_append, List.foldl_cons, List.foldl_append, List.foldl_nil, List.append_assoc]
  have e0 : stepP (pol0, true) (Lib.join (kwCats :: p.cats) [32]) = ((⟨p.cats, [], [], 0, 0⟩ : Pol), true) := by simp only [stepP, if_true]; exact line_catsT pol0 h.cats
  rw [e0, fold_marks h.cats p.marks ⟨p.cats, [], [], 0, 0⟩ rfl hm]
  simp only [stepP, if_true]
  rw [line_tokenT _ h.token]
  simp only [if_true]
  rw [line_fuelT _ h.fuel]
  simp only [if_true]
  unfold lnQuota
  rw [line_quotaT _ h.quota]
  simp
theorem parse_print {p : Pol} (h : PolOK p) (hi : ∀ m ∈ p.marks, InM m.mask) : polParse (polPrint p) = (p, 0) := by
  unfold polParse
  rw [read_print h hi]
  exact if_pos ⟨rfl, may_pol.2 h, rfl⟩
/-- What is parsed may be, and is printed so. -/
theorem parse_ok {s : List UInt8} : ((polParse s).2 = 0 ∧ PolOK (polParse s).1 ∧ polPrint (polParse s).1 = s) ∨ polParse s = (pol0, 22) := by
  unfold polParse
  by_cases h : (readP s).2 = true ∧ polMay (readP s).1 = 0 ∧ polPrint (readP s).1 = s
  · rw [if_pos h]; exact .inl ⟨rfl, may_pol.1 h.2.1, h.2.2⟩
  · rw [if_neg h]; exact .inr rfl
/-! ### A text that is cut -/
theorem head_join (x : List UInt8) (r : List (List UInt8)) (hx : x ≠ []) : (Lib.join (x :: r) [32]).head? = x.head? := by
  rw [Lib.join_cons]
  cases x with
  | nil => exact absurd rfl hx
  | cons b x => rfl
def notQ (l : List UInt8) : Bool := decide (l.head? ≠ some 113)
theorem drop_quota (p : Pol) (X : List (List UInt8)) : (linesP p ++ X).dropWhile notQ = lnQuota p :: X := by
  have h1 : ∀ l ∈ lnHead p, notQ l = true := by
    intro l hl
    simp only [lnHead, List.mem_cons, List.mem_append, List.mem_map, List.not_mem_nil, or_false] at hl
    rcases hl with rfl | ⟨m, _, rfl⟩ | rfl | rfl
    · unfold notQ; rw [head_join _ _ (by decide)]; decide
    · unfold notQ lnMark; rw [head_join _ _ (by decide)]; decide
    · unfold notQ; rw [head_join _ _ (by decide)]; decide
    · unfold notQ; rw [head_join _ _ (by decide)]; decide
  have h2 : notQ (lnQuota p) = false := by unfold notQ lnQuota; rw [head_join _ _ (by decide)]; decide
  unfold linesP
  rw [List.append_assoc, List.dropWhile_append_of_pos h1, List.cons_append, List.nil_append, List.dropWhile_cons, if_neg (by simp [h2])]
theorem split_single {c : UInt8} : ∀ {r : List UInt8}, splitB c r = [[]] → r = []
  | [], _ => rfl
  | b :: r, h => by
    simp only [splitB] at h
    split at h
    · exact absurd (List.cons.inj h).2 (splitB_ne c r)
    · split at h <;> simp at h
theorem print_pre {p q : Pol} (hp : catsMayM p.cats = 0) (hq : catsMayM q.cats = 0) {r : List UInt8} (h : polPrint p = polPrint q ++ r) : r = [] := by
  have h1 := split_lines (linesP p) [] (lines_clean hp)
  have h2 := split_lines (linesP q) r (lines_clean hq)
  rw [← print_lines, List.append_nil, h] at h1
  rw [← print_lines, h1] at h2
  have h3 := congrArg (List.dropWhile notQ) h2
  rw [drop_quota, drop_quota] at h3
  exact split_single (List.cons.inj h3).2.symm
theorem parse_cut {p : Pol} (h : PolOK p) {k : Nat} (hk : k < (polPrint p).length) : polParse ((polPrint p).take k) = (pol0, 22) := by
  rcases parse_ok (s := (polPrint p).take k) with ⟨_, h2, h3⟩ | h
  · have e : polPrint p = polPrint (polParse ((polPrint p).take k)).1 ++ (polPrint p).drop k := by rw [h3, List.take_append_drop]
    have := print_pre h.cats h2.cats e
    have hl := congrArg List.length this
    simp at hl; omega
  · exact h
theorem parse_back_print {s : List UInt8} (h : (polParse s).2 = 0) : PolOK (polParse s).1 ∧ polPrint (polParse s).1 = s := by
  rcases parse_ok (s := s) with ⟨_, h2, h3⟩ | h'
  · exact ⟨h2, h3⟩
  · rw [h'] at h; cases h
end Go.Proofs.YtdjjmppnnkkloaaGreatDoor
