import Derived.Test.YtdploelkmlbhnaaDoorPath5
namespace Go.Proofs.YtdploelkmlbhnaaDoor
open Sy Go
set_option linter.unusedSimpArgs false
set_option linter.unusedVariables false

/-! The plain law: which patterns lead where. -/
inductive Leads : List Step → List Step → Prop
  | nil : Leads [] []
  | one {t x l p} : t.kind ≠ 5 → oneM t x = true → Leads l p → Leads (t :: l) (x :: p)
  | stop {t l p} : t.kind = 5 → Leads l p → Leads (t :: l) p
  | on {t x l p} : t.kind = 5 → Leads (t :: l) p → Leads (t :: l) (x :: p)

theorem Leads.append {l p m q : List Step} (h : Leads l p) (k : Leads m q) : Leads (l ++ m) (p ++ q) := by
  induction h with
  | nil => exact k
  | one h1 h2 _ ih => exact .one h1 h2 ih
  | stop h1 _ ih => exact .stop h1 ih
  | on h1 _ ih => exact .on h1 ih
theorem Leads.nil_left {p : List Step} (h : Leads [] p) : p = [] := by cases h; rfl
theorem Leads.split : ∀ {l m r : List Step}, Leads (l ++ m) r → ∃ p q, r = p ++ q ∧ Leads l p ∧ Leads m q := by
  intro l m r h
  generalize hw : l ++ m = w at h
  induction h generalizing l with
  | nil =>
    obtain ⟨rfl, rfl⟩ := List.append_eq_nil_iff.1 hw
    exact ⟨[], [], rfl, .nil, .nil⟩
  | @one t x l' p h1 h2 h3 ih =>
    cases l with
    | nil => simp at hw; subst hw; exact ⟨[], _, rfl, .nil, .one h1 h2 h3⟩
    | cons t' l =>
      simp at hw
      obtain ⟨rfl, hw⟩ := hw
      obtain ⟨a, b, rfl, ha, hb⟩ := ih hw
      exact ⟨x :: a, b, rfl, .one h1 h2 ha, hb⟩
  | @stop t l' p h1 h3 ih =>
    cases l with
    | nil => simp at hw; subst hw; exact ⟨[], _, rfl, .nil, .stop h1 h3⟩
    | cons t' l =>
      simp at hw
      obtain ⟨rfl, hw⟩ := hw
      obtain ⟨a, b, rfl, ha, hb⟩ := ih hw
      exact ⟨a, b, rfl, .stop h1 ha, hb⟩
  | @on t x l' p h1 h3 ih =>
    cases l with
    | nil => simp at hw; subst hw; exact ⟨[], _, rfl, .nil, .on h1 h3⟩
    | cons t' l =>
      simp at hw
      obtain ⟨rfl, hw⟩ := hw
      obtain ⟨a, b, rfl, ha, hb⟩ := ih (l := t' :: l) (by simp [hw])
      exact ⟨x :: a, b, rfl, .on h1 ha, hb⟩
theorem Leads.deep {t : Step} (ht : t.kind = 5) : ∀ p, Leads [t] p
  | [] => .stop ht .nil
  | _ :: p => .on ht (Leads.deep ht p)
theorem leads_one {t : Step} (ht : t.kind ≠ 5) {p : List Step} : Leads [t] p ↔ ∃ x, p = [x] ∧ oneM t x = true := by
  constructor
  · intro h
    cases h with
    | one _ h2 h3 => exact ⟨_, by rw [h3.nil_left], h2⟩
    | stop h => exact (ht h).elim
    | on h => exact (ht h).elim
  · rintro ⟨x, rfl, h⟩; exact .one ht h .nil

/-- The reference's rows tell it. -/
theorem refRow_leads (to : List Step) : ∀ (l : List Step) (k : Nat), k ≤ to.length → (refRow to l row0 k = true ↔ Leads l (to.take k)) := by
  intro l
  induction hn : l.length generalizing l with
  | zero =>
    intro k hk
    obtain rfl := List.length_eq_zero_iff.1 hn
    simp only [refRow, row0, decide_eq_true_eq]
    constructor
    · rintro rfl; exact .nil
    · intro h
      have := congrArg List.length h.nil_left
      rw [List.length_take, List.length_nil] at this; omega
  | succ n ih =>
    intro k hk
    obtain ⟨m, t, rfl⟩ : ∃ m t, l = m ++ [t] := ⟨l.dropLast, l.getLast (by rintro rfl; simp at hn), (List.dropLast_concat_getLast _).symm⟩
    have ih := ih m (by simpa using hn)
    rw [refRow_snoc]
    generalize refRow to m row0 = F at ih
    by_cases ht : t.kind = 5
    · have key : ∀ k, k ≤ to.length → (nextF t to F k = true ↔ ∃ j, j ≤ k ∧ F j = true) := by
        intro k
        induction k with
        | zero =>
          intro _
          simp only [nextF, ht, if_true]
          exact ⟨fun h => ⟨0, Nat.le_refl _, h⟩, fun ⟨j, hj, h⟩ => by rwa [show j = 0 by omega] at h⟩
        | succ k ihk =>
          intro hk
          simp only [nextF, ht, if_true, Bool.or_eq_true, ihk (by omega)]
          constructor
          · rintro (h | ⟨j, hj, h⟩)
            · exact ⟨_, Nat.le_refl _, h⟩
            · exact ⟨j, by omega, h⟩
          · rintro ⟨j, hj, h⟩
            by_cases e : j = k + 1
            · subst e; exact .inl h
            · exact .inr ⟨j, by omega, h⟩
      rw [key k hk]
      constructor
      · rintro ⟨j, hj, h⟩
        have h1 := (ih j (by omega)).1 h
        have := h1.append (Leads.deep ht ((to.take k).drop j))
        rwa [show to.take j = (to.take k).take j by rw [List.take_take, Nat.min_eq_left hj], List.take_append_drop] at this
      · intro h
        obtain ⟨p, q, hpq, hp, _⟩ := h.split
        have hpl : p = to.take p.length := by
          have := congrArg (List.take p.length) hpq
          rw [List.take_take, List.take_left] at this
          have hle := congrArg List.length hpq
          simp at hle
          rw [Nat.min_eq_left (by omega)] at this
          exact this.symm
        have hle := congrArg List.length hpq
        simp at hle
        exact ⟨p.length, by omega, (ih p.length (by omega)).2 (hpl ▸ hp)⟩
    · cases k with
      | zero =>
        simp only [nextF, ht, if_false, List.take_zero]
        constructor
        · intro h; cases h
        · intro h
          obtain ⟨p, q, hpq, _, hq⟩ := h.split
          obtain ⟨x, rfl, _⟩ := (leads_one ht).1 hq
          simp at hpq
      | succ k =>
        obtain ⟨x, hx⟩ : ∃ x, to[k]? = some x := ⟨to[k]'(by omega), by simp [show k < to.length by omega]⟩
        have htk : to.take (k + 1) = to.take k ++ [x] := by rw [List.take_add_one, hx]; rfl
        simp only [nextF, ht, if_false, hx, Bool.and_eq_true, ih k (by omega)]
        constructor
        · rintro ⟨h1, h2⟩
          rw [htk]
          exact h1.append ((leads_one ht).2 ⟨x, rfl, h2⟩)
        · intro h
          obtain ⟨p, q, hpq, hp, hq⟩ := h.split
          obtain ⟨y, rfl, hy⟩ := (leads_one ht).1 hq
          rw [htk] at hpq
          obtain ⟨rfl, he⟩ := List.append_inj' hpq rfl
          cases he
          exact ⟨hp, hy⟩
theorem match_leads (l to : List Step) : matchM l to = true ↔ Leads l to := by
  rw [match_eq]
  have := refRow_leads to l to.length (Nat.le_refl _)
  rwa [List.take_length] at this

/-- A place's steps. -/
def Plain (l : List Step) : Prop := ∀ t ∈ l, (t.kind = 1 ∧ t.n = 0) ∨ (t.kind = 2 ∧ t.key = [] ∧ 0 ≤ t.n)
theorem place_plain (l : List Step) : Plain (placeM l) := by
  intro t ht
  simp only [placeM, List.mem_flatMap, place1, List.mem_append] at ht
  obtain ⟨x, _, h | h⟩ := ht
  · split at h
    · simp at h; subst h; exact .inl ⟨rfl, rfl⟩
    · simp at h
  · split at h
    · rename_i hx; simp at h; subst h; exact .inr ⟨rfl, rfl, hx.2⟩
    · simp at h
theorem one_self {t x : Step} (h : t.kind = 1 ∨ t.kind = 2) : oneM t x = true ↔ t = x := by
  have h3 : ¬ t.kind = 3 := by omega
  have h4 : ¬ t.kind = 4 := by omega
  simp only [oneM, h3, h4, if_false, decide_eq_true_eq]
  constructor
  · rintro ⟨a, b, c⟩; cases t; cases x; simp_all
  · rintro rfl; exact ⟨rfl, rfl, rfl⟩
theorem Plain.kinds {l : List Step} (h : Plain l) : ∀ t ∈ l, t.kind = 1 ∨ t.kind = 2 := fun t ht => (h t ht).elim (fun h => .inl h.1) fun h => .inr h.1
theorem leads_plain : ∀ {a : List Step}, (∀ t ∈ a, t.kind = 1 ∨ t.kind = 2) → ∀ {b : List Step}, Leads a b ↔ a = b
  | [], _, b => ⟨fun h => h.nil_left.symm, fun h => h ▸ .nil⟩
  | t :: a, h, b => by
    have ht := h t (by simp)
    have ih := fun b => leads_plain (a := a) (fun t h' => h t (by simp [h'])) (b := b)
    constructor
    · intro hl
      cases hl with
      | one _ h2 h3 => rw [(one_self ht).1 h2, (ih _).1 h3]
      | stop h5 => omega
      | on h5 => omega
    · rintro rfl
      exact .one (by omega) ((one_self ht).2 rfl) ((ih _).2 rfl)
def anyOf (t : Step) : Step := ⟨if t.kind = 1 then 3 else 4, [], 0⟩
theorem leads_any : ∀ {a : List Step}, (∀ t ∈ a, t.kind = 1 ∨ t.kind = 2) → Leads (a.map anyOf) a
  | [], _ => .nil
  | t :: a, h => by
    have ht := h t (by simp)
    refine .one ?_ ?_ (leads_any fun t h' => h t (by simp [h']))
    · simp only [anyOf]; split <;> decide
    · rcases ht with ht | ht <;> simp [anyOf, oneM, ht]
theorem leads_under {a l b : List Step} (ha : ∀ t ∈ a, t.kind = 1 ∨ t.kind = 2) : Leads (a ++ l) (a ++ b) ↔ Leads l b := by
  constructor
  · intro h
    obtain ⟨p, q, hpq, hp, hq⟩ := h.split
    obtain rfl := (leads_plain ha).1 hp
    rw [List.append_cancel_left hpq]; exact hq
  · exact fun h => ((leads_plain ha).2 rfl).append h

theorem bool_iff {a b : Bool} (h : a = true ↔ b = true) : a = b := by cases a <;> cases b <;> simp_all
theorem match_plain {a : List Step} (ha : ∀ t ∈ a, t.kind = 1 ∨ t.kind = 2) (b : List Step) : matchM a b = decide (a = b) := bool_iff (by rw [match_leads, leads_plain ha, decide_eq_true_eq])
theorem match_deep {t : Step} (ht : t.kind = 5) (p : List Step) : matchM [t] p = true := (match_leads _ _).2 (Leads.deep ht p)
theorem match_any {a : List Step} (ha : ∀ t ∈ a, t.kind = 1 ∨ t.kind = 2) : matchM (a.map anyOf) a = true := (match_leads _ _).2 (leads_any ha)
theorem match_under {a : List Step} (ha : ∀ t ∈ a, t.kind = 1 ∨ t.kind = 2) (l b : List Step) : matchM (a ++ l) (a ++ b) = matchM l b := bool_iff (by rw [match_leads, match_leads, leads_under ha])
theorem match_end {t : Step} (ht : t.kind = 5) {l b : List Step} (h : matchM l b = true) : matchM (l ++ [t]) b = true := by
  rw [match_leads] at h ⊢
  have := h.append (Leads.stop ht .nil)
  simpa using this
theorem match_begin {t : Step} (ht : t.kind = 5) (a : List Step) {l b : List Step} (h : matchM l b = true) : matchM (t :: l) (a ++ b) = true := by
  rw [match_leads] at h ⊢
  exact (Leads.deep ht a).append h

/-- A StDeep at the end; at the beginning; two times. -/
theorem match_above {t : Step} (ht : t.kind = 5) (l p : List Step) : matchM (l ++ [t]) p = true ↔ ∃ i, i ≤ p.length ∧ matchM l (p.take i) = true := by
  rw [match_leads]
  constructor
  · intro h
    obtain ⟨a, b, rfl, ha, _⟩ := h.split
    exact ⟨a.length, by simp, by rw [match_leads, List.take_left]; exact ha⟩
  · rintro ⟨i, hi, h⟩
    rw [match_leads] at h
    have := h.append (Leads.deep ht (p.drop i))
    rwa [List.take_append_drop] at this
theorem match_below {t : Step} (ht : t.kind = 5) (l p : List Step) : matchM (t :: l) p = true ↔ ∃ i, i ≤ p.length ∧ matchM l (p.drop i) = true := by
  rw [match_leads]
  constructor
  · intro h
    obtain ⟨a, b, rfl, ha, hb⟩ := Leads.split (l := [t]) h
    exact ⟨a.length, by simp, by rw [match_leads, List.drop_left]; exact hb⟩
  · rintro ⟨i, hi, h⟩
    rw [match_leads] at h
    have := (Leads.deep ht (p.take i)).append h
    rwa [List.take_append_drop] at this
theorem match_twice {t : Step} (ht : t.kind = 5) (l p : List Step) : matchM (l ++ [t, t]) p = matchM (l ++ [t]) p := bool_iff (by
  rw [show l ++ [t, t] = (l ++ [t]) ++ [t] by simp, match_above ht]
  constructor
  · rintro ⟨i, hi, h⟩
    rw [match_above ht] at h ⊢
    obtain ⟨j, hj, h⟩ := h
    simp at hj
    exact ⟨j, by omega, by rwa [List.take_take, Nat.min_eq_left (by omega)] at h⟩
  · intro h
    exact ⟨p.length, Nat.le_refl _, by rwa [List.take_length]⟩)

/-- Patterns without a StDeep lead step by step. -/
theorem match_each : ∀ (l p : List Step), (∀ t ∈ l, t.kind ≠ 5) → (matchM l p = true ↔ l.length = p.length ∧ ∀ i, i < l.length → matchM ((l.take (i + 1)).drop i) ((p.take (i + 1)).drop i) = true)
  | [], p, _ => by
    rw [match_leads]
    constructor
    · intro h; rw [h.nil_left]; simp
    · rintro ⟨h, _⟩
      cases p with
      | nil => exact .nil
      | cons => simp at h
  | t :: l, p, h => by
    have ht := h t (by simp)
    rw [match_leads]
    constructor
    · intro hl
      cases hl with
      | @one _ x _ p _ h2 h3 =>
        rw [← match_leads, match_each l p fun t h' => h t (by simp [h'])] at h3
        refine ⟨by simp [h3.1], fun i hi => ?_⟩
        cases i with
        | zero => simp; rw [match_leads]; exact .one ht h2 .nil
        | succ i => simpa using h3.2 i (by simpa using hi)
      | stop h5 => exact (ht h5).elim
      | on h5 => exact (ht h5).elim
    · rintro ⟨hlen, hall⟩
      cases p with
      | nil => simp at hlen
      | cons x p =>
        have h0 := hall 0 (by simp)
        simp at h0
        rw [match_leads, leads_one ht] at h0
        obtain ⟨y, hy, h2⟩ := h0
        cases hy
        refine .one ht h2 ?_
        rw [← match_leads, match_each l p fun t h' => h t (by simp [h'])]
        exact ⟨by simpa using hlen, fun i hi => by simpa using hall (i + 1) (by simpa using hi)⟩
end Go.Proofs.YtdploelkmlbhnaaDoor
