import Derived.Test.YtdjjmppnnkkloaaGreatDoorSPath5
namespace Go.Proofs.YtdjjmppnnkkloaaGreatDoor
open Sy Go
set_option linter.unusedSimpArgs false
set_option linter.unusedVariables false
inductive Leads : List Step → List Step → Prop
 | nil : Leads [] []
 | one {t x l p} : t.kind ≠ 5 → ledM t x = true → Leads l p → Leads (t :: l) (x :: p)
 | stop {t l p} : t.kind = 5 → Leads l p → Leads (t :: l) p
 | on {t x l p} : t.kind = 5 → Leads (t :: l) p → Leads (t :: l) (x :: p)
theorem Leads.append {l p m q : List Step} (h : Leads l p) (k : Leads m q) : Leads (l ++ m) (p ++ q) := by
 induction h with
 | nil => exact k
 | one h1 h2 _ ih => exact .one h1 h2 ih
 | stop h1 _ ih => exact .stop h1 ih
 | on h1 _ ih => exact .on h1 ih
theorem Leads.nil_left {p : List Step} (h : Leads [] p) : p = [] := by cases h; rfl
theorem Leads.split : ∀ {l m r : List Step}, Leads (l ++ m) r → ∃ p q, r = p ++ q ∧ Leads l p ∧ Leads m q := by
 intro l m r h
 generalize hw : l ++ m = w at h
 induction h generalizing l with
 | nil =>
  obtain ⟨rfl, rfl⟩ := List.append_eq_nil_iff.1 hw
  exact ⟨[], [], rfl, .nil, .nil⟩
 | @one t x l' p h1 h2 h3 ih =>
  cases l with
  | nil => simp at hw; subst hw; exact ⟨[], _, rfl, .nil, .one h1 h2 h3⟩
  | cons t' l =>
   simp at hw
   obtain ⟨rfl, hw⟩ := hw
   obtain ⟨a, b, rfl, ha, hb⟩ := ih hw
   exact ⟨x :: a, b, rfl, .one h1 h2 ha, hb⟩
 | @stop t l' p h1 h3 ih =>
  cases l with
  | nil => simp at hw; subst hw; exact ⟨[], _, rfl, .nil, .stop h1 h3⟩
  | cons t' l =>
   simp at hw
   obtain ⟨rfl, hw⟩ := hw
   obtain ⟨a, b, rfl, ha, hb⟩ := ih hw
   exact ⟨a, b, rfl, .stop h1 ha, hb⟩
 | @on t x l' p h1 h3 ih =>
  cases l with
  | nil => simp at hw; subst hw; exact ⟨[], _, rfl, .nil, .on h1 h3⟩
  | cons t' l =>
   simp at hw
   obtain ⟨rfl, hw⟩ := hw
   obtain ⟨a, b, rfl, ha, hb⟩ := ih (l := t' :: l) (by simp [hw])
   exact ⟨x :: a, b, rfl, .on h1 ha, hb⟩
theorem Leads.deep {t : Step} (ht : t.kind = 5) : ∀ p, Leads [t] p
 | [] => .stop ht .nil
 | _ :: p => .on ht (Leads.deep ht p)
theorem leads_one {t : Step} (ht : t.kind ≠ 5) {p : List Step} : Leads [t] p ↔ ∃ x, p = [x] ∧ ledM t x = true := by
 constructor
 ·intro h
  cases h with
  | one _ h2 h3 => exact ⟨_, by rw [h3.nil_left], h2⟩
  | stop h => exact (ht h).elim
  | on h => exact (ht h).elim
 ·rintro ⟨x, rfl, h⟩; exact .one ht h .nil
theorem refRow_leads (tw : List Step) : ∀ (l : List Step) (k : Nat), k ≤ tw.length → (refRow tw l row0 k = true ↔ Leads l (tw.take k)) := by
 intro l
 induction hn : l.length generalizing l with
 | zero =>
  intro k hk
  obtain rfl := List.length_eq_zero_iff.1 hn
  simp only [refRow, row0, decide_eq_true_eq]
  constructor
  ·rintro rfl; exact .nil
  ·intro h
   have := congrArg List.length h.nil_left
   rw [List.length_take, List.length_nil] at this; omega
 | succ n ih =>
  intro k hk
  obtain ⟨m, t, rfl⟩ : ∃ m t, l = m ++ [t] := ⟨l.dropLast, l.getLast (by rintro rfl; simp at hn), (List.dropLast_concat_getLast _).symm⟩
  have ih := ih m (by simpa using hn)
  rw [refRow_snoc]
  generalize refRow tw m row0 = F at ih
  by_cases ht : t.kind = 5
  ·have key : ∀ k, k ≤ tw.length → (nextF t tw F k = true ↔ ∃ j, j ≤ k ∧ F j = true) := by
    intro k
    induction k with
    | zero =>
     intro _
     simp only [nextF, ht, if_true]
     exact ⟨fun h => ⟨0, Nat.le_refl _, h⟩, fun ⟨j, hj, h⟩ => by rwa [show j = 0 by omega] at h⟩
    | succ k ihk =>
     intro hk
     simp only [nextF, ht, if_true, Bool.or_eq_true, ihk (by omega)]
     constructor
     ·rintro (h | ⟨j, hj, h⟩)
      ·exact ⟨_, Nat.le_refl _, h⟩
      ·exact ⟨j, by omega, h⟩
     ·rintro ⟨j, hj, h⟩
      by_cases e : j = k + 1
      ·subst e; exact .inl h
      ·exact .inr ⟨j, by omega, h⟩
   rw [key k hk]
   constructor
   ·rintro ⟨j, hj, h⟩
    have h1 := (ih j (by omega)).1 h
    have := h1.append (Leads.deep ht ((tw.take k).drop j))
    rwa [show tw.take j = (tw.take k).take j by rw [List.take_take, Nat.min_eq_left hj], List.take_append_drop] at this
   ·intro h
    obtain ⟨p, q, hpq, hp, _⟩ := h.split
    have hpl : p = tw.take p.length := by
     have := congrArg (List.take p.length) hpq
     rw [List.take_take, List.take_left] at this
     have hle := congrArg List.length hpq
     simp at hle
     rw [Nat.min_eq_left (by omega)] at this
     exact this.symm
    have hle := congrArg List.length hpq
    simp at hle
    exact ⟨p.length, by omega, (ih p.length (by omega)).2 (hpl ▸ hp)⟩
  ·cases k with
   | zero =>
    simp only [nextF, ht, if_false, List.take_zero]
    constructor
    ·intro h; cases h
    ·intro h
     obtain ⟨p, q, hpq, _, hq⟩ := h.split
     obtain ⟨x, rfl, _⟩ := (leads_one ht).1 hq
     simp at hpq
   | succ k =>
    obtain ⟨x, hx⟩ : ∃ x, tw[k]? = some x := ⟨tw[k]'(by omega), by simp [show k < tw.length by omega]⟩
    have htk : tw.take (k + 1) = tw.take k ++ [x] := by rw [List.take_add_one, hx]; rfl
    simp only [nextF, ht, if_false, hx, Bool.and_eq_true, ih k (by omega)]
    constructor
    ·rintro ⟨h1, h2⟩
     rw [htk]
     exact h1.append ((leads_one ht).2 ⟨x, rfl, h2⟩)
    ·intro h
     obtain ⟨p, q, hpq, hp, hq⟩ := h.split
     obtain ⟨y, rfl, hy⟩ := (leads_one ht).1 hq
     rw [htk] at hpq
     obtain ⟨rfl, he⟩ := List.append_inj' hpq rfl
     cases he
     exact ⟨hp, hy⟩
theorem match_leads (l tw : List Step) : matchM l tw = true ↔ Leads l tw := by
 rw [match_eq]
 have := refRow_leads tw l tw.length (Nat.le_refl _)
 rwa [List.take_length] at this
theorem one_self {t x : Step} (h : t.kind = 1 ∨ t.kind = 2) : ledM t x = true ↔ t = x := by
 have h3 : ¬ t.kind = 3 := by omega
 have h4 : ¬ t.kind = 4 := by omega
 simp only [ledM, h3, h4, if_false, decide_eq_true_eq]
 constructor
 ·rintro ⟨a, b, c⟩; cases t; cases x; simp_all
 ·rintro rfl; exact ⟨rfl, rfl, rfl⟩
theorem leads_plain : ∀ {a : List Step}, (∀ t ∈ a, t.kind = 1 ∨ t.kind = 2) → ∀ {b : List Step}, Leads a b ↔ a = b
 | [], _, b => ⟨fun h => h.nil_left.symm, fun h => h ▸ .nil⟩
 | t :: a, h, b => by
  have ht := h t (by simp)
  have ih := fun b => leads_plain (a := a) (fun t h' => h t (by simp [h'])) (b := b)
  constructor
  ·intro hl
   cases hl with
   | one _ h2 h3 => rw [(one_self ht).1 h2, (ih _).1 h3]
   | stop h5 => omega
   | on h5 => omega
  ·rintro rfl
   exact .one (by omega) ((one_self ht).2 rfl) ((ih _).2 rfl)
theorem bool_iff {a b : Bool} (h : a = true ↔ b = true) : a = b := by cases a <;> cases b <;> simp_all
theorem match_plain {a : List Step} (ha : ∀ t ∈ a, t.kind = 1 ∨ t.kind = 2) (b : List Step) : matchM a b = decide (a = b) := bool_iff (by rw [match_leads, leads_plain ha, decide_eq_true_eq])
theorem match_deep {t : Step} (ht : t.kind = 5) (p : List Step) : matchM [t] p = true := (match_leads _ _).2 (Leads.deep ht p)
end Go.Proofs.YtdjjmppnnkkloaaGreatDoor
