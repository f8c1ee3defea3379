import Derived.Test.YtdojfdaglbphlaaGreatDoorSPrintAll
import Derived.Test.YtdojfdaglbphlaaGreatDoorSBackL
namespace Go.Proofs.YtdojfdaglbphlaaGreatDoor
open Sy Go
set_option linter.unusedSimpArgs false
set_option linter.unusedVariables false
set_option maxRecDepth 100000
variable {G : qS}
theorem qAW {s : List UInt8} (h : qCS s = true) : Lib.validD s = true ∧ s.length ≤ 4096 := by
 unfold qCS at h; simp only [Bool.and_eq_true, decide_eq_true_eq] at h; exact ⟨h.2, by omega⟩
theorem qQU (l : List Val) (h : ∀ k ∈ l, (zI k).length + 25000 ≤ 50000 * Val.sz k) : ((l.map zI).map List.length).sum + 25000 * l.length ≤ 50000 * Val.szL l := by
 induction l with
 | nil => simp
 | cons v l ih =>
  have h1 := h v (by simp)
  have h2 := ih fun k hk => h k (by simp [hk])
  simp only [List.map_cons, List.sum_cons, List.length_cons, Val.szL]; omega
theorem entSums : ∀ (l : List Val) (keys : List (List UInt8)), (∀ k ∈ keys, qCS k = true) → (∀ k ∈ l, (zI k).length + 25000 ≤ 50000 * Val.sz k) → ((qFW keys (l.map zI)).map List.length).sum + (qFW keys (l.map zI)).length ≤ 50000 * Val.szL l
 | [], keys, _, _ => by cases keys <;> simp [qFW]
 | v :: l, [], _, _ => by simp [qFW]
 | v :: l, key :: keys, hk, h => by
  have h1 := h v (by simp)
  have h2 := entSums l keys (fun k hk' => hk k (by simp [hk'])) fun k hk => h k (by simp [hk])
  have h3 := qUA key
  have h4 := (qAW (hk key (by simp))).2
  rw [List.map_cons, ent_cons]
  simp only [List.map_cons, List.sum_cons, List.length_cons, Val.szL, List.length_append, List.length_nil]; omega
theorem print_len (v : Val) : zL v = true → (zI v).length + 25000 ≤ 50000 * Val.sz v := by
 induction v using Val.induct with
 | h v ih =>
  intro hm
  rw [sz_eq]
  have ihk : ∀ k ∈ v.kids, (zI k).length + 25000 ≤ 50000 * Val.sz k := fun k hk => ih k hk (vA hm hk)
  by_cases h8 : v.kind = 8
  ·rw [print8 h8]
   have : (qFA v.code).length ≤ 2 := by unfold qFA; split <;> simp
   simp; omega
  ·obtain ⟨_, _, hc⟩ := qOZ hm h8
   rcases hc with ⟨k, _⟩ | ⟨k, _⟩ | ⟨k, _⟩ | ⟨k, h1, _⟩ | ⟨k, _, h2, _⟩ | ⟨k, h1, h2, h3⟩ | ⟨k, h1, h2, h3, h4⟩
   ·rw [print1 k]; simp [uD]; omega
   ·rw [print2 k]; simp [jO]; omega
   ·rw [print3 k]; simp [uC]; omega
   ·rw [print4 k]; have := printM_le h1; omega
   ·rw [print5 k]; have := qUA v.text; have := (qAW h2).2; omega
   ·rw [print6 k]
    have := qQU v.kids ihk
    have := qRS (v.kids.map zI)
    simp only [List.length_append, List.length_cons, List.length_nil, List.length_map] at this ⊢
    omega
   ·rw [print7 k]
    unfold qEZ at h4
    simp only [Bool.and_eq_true, List.all_eq_true] at h4
    have := entSums v.kids v.keys h4.1 ihk
    have := qRS (qFW v.keys (v.kids.map zI))
    simp only [List.length_append, List.length_cons, List.length_nil] at this ⊢
    omega
mutual
def vX (c : Int) : Val → Prop
 | .mk k _ _ _ _ vs e => (k = 8 → e = c) ∧ uU c vs
def uU (c : Int) : List Val → Prop
 | [] => True
 | v :: vs => vX c v ∧ uU c vs
end
theorem qHE (c : Int) : ∀ l, uU c l ↔ ∀ v ∈ l, vX c v
 | [] => by simp [uU]
 | v :: vs => by simp [uU, qHE c vs]
theorem qVV (c : Int) (v : Val) : vX c v ↔ (v.kind = 8 → v.code = c) ∧ ∀ k ∈ v.kids, vX c k := by cases v; simp only [vX, qHE, Val.kind, Val.kids, Val.code]
theorem prn_code {c : Int} (v : Val) : zL v = true → Val.sz v ≤ 10000 → vX c v → (qXH v = true → qMY G c) → Prn G v := by
 induction v using Val.induct with
 | h v ih =>
  intro hm hs hc hI
  have hl := print_len v hm
  have hc' := (qVV c v).1 hc
  have hk1 : ∀ k ∈ v.kids, Prn G k := fun k hk => ih k hk (vA hm hk) (by have := Val.sz_kid hk; omega) (hc'.2 k hk) fun hp => hI (by
   rw [qZP]; simp only [Bool.or_eq_true, List.any_eq_true]; exact .inr ⟨k, hk, hp⟩)
  by_cases h8 : v.kind = 8
  ·have hcode := hc'.1 h8
   refine .mk (fun _ => by rw [hcode]; exact hI (by rw [qZP]; simp [h8])) (fun h => by omega) (fun h => by omega) (fun h => by omega) ?_ (by omega) hk1
   exact qXV (by omega)
  ·obtain ⟨_, hkl, hcs⟩ := qOZ hm h8
   refine .mk (fun h => absurd h h8) (fun h => kY hm h) (fun h => ?_) (fun h => ?_) (by omega) (by omega) hk1
   ·rcases hcs with ⟨k, _⟩ | ⟨k, _⟩ | ⟨k, _⟩ | ⟨k, h1, _⟩ | ⟨k, _, h2, _⟩ | ⟨k, h1, h2, h3⟩ | ⟨k, h1, h2, h3, h4⟩
    ·omega
    ·omega
    ·omega
    ·omega
    ·exact ⟨(qAW h2).1, by have := (qAW h2).2; omega⟩
    ·omega
    ·omega
   ·rcases hcs with ⟨k, _⟩ | ⟨k, _⟩ | ⟨k, _⟩ | ⟨k, h1, _⟩ | ⟨k, _, h2, _⟩ | ⟨k, h1, h2, h3⟩ | ⟨k, h1, h2, h3, h4⟩
    ·omega
    ·omega
    ·omega
    ·omega
    ·omega
    ·omega
    ·unfold qEZ at h4
     simp only [Bool.and_eq_true, List.all_eq_true] at h4
     exact ⟨h3, fun key hk => ⟨(qAW (h4.1 key hk)).1, by have := (qAW (h4.1 key hk)).2; omega⟩⟩
end Go.Proofs.YtdojfdaglbphlaaGreatDoor
