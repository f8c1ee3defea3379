import Derived.Test.YtdojfdaglbphlaaGreatDoorSPrintAll
import Derived.Test.YtdojfdaglbphlaaGreatDoorSBackL
namespace Go.Proofs.YtdojfdaglbphlaaGreatDoor
open Sy Go
set_option linter.unusedSimpArgs false
set_option linter.unusedVariables false
set_option maxRecDepth 100000
variable {G : qQ}
theorem qCC {s : List UInt8} (h : jN s = true) : Lib.validD s = true ∧ s.length ≤ 4096 := by
 unfold jN at h; simp only [Bool.and_eq_true, decide_eq_true_eq] at h; exact ⟨h.2, by omega⟩
theorem qTT (l : List Val) (h : ∀ k ∈ l, (zQ k).length + 25000 ≤ 50000 * Val.sz k) : ((l.map zQ).map List.length).sum + 25000 * l.length ≤ 50000 * Val.szL l := by
 induction l with
 | nil => simp
 | cons v l ih =>
  have h1 := h v (by simp)
  have h2 := ih fun k hk => h k (by simp [hk])
  simp only [List.map_cons, List.sum_cons, List.length_cons, Val.szL]; omega
theorem zEO : ∀ (l : List Val) (keys : List (List UInt8)), (∀ k ∈ keys, jN k = true) → (∀ k ∈ l, (zQ k).length + 25000 ≤ 50000 * Val.sz k) → ((qHH keys (l.map zQ)).map List.length).sum + (qHH keys (l.map zQ)).length ≤ 50000 * Val.szL l
 | [], keys, _, _ => by cases keys <;> simp [qHH]
 | v :: l, [], _, _ => by simp [qHH]
 | v :: l, key :: keys, hk, h => by
  have h1 := h v (by simp)
  have h2 := zEO l keys (fun k hk' => hk k (by simp [hk'])) fun k hk => h k (by simp [hk])
  have h3 := qXK key
  have h4 := (qCC (hk key (by simp))).2
  rw [List.map_cons, zLY]
  simp only [List.map_cons, List.sum_cons, List.length_cons, Val.szL, List.length_append, List.length_nil]; omega
theorem zGI (v : Val) : qT v = true → (zQ v).length + 25000 ≤ 50000 * Val.sz v := by
 induction v using Val.induct with
 | h v ih =>
  intro hm
  rw [zDJ]
  have ihk : ∀ k ∈ v.kids, (zQ k).length + 25000 ≤ 50000 * Val.sz k := fun k hk => ih k hk (zU hm hk)
  by_cases h8 : v.kind = 8
  ·rw [zRH h8]
   have : (qGM v.code).length ≤ 2 := by unfold qGM; split <;> simp
   simp; omega
  ·obtain ⟨_, _, hc⟩ := qCQ hm h8
   rcases hc with ⟨k, _⟩ | ⟨k, _⟩ | ⟨k, _⟩ | ⟨k, h1, _⟩ | ⟨k, _, h2, _⟩ | ⟨k, h1, h2, h3⟩ | ⟨k, h1, h2, h3, h4⟩
   ·rw [zRO k]; simp [qAN]; omega
   ·rw [zRN k]; simp [xF]; omega
   ·rw [zRM k]; simp [qAM]; omega
   ·rw [zRL k]; have := zGJ h1; omega
   ·rw [zRK k]; have := qXK v.text; have := (qCC h2).2; omega
   ·rw [zRJ k]
    have := qTT v.kids ihk
    have := qUV (v.kids.map zQ)
    simp only [List.length_append, List.length_cons, List.length_nil, List.length_map] at this ⊢
    omega
   ·rw [zRI k]
    unfold qBO at h4
    simp only [Bool.and_eq_true, List.all_eq_true] at h4
    have := zEO v.kids v.keys h4.1 ihk
    have := qUV (qHH v.keys (v.kids.map zQ))
    simp only [List.length_append, List.length_cons, List.length_nil] at this ⊢
    omega
mutual
def qAF (c : Int) : Val → Prop
 | .mk k _ _ _ _ vs e => (k = 8 → e = c) ∧ qBB c vs
def qBB (c : Int) : List Val → Prop
 | [] => True
 | v :: vs => qAF c v ∧ qBB c vs
end
theorem qIY (c : Int) : ∀ l, qBB c l ↔ ∀ v ∈ l, qAF c v
 | [] => by simp [qBB]
 | v :: vs => by simp [qBB, qIY c vs]
theorem qZO (c : Int) (v : Val) : qAF c v ↔ (v.kind = 8 → v.code = c) ∧ ∀ k ∈ v.kids, qAF c k := by cases v; simp only [qAF, qIY, Val.kind, Val.kids, Val.code]
theorem zKD {c : Int} (v : Val) : qT v = true → Val.sz v ≤ 10000 → qAF c v → (zBO v = true → qPN G c) → Prn G v := by
 induction v using Val.induct with
 | h v ih =>
  intro hm hs hc hI
  have hl := zGI v hm
  have hc' := (qZO c v).1 hc
  have hk1 : ∀ k ∈ v.kids, Prn G k := fun k hk => ih k hk (zU hm hk) (by have := Val.sz_kid hk; omega) (hc'.2 k hk) fun hp => hI (by
   rw [zDW]; simp only [Bool.or_eq_true, List.any_eq_true]; exact .inr ⟨k, hk, hp⟩)
  by_cases h8 : v.kind = 8
  ·have hcode := hc'.1 h8
   refine .mk (fun _ => by rw [hcode]; exact hI (by rw [zDW]; simp [h8])) (fun h => by omega) (fun h => by omega) (fun h => by omega) ?_ (by omega) hk1
   exact qHC (by omega)
  ·obtain ⟨_, hkl, hcs⟩ := qCQ hm h8
   refine .mk (fun h => absurd h h8) (fun h => yZ hm h) (fun h => ?_) (fun h => ?_) (by omega) (by omega) hk1
   ·rcases hcs with ⟨k, _⟩ | ⟨k, _⟩ | ⟨k, _⟩ | ⟨k, h1, _⟩ | ⟨k, _, h2, _⟩ | ⟨k, h1, h2, h3⟩ | ⟨k, h1, h2, h3, h4⟩
    ·omega
    ·omega
    ·omega
    ·omega
    ·exact ⟨(qCC h2).1, by have := (qCC h2).2; omega⟩
    ·omega
    ·omega
   ·rcases hcs with ⟨k, _⟩ | ⟨k, _⟩ | ⟨k, _⟩ | ⟨k, h1, _⟩ | ⟨k, _, h2, _⟩ | ⟨k, h1, h2, h3⟩ | ⟨k, h1, h2, h3, h4⟩
    ·omega
    ·omega
    ·omega
    ·omega
    ·omega
    ·omega
    ·unfold qBO at h4
     simp only [Bool.and_eq_true, List.all_eq_true] at h4
     exact ⟨h3, fun key hk => ⟨(qCC (h4.1 key hk)).1, by have := (qCC (h4.1 key hk)).2; omega⟩⟩
end Go.Proofs.YtdojfdaglbphlaaGreatDoor
