import Derived.Test.YtdojfdaglbphlaaGreatDoorSPrintAll
import Derived.Test.YtdojfdaglbphlaaGreatDoorSBackL
namespace Go.Proofs.YtdojfdaglbphlaaGreatDoor
open Sy Go
set_option linter.unusedSimpArgs false
set_option linter.unusedVariables false
set_option maxRecDepth 100000
variable {G : Glob}
theorem word_len {s : List UInt8} (h : wordT s = true) : Lib.validD s = true ∧ s.length ≤ 4096 := by
 unfold wordT at h; simp only [Bool.and_eq_true, decide_eq_true_eq] at h; exact ⟨h.2, by omega⟩
theorem sums (l : List Val) (h : ∀ k ∈ l, (printT k).length + 25000 ≤ 50000 * Val.sz k) : ((l.map printT).map List.length).sum + 25000 * l.length ≤ 50000 * Val.szL l := by
 induction l with
 | nil => simp
 | cons v l ih =>
  have h1 := h v (by simp)
  have h2 := ih fun k hk => h k (by simp [hk])
  simp only [List.map_cons, List.sum_cons, List.length_cons, Val.szL]; omega
theorem entSums : ∀ (l : List Val) (keys : List (List UInt8)), (∀ k ∈ keys, wordT k = true) → (∀ k ∈ l, (printT k).length + 25000 ≤ 50000 * Val.sz k) → ((entT keys (l.map printT)).map List.length).sum + (entT keys (l.map printT)).length ≤ 50000 * Val.szL l
 | [], keys, _, _ => by cases keys <;> simp [entT]
 | v :: l, [], _, _ => by simp [entT]
 | v :: l, key :: keys, hk, h => by
  have h1 := h v (by simp)
  have h2 := entSums l keys (fun k hk' => hk k (by simp [hk'])) fun k hk => h k (by simp [hk])
  have h3 := quote_le key
  have h4 := (word_len (hk key (by simp))).2
  rw [List.map_cons, ent_cons]
  simp only [List.map_cons, List.sum_cons, List.length_cons, Val.szL, List.length_append, List.length_nil]; omega
theorem print_len (v : Val) : mayT v = true → (printT v).length + 25000 ≤ 50000 * Val.sz v := by
 induction v using Val.induct with
 | h v ih =>
  intro hm
  rw [sz_eq]
  have ihk : ∀ k ∈ v.kids, (printT k).length + 25000 ≤ 50000 * Val.sz k := fun k hk => ih k hk (may_kid hm hk)
  by_cases h8 : v.kind = 8
  ·rw [print8 h8]
   have : (itoa2 v.code).length ≤ 2 := by unfold itoa2; split <;> simp
   simp; omega
  ·obtain ⟨_, _, hc⟩ := may_cases hm h8
   rcases hc with ⟨k, _⟩ | ⟨k, _⟩ | ⟨k, _⟩ | ⟨k, h1, _⟩ | ⟨k, _, h2, _⟩ | ⟨k, h1, h2, h3⟩ | ⟨k, h1, h2, h3, h4⟩
   ·rw [print1 k]; simp [wNull]; omega
   ·rw [print2 k]; simp [wFalse]; omega
   ·rw [print3 k]; simp [wTrue]; omega
   ·rw [print4 k]; have := printM_le h1; omega
   ·rw [print5 k]; have := quote_le v.text; have := (word_len h2).2; omega
   ·rw [print6 k]
    have := sums v.kids ihk
    have := join_le (v.kids.map printT)
    simp only [List.length_append, List.length_cons, List.length_nil, List.length_map] at this ⊢
    omega
   ·rw [print7 k]
    unfold keysT at h4
    simp only [Bool.and_eq_true, List.all_eq_true] at h4
    have := entSums v.kids v.keys h4.1 ihk
    have := join_le (entT v.keys (v.kids.map printT))
    simp only [List.length_append, List.length_cons, List.length_nil] at this ⊢
    omega
mutual
def codeAll (c : Int) : Val → Prop
 | .mk k _ _ _ _ vs e => (k = 8 → e = c) ∧ codeAllL c vs
def codeAllL (c : Int) : List Val → Prop
 | [] => True
 | v :: vs => codeAll c v ∧ codeAllL c vs
end
theorem codeAllL_all (c : Int) : ∀ l, codeAllL c l ↔ ∀ v ∈ l, codeAll c v
 | [] => by simp [codeAllL]
 | v :: vs => by simp [codeAllL, codeAllL_all c vs]
theorem codeAll_iff (c : Int) (v : Val) : codeAll c v ↔ (v.kind = 8 → v.code = c) ∧ ∀ k ∈ v.kids, codeAll c k := by cases v; simp only [codeAll, codeAllL_all, Val.kind, Val.kids, Val.code]
theorem prn_code {c : Int} (v : Val) : mayT v = true → Val.sz v ≤ 10000 → codeAll c v → (poiV v = true → ItoaOK G c) → Prn G v := by
 induction v using Val.induct with
 | h v ih =>
  intro hm hs hc hI
  have hl := print_len v hm
  have hc' := (codeAll_iff c v).1 hc
  have hk1 : ∀ k ∈ v.kids, Prn G k := fun k hk => ih k hk (may_kid hm hk) (by have := Val.sz_kid hk; omega) (hc'.2 k hk) fun hp => hI (by
   rw [poiV_eq]; simp only [Bool.or_eq_true, List.any_eq_true]; exact .inr ⟨k, hk, hp⟩)
  by_cases h8 : v.kind = 8
  ·have hcode := hc'.1 h8
   refine .mk (fun _ => by rw [hcode]; exact hI (by rw [poiV_eq]; simp [h8])) (fun h => by omega) (fun h => by omega) (fun h => by omega) ?_ (by omega) hk1
   exact kids_le_sz (by omega)
  ·obtain ⟨_, hkl, hcs⟩ := may_cases hm h8
   refine .mk (fun h => absurd h h8) (fun h => may_num hm h) (fun h => ?_) (fun h => ?_) (by omega) (by omega) hk1
   ·rcases hcs with ⟨k, _⟩ | ⟨k, _⟩ | ⟨k, _⟩ | ⟨k, h1, _⟩ | ⟨k, _, h2, _⟩ | ⟨k, h1, h2, h3⟩ | ⟨k, h1, h2, h3, h4⟩
    ·omega
    ·omega
    ·omega
    ·omega
    ·exact ⟨(word_len h2).1, by have := (word_len h2).2; omega⟩
    ·omega
    ·omega
   ·rcases hcs with ⟨k, _⟩ | ⟨k, _⟩ | ⟨k, _⟩ | ⟨k, h1, _⟩ | ⟨k, _, h2, _⟩ | ⟨k, h1, h2, h3⟩ | ⟨k, h1, h2, h3, h4⟩
    ·omega
    ·omega
    ·omega
    ·omega
    ·omega
    ·omega
    ·unfold keysT at h4
     simp only [Bool.and_eq_true, List.all_eq_true] at h4
     exact ⟨h3, fun key hk => ⟨(word_len (h4.1 key hk)).1, by have := (word_len (h4.1 key hk)).2; omega⟩⟩
end Go.Proofs.YtdojfdaglbphlaaGreatDoor
