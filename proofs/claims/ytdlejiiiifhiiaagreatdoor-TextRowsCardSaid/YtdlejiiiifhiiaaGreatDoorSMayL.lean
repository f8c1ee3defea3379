import Derived.Test.YtdlejiiiifhiiaaGreatDoorK1
/-
  PLAIN: which values may be.
-/
namespace Go.Proofs.YtdlejiiiifhiiaaGreatDoor
open Sy Go
set_option maxRecDepth 100000
set_option linter.unusedSimpArgs false
set_option linter.unusedVariables false
@[simp] def Val.cells (v : Val) : List V := [.p (.int .i64 v.kind), .p (.int .u64 v.mask), .p (.bool v.num.neg), .p (.str v.num.digits), .p (.int .i64 v.num.scale), .p (.str v.text), .p (.sl 1 (v.keys.map PD.str)), .p (.sl 9 (v.kids.map Val.enc)), .p (.int .i64 v.code)]
def wordT (s : List UInt8) : Bool := decide ((s.length : Int) ≤ 4096) && Lib.validD s
def keysT (l : List (List UInt8)) : Bool := l.all wordT && decide l.Nodup
theorem keysT_bad {l : List (List UInt8)} {k : Nat} {s : List UInt8} (h : l[k]? = some s) (hb : wordT s = false ∨ s ∈ l.take k) : keysT l = false := by
  unfold keysT
  rcases hb with hb | hb
  · rw [List.all_eq_false.2 ⟨s, List.mem_of_getElem? h, by simp [hb]⟩]; rfl
  · have : ¬ l.Nodup := fun hn => by
      obtain ⟨j, hj, hjs⟩ := List.mem_iff_getElem.1 hb
      have hk := (List.getElem?_eq_some_iff.1 h)
      rw [List.getElem_take] at hjs
      have hjk : j < k := by simp at hj; omega
      exact (List.pairwise_iff_getElem.1 hn) j k (by simp at hj; omega) hk.1 hjk (by rw [hjs, hk.2])
    simp [this]
theorem keysT_take {l : List (List UInt8)} {k : Nat} {s : List UInt8} (h : l[k]? = some s) (h1 : keysT (l.take k) = true) (h2 : wordT s = true) (h3 : s ∉ l.take k) : keysT (l.take (k + 1)) = true := by
  unfold keysT at h1 ⊢
  rw [List.take_add_one, h]
  simp only [Bool.and_eq_true, decide_eq_true_eq] at h1 ⊢
  refine ⟨by rw [List.all_append, h1.1]; simp [h2], ?_⟩
  rw [List.nodup_append]
  exact ⟨h1.2, by simp, by intro a ha b hb; simp at hb; subst hb; rintro rfl; exact h3 ha⟩
def numT (v : Val) : Bool := if v.kind = 4 then dcMay v.num else decide (v.num.neg = false ∧ v.num.digits = [] ∧ v.num.scale = 0)
def textT (v : Val) : Bool := if v.kind = 5 then wordT v.text else decide (v.text = [])
def namedT (v : Val) : Bool := if v.kind = 7 then decide ((v.keys.length : Int) = v.kids.length) && keysT v.keys else decide (v.keys = [])
def kidsT (v : Val) : Bool := decide (v.kids = []) || decide (v.kind = 6) || decide (v.kind = 7)
def codeT (v : Val) : Bool := decide (decide (v.kind = 8) = !decide (v.code = 0))
def partsT (v : Val) : Bool := codeT v && numT v && textT v && namedT v && kidsT v
def boundsT (v : Val) : Bool := decide (1 ≤ v.kind ∧ v.kind ≤ 8 ∧ v.kids.length ≤ 200)
mutual
/-- May a value be? -/
def mayT : Val → Bool
  | .mk k m n t ks vs c => boundsT (.mk k m n t ks vs c) && partsT (.mk k m n t ks vs c) && mayTL vs
def mayTL : List Val → Bool
  | [] => true
  | v :: vs => mayT v && mayTL vs
end
theorem mayTL_all : ∀ l, mayTL l = l.all mayT
  | [] => by simp [mayTL]
  | v :: vs => by simp [mayTL, mayTL_all vs]
theorem mayT_eq (v : Val) : mayT v = (boundsT v && partsT v && v.kids.all mayT) := by
  cases v; simp only [mayT, mayTL_all, Val.kids]
theorem len0 {α : Type} {l : List α} : ((l.length : Int) = 0) = (l = []) := by rw [← List.length_eq_zero_iff]; exact propext (by omega)
def kidOf (v : Val) (s : List UInt8) : Val := v.kids.getD (v.keys.idxOf s) nullV
theorem kidOf_get {v : Val} (hl : v.keys.length ≤ v.kids.length) {s : List UInt8} (h : s ∈ v.keys) : v.kids[v.keys.idxOf s]? = some (kidOf v s) := by
  have := List.idxOf_lt_length_of_mem h
  simp [kidOf, List.getD_eq_getElem?_getD, show v.keys.idxOf s < v.kids.length by omega]
theorem may_kid {v k : Val} (h : mayT v = true) (hk : k ∈ v.kids) : mayT k = true := by
  rw [mayT_eq] at h; simp only [Bool.and_eq_true, List.all_eq_true] at h; exact h.2 k hk
theorem may_obj {v : Val} (h : mayT v = true) (h7 : v.kind = 7) : v.keys.length = v.kids.length ∧ v.keys.length ≤ 200 ∧ v.keys.Nodup := by
  rw [mayT_eq] at h
  simp only [Bool.and_eq_true, boundsT, partsT, namedT, decide_eq_true_eq] at h
  obtain ⟨⟨h1, ⟨⟨_, h2⟩, _⟩⟩, _⟩ := h
  rw [if_pos h7] at h2
  simp [keysT] at h2
  exact ⟨by omega, by omega, h2.2.2⟩
theorem may_num {v : Val} (h : mayT v = true) (h4 : v.kind = 4) : dcMay v.num = true := by
  rw [mayT_eq] at h
  simp only [Bool.and_eq_true, partsT, numT] at h
  obtain ⟨⟨h1, ⟨⟨⟨⟨_, h2⟩, _⟩, _⟩, _⟩⟩, _⟩ := h
  rw [if_pos h4] at h2; exact h2
end Go.Proofs.YtdlejiiiifhiiaaGreatDoor
