import Derived.Test.YtdojfdaglbphlaaGreatDoorSTwoV
import Derived.Test.YtdojfdaglbphlaaGreatDoorSNumL
import Derived.Test.YtdojfdaglbphlaaGreatDoorSMergeL
import Derived.Test.YtdojfdaglbphlaaGreatDoorSValidApp
import Derived.Test.YtdojfdaglbphlaaGreatDoorSTreeLaw
import Derived.Test.YtdojfdaglbphlaaGreatDoorK3
import Derived.Test.YtdojfdaglbphlaaGreatDoorK2
namespace Go.Proofs.YtdojfdaglbphlaaGreatDoor
open Sy Go
set_option maxRecDepth 100000
set_option linter.unusedSimpArgs false
set_option linter.unusedVariables false
theorem qFG {c : Int} (h : c ≠ 0) (m : Int) : qT (yR c m) = true := by
 rw [kW]; simp [yR, uF, vV, qOZ, qXW, qHT, qDJ, qOF, dc0, h]
theorem qQS (b : Bool) (m : Int) : qT (qAO b m) = true := by
 rw [kW]; cases b <;> simp [qAO, uF, vV, qOZ, qXW, qHT, qDJ, qOF, dc0]
theorem qXX {r : Dc × Int} (h : r.2 = 0 → zP r.1 = true) (m : Int) : qT (qXY r m) = true := by
 unfold qXY; split
 ·rename_i h0
  rw [kW]; simp [uF, vV, qOZ, qXW, qHT, qDJ, qOF, h h0]
 ·rename_i h0; exact qFG h0 m
theorem vX {neg : Bool} {v sc : Nat} (h : (jD neg v sc).2 = 0) : zP (jD neg v sc).1 = true := qKM (qIW v) h
theorem zGS {neg : Bool} {v : Nat} {sc : Int} (h : (qIE neg v sc).2 = 0) : zP (qIE neg v sc).1 = true := by
 unfold qIE at h ⊢; split
 ·rename_i h0; rw [if_pos h0] at h; exact vX h
 ·rename_i h0; rw [if_neg h0] at h; exact vX h
theorem zAE {a b : Dc} (h : (qLR a b).2 = 0) : zP (qLR a b).1 = true := by
 unfold qLR at h ⊢
 split
 ·rename_i h0; rw [if_pos h0] at h; exact vX h
 ·rename_i h0; rw [if_neg h0] at h
  split
  ·rename_i h1; rw [if_pos h1] at h; exact vX h
  ·rename_i h1; rw [if_neg h1] at h; exact vX h
theorem zKU {a b : Dc} (h : (qUP a b).2 = 0) : zP (qUP a b).1 = true := vX h
theorem zMA {a b : Dc} (h : (qIV a b).2 = 0) : zP (qIV a b).1 = true := by
 unfold qIV at h ⊢; split
 ·rename_i h0; rw [if_pos h0] at h; exact absurd h (by decide)
 ·rename_i h0; rw [if_neg h0] at h; exact zGS h
theorem zKX {a b : Dc} (h : (qIG a b).2 = 0) : zP (qIG a b).1 = true := by
 unfold qIG at h ⊢; split
 ·rename_i h0; rw [if_pos h0] at h; exact absurd h (by decide)
 ·rename_i h0; rw [if_neg h0] at h; exact vX h
theorem qID {f : Dc → Dc → Dc × Int} (hf : ∀ {a b}, (f a b).2 = 0 → zP (f a b).1 = true) (a b : Val) (m : Int) : qT (qEI f a b m) = true := by
 unfold qEI; split
 ·exact qXX hf m
 ·exact qFG (by decide) m
theorem zKC {ks : List (List UInt8)} {vs : List Val} {key : List UInt8} {v : Val} : (∀ x ∈ (jY ks vs key v).1, x ∈ ks ∨ x = key) ∧ (∀ x ∈ (jY ks vs key v).2, x ∈ vs ∨ x = v) ∧ (ks.Nodup → (jY ks vs key v).1.Nodup) := by
 unfold jY; split
 ·rename_i h
  exact ⟨fun x hx => .inl hx, fun x hx => List.mem_or_eq_of_mem_set hx, fun h => h⟩
 ·rename_i h
  refine ⟨fun x hx => ?_, fun x hx => ?_, fun hn => ?_⟩
  ·simpa using hx
  ·simpa using hx
  ·rw [List.nodup_append]; exact ⟨hn, by simp, fun a ha b hb => by rw [List.mem_singleton.1 hb]; rintro rfl; exact h ha⟩
theorem qNV {b : Val} {ks : List (List UInt8)} {vs : List Val} (hl : b.keys.length = b.kids.length) : ∀ k, k ≤ b.keys.length → (∀ x ∈ (yF b k ks vs).1, x ∈ ks ∨ x ∈ b.keys) ∧ (∀ x ∈ (yF b k ks vs).2, x ∈ vs ∨ x ∈ b.kids) ∧ (ks.Nodup → (yF b k ks vs).1.Nodup)
 | 0, _ => ⟨fun x h => .inl h, fun x h => .inl h, fun h => h⟩
 | k + 1, hk => by
  obtain ⟨h1, h2, h3⟩ := qNV (ks := ks) (vs := vs) hl k (by omega)
  obtain ⟨p1, p2, p3⟩ := zKC (ks := (yF b k ks vs).1) (vs := (yF b k ks vs).2) (key := b.keys.getD k []) (v := b.kids.getD k wW)
  have e1 : b.keys.getD k [] ∈ b.keys := by rw [List.getD_eq_getElem?_getD, List.getElem?_eq_getElem (by omega)]; exact List.getElem_mem _
  have e2 : b.kids.getD k wW ∈ b.kids := by rw [List.getD_eq_getElem?_getD, List.getElem?_eq_getElem (by omega)]; exact List.getElem_mem _
  simp only [yF]
  refine ⟨fun x hx => ?_, fun x hx => ?_, fun hn => p3 (h3 hn)⟩
  ·rcases p1 x hx with h | h
   ·exact h1 x h
   ·rw [h]; exact .inr e1
  ·rcases p2 x hx with h | h
   ·exact h2 x h
   ·rw [h]; exact .inr e2
theorem qVN {v : Val} {m : Int} (h : v.kids.length ≤ 200 → v.text.length ≤ 4096 → qT v = true) : qT (qQH v m) = true := by
 unfold qQH; split
 ·exact qFG (by decide) m
 ·exact h (by omega) (by omega)
theorem qNY {v : Val} (h : qT v = true) (h5 : v.kind = 5) : jN v.text = true := by
 rw [kW] at h
 simp only [Bool.and_eq_true, vV] at h
 have := h.1.2.1.1.2
 unfold qHT at this
 rwa [if_pos h5] at this
theorem qYG {v : Val} (h : qT v = true) (h7 : v.kind = 7) : v.num = dc0 ∧ v.text = [] ∧ v.code = 0 ∧ qBO v.keys = true := by
 obtain ⟨h1, _, h2⟩ := qCQ h (by omega)
 rcases h2 with ⟨k, _⟩ | ⟨k, _⟩ | ⟨k, _⟩ | ⟨k, _⟩ | ⟨k, _⟩ | ⟨k, _⟩ | ⟨k, e1, e2, e3, e4⟩
 all_goals first | omega | exact ⟨e1, e2, h1, e4⟩
theorem zHA {v : Val} (h : qT v = true) (h6 : v.kind = 6) : v.num = dc0 ∧ v.text = [] ∧ v.code = 0 ∧ v.keys = [] := by
 obtain ⟨h1, _, h2⟩ := qCQ h (by omega)
 rcases h2 with ⟨k, _⟩ | ⟨k, _⟩ | ⟨k, _⟩ | ⟨k, _⟩ | ⟨k, _⟩ | ⟨k, e1, e2, e3⟩ | ⟨k, _⟩
 all_goals first | omega | exact ⟨e1, e2, h1, e3⟩
theorem zKF {a b : Val} (ha : qT a = true) (hb : qT b = true) (m : Int) : qT (qRI a b m) = true := by
 unfold qRI
 split
 ·rw [qWI]; exact hb
 split
 ·rw [qWI]; exact ha
 split
 ·rename_i h
  refine qVN fun _ ht => ?_
  have w1 := qNY ha h.1
  have w2 := qNY hb h.2
  have hw : jN (a.text ++ b.text) = true := by
   unfold jN at w1 w2 ⊢
   simp only [Bool.and_eq_true, decide_eq_true_eq] at w1 w2 ⊢
   exact ⟨by simp at ht ⊢; omega, qMI _ _ _ (Nat.le_refl _) w1.2 w2.2⟩
  exact jF (by simp) (by simp) (by simp) (by simp) (fun _ => hw) (by simp) (by simp) (by simp) (by simp) (by simp)
 split
 ·rename_i h
  refine qVN fun hk _ => ?_
  refine jF (by simp at hk ⊢; omega) (by simp) (by simp) (by simp) (by simp) (by simp) (by simp) (by simp) (by simp) fun k hk => ?_
  simp only [Val.kids_mk, List.mem_append] at hk
  rcases hk with h | h
  ·exact zU ha h
  ·exact zU hb h
 split
 ·rename_i h
  refine qVN fun hk _ => ?_
  obtain ⟨a1, a2, a3, a4⟩ := qYG ha h.1
  obtain ⟨b1, b2, b3, b4⟩ := qYG hb h.2
  obtain ⟨la, _, na⟩ := xD ha h.1
  obtain ⟨lb, _, nb⟩ := xD hb h.2
  obtain ⟨m1, m2, m3⟩ := qNV (ks := a.keys) (vs := a.kids) lb b.keys.length (Nat.le_refl _)
  obtain ⟨l1, l2⟩ := zGZ (b := b) la m
  unfold jR at hk l1 l2 ⊢
  simp only [Val.kids_mk, Val.keys_mk] at hk l1 l2
  refine jF (by simp [h.1]; omega) (by simp [h.1, a3]) (by simp [h.1]) (by simp [a1]) (by simp [h.1]) (by simp [a2]) (fun _ => ⟨l1, ?_⟩) (by simp [h.1]) (by simp [h.1]) fun k hk => ?_
  ·simp only [Val.keys_mk]
   unfold qBO at a4 b4 ⊢
   simp only [Bool.and_eq_true, List.all_eq_true, decide_eq_true_eq] at a4 b4 ⊢
   refine ⟨fun x hx => ?_, m3 na⟩
   rcases m1 x hx with h | h
   ·exact a4.1 x h
   ·exact b4.1 x h
  ·simp only [Val.kids_mk] at hk
   rcases m2 k hk with h | h
   ·exact zU ha h
   ·exact zU hb h
 ·exact qFG (by decide) m
theorem zLA {a b : Val} (ha : qT a = true) (h6 : a.kind = 6) (m : Int) : qT (qFB a b m) = true := by
 obtain ⟨a1, a2, a3, a4⟩ := zHA ha h6
 have hk : a.kids.length ≤ 200 := (qCQ ha (by omega)).2.1
 unfold qFB
 refine jF ?_ (by simp [h6, a3]) (by simp [h6]) (by simp [a1]) (by simp [h6]) (by simp [a2]) (by simp [h6]) (by simp [a4]) (by simp [h6]) fun k hk => ?_
 ·simp only [Val.kind_mk, Val.kids_mk, h6]
  have := List.length_filter_le (fun v => !(b.kids.any fun w => decide (jJ v w = 0))) a.kids
  omega
 ·simp only [Val.kids_mk] at hk
  exact zU ha (List.mem_filter.1 hk).1
theorem qRV (p : Bool → Bool → Bool) (a b : Val) (m : Int) : qT (qBW p a b m) = true := by
 unfold qBW; split
 ·exact qQS _ m
 ·exact qFG (by decide) m
theorem qUQ (op : List UInt8) {a b : Val} (ha : qT a = true) (hb : qT b = true) : qT (vY op a b) = true := by
 unfold vY
 split
 ·unfold qNN; split
  ·exact qXX zAE _
  ·exact zKF ha hb _
 split
 ·split
  ·rename_i h; exact zLA ha h.1 _
  ·exact qID (fun h => zAE h) a b _
 split
 ·exact qID zKU a b _
 split
 ·exact qID zMA a b _
 split
 ·exact qID zKX a b _
 split
 ·exact qRV _ _ _ _
 split
 ·exact qRV _ _ _ _
 ·exact qQS _ _
end Go.Proofs.YtdojfdaglbphlaaGreatDoor
