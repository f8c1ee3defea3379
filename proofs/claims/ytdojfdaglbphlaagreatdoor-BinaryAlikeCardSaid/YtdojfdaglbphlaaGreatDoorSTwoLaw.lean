import Derived.Test.YtdojfdaglbphlaaGreatDoorSTwoV
import Derived.Test.YtdojfdaglbphlaaGreatDoorSNumL
import Derived.Test.YtdojfdaglbphlaaGreatDoorSMergeL
import Derived.Test.YtdojfdaglbphlaaGreatDoorSValidApp
import Derived.Test.YtdojfdaglbphlaaGreatDoorSTreeLaw
import Derived.Test.YtdojfdaglbphlaaGreatDoorK2
namespace Go.Proofs.YtdojfdaglbphlaaGreatDoor
open Sy Go
set_option maxRecDepth 100000
set_option linter.unusedSimpArgs false
set_option linter.unusedVariables false
theorem qFU {c : Int} (h : c ≠ 0) (m : Int) : qQ (kE c m) = true := by
 rw [yV]; simp [kE, yY, jA, qHJ, qEU, uB, jC, qEP, dc0, h]
theorem qSA (b : Bool) (m : Int) : qQ (qAC b m) = true := by
 rw [yV]; cases b <;> simp [qAC, yY, jA, qHJ, qEU, uB, jC, qEP, dc0]
theorem qZJ {r : Dc × Int} (h : r.2 = 0 → zZ r.1 = true) (m : Int) : qQ (qKP r m) = true := by
 unfold qKP; split
 ·rename_i h0
  rw [yV]; simp [yY, jA, qHJ, qEU, uB, jC, qEP, h h0]
 ·rename_i h0; exact qFU h0 m
theorem uG {neg : Bool} {v sc : Nat} (h : (jR neg v sc).2 = 0) : zZ (jR neg v sc).1 = true := qLK (qJU v) h
theorem zIF {neg : Bool} {v : Nat} {sc : Int} (h : (qJD neg v sc).2 = 0) : zZ (qJD neg v sc).1 = true := by
 unfold qJD at h ⊢; split
 ·rename_i h0; rw [if_pos h0] at h; exact uG h
 ·rename_i h0; rw [if_neg h0] at h; exact uG h
theorem zBR {a b : Dc} (h : (qMS a b).2 = 0) : zZ (qMS a b).1 = true := by
 unfold qMS at h ⊢
 split
 ·rename_i h0; rw [if_pos h0] at h; exact uG h
 ·rename_i h0; rw [if_neg h0] at h
  split
  ·rename_i h1; rw [if_pos h1] at h; exact uG h
  ·rename_i h1; rw [if_neg h1] at h; exact uG h
theorem zMG {a b : Dc} (h : (qWD a b).2 = 0) : zZ (qWD a b).1 = true := uG h
theorem zNI {a b : Dc} (h : (qJT a b).2 = 0) : zZ (qJT a b).1 = true := by
 unfold qJT at h ⊢; split
 ·rename_i h0; rw [if_pos h0] at h; exact absurd h (by decide)
 ·rename_i h0; rw [if_neg h0] at h; exact zIF h
theorem zMJ {a b : Dc} (h : (qJG a b).2 = 0) : zZ (qJG a b).1 = true := by
 unfold qJG at h ⊢; split
 ·rename_i h0; rw [if_pos h0] at h; exact absurd h (by decide)
 ·rename_i h0; rw [if_neg h0] at h; exact uG h
theorem qJC {f : Dc → Dc → Dc × Int} (hf : ∀ {a b}, (f a b).2 = 0 → zZ (f a b).1 = true) (a b : Val) (m : Int) : qQ (uS f a b m) = true := by
 unfold uS; split
 ·exact qZJ hf m
 ·exact qFU (by decide) m
theorem zLN {ks : List (List UInt8)} {vs : List Val} {key : List UInt8} {v : Val} : (∀ x ∈ (kK ks vs key v).1, x ∈ ks ∨ x = key) ∧ (∀ x ∈ (kK ks vs key v).2, x ∈ vs ∨ x = v) ∧ (ks.Nodup → (kK ks vs key v).1.Nodup) := by
 unfold kK; split
 ·rename_i h
  exact ⟨fun x hx => .inl hx, fun x hx => List.mem_or_eq_of_mem_set hx, fun h => h⟩
 ·rename_i h
  refine ⟨fun x hx => ?_, fun x hx => ?_, fun hn => ?_⟩
  ·simpa using hx
  ·simpa using hx
  ·rw [List.nodup_append]; exact ⟨hn, by simp, fun a ha b hb => by rw [List.mem_singleton.1 hb]; rintro rfl; exact h ha⟩
theorem qHW {b : Val} {ks : List (List UInt8)} {vs : List Val} (hl : b.keys.length = b.kids.length) : ∀ k, k ≤ b.keys.length → (∀ x ∈ (zY b k ks vs).1, x ∈ ks ∨ x ∈ b.keys) ∧ (∀ x ∈ (zY b k ks vs).2, x ∈ vs ∨ x ∈ b.kids) ∧ (ks.Nodup → (zY b k ks vs).1.Nodup)
 | 0, _ => ⟨fun x h => .inl h, fun x h => .inl h, fun h => h⟩
 | k + 1, hk => by
  obtain ⟨h1, h2, h3⟩ := qHW (ks := ks) (vs := vs) hl k (by omega)
  obtain ⟨p1, p2, p3⟩ := zLN (ks := (zY b k ks vs).1) (vs := (zY b k ks vs).2) (key := b.keys.getD k []) (v := b.kids.getD k wU)
  have e1 : b.keys.getD k [] ∈ b.keys := by rw [List.getD_eq_getElem?_getD, List.getElem?_eq_getElem (by omega)]; exact List.getElem_mem _
  have e2 : b.kids.getD k wU ∈ b.kids := by rw [List.getD_eq_getElem?_getD, List.getElem?_eq_getElem (by omega)]; exact List.getElem_mem _
  simp only [zY]
  refine ⟨fun x hx => ?_, fun x hx => ?_, fun hn => p3 (h3 hn)⟩
  ·rcases p1 x hx with h | h
   ·exact h1 x h
   ·rw [h]; exact .inr e1
  ·rcases p2 x hx with h | h
   ·exact h2 x h
   ·rw [h]; exact .inr e2
theorem qXD {v : Val} {m : Int} (h : v.kids.length ≤ 200 → v.text.length ≤ 4096 → qQ v = true) : qQ (qGA v m) = true := by
 unfold qGA; split
 ·exact qFU (by decide) m
 ·exact h (by omega) (by omega)
theorem qPC {v : Val} (h : qQ v = true) (h5 : v.kind = 5) : kB v.text = true := by
 rw [yV] at h
 simp only [Bool.and_eq_true, jA] at h
 have := h.1.2.1.1.2
 unfold uB at this
 rwa [if_pos h5] at this
theorem qZR {v : Val} (h : qQ v = true) (h7 : v.kind = 7) : v.num = dc0 ∧ v.text = [] ∧ v.code = 0 ∧ kX v.keys = true := by
 obtain ⟨h1, _, h2⟩ := qCX h (by omega)
 rcases h2 with ⟨k, _⟩ | ⟨k, _⟩ | ⟨k, _⟩ | ⟨k, _⟩ | ⟨k, _⟩ | ⟨k, _⟩ | ⟨k, e1, e2, e3, e4⟩
 all_goals first | omega | exact ⟨e1, e2, h1, e4⟩
theorem zIO {v : Val} (h : qQ v = true) (h6 : v.kind = 6) : v.num = dc0 ∧ v.text = [] ∧ v.code = 0 ∧ v.keys = [] := by
 obtain ⟨h1, _, h2⟩ := qCX h (by omega)
 rcases h2 with ⟨k, _⟩ | ⟨k, _⟩ | ⟨k, _⟩ | ⟨k, _⟩ | ⟨k, _⟩ | ⟨k, e1, e2, e3⟩ | ⟨k, _⟩
 all_goals first | omega | exact ⟨e1, e2, h1, e3⟩
theorem zLR {a b : Val} (ha : qQ a = true) (hb : qQ b = true) (m : Int) : qQ (qCS a b m) = true := by
 unfold qCS
 split
 ·rw [qXZ]; exact hb
 split
 ·rw [qXZ]; exact ha
 split
 ·rename_i h
  refine qXD fun _ ht => ?_
  have w1 := qPC ha h.1
  have w2 := qPC hb h.2
  have hw : kB (a.text ++ b.text) = true := by
   unfold kB at w1 w2 ⊢
   simp only [Bool.and_eq_true, decide_eq_true_eq] at w1 w2 ⊢
   exact ⟨by simp at ht ⊢; omega, qNM _ _ _ (Nat.le_refl _) w1.2 w2.2⟩
  exact jT (by simp) (by simp) (by simp) (by simp) (fun _ => hw) (by simp) (by simp) (by simp) (by simp) (by simp)
 split
 ·rename_i h
  refine qXD fun hk _ => ?_
  refine jT (by simp at hk ⊢; omega) (by simp) (by simp) (by simp) (by simp) (by simp) (by simp) (by simp) (by simp) fun k hk => ?_
  simp only [Val.kids_mk, List.mem_append] at hk
  rcases hk with h | h
  ·exact wJ ha h
  ·exact wJ hb h
 split
 ·rename_i h
  refine qXD fun hk _ => ?_
  obtain ⟨a1, a2, a3, a4⟩ := qZR ha h.1
  obtain ⟨b1, b2, b3, b4⟩ := qZR hb h.2
  obtain ⟨la, _, na⟩ := vP ha h.1
  obtain ⟨lb, _, nb⟩ := vP hb h.2
  obtain ⟨m1, m2, m3⟩ := qHW (ks := a.keys) (vs := a.kids) lb b.keys.length (Nat.le_refl _)
  obtain ⟨l1, l2⟩ := zIM (b := b) la m
  unfold kL at hk l1 l2 ⊢
  simp only [Val.kids_mk, Val.keys_mk] at hk l1 l2
  refine jT (by simp [h.1]; omega) (by simp [h.1, a3]) (by simp [h.1]) (by simp [a1]) (by simp [h.1]) (by simp [a2]) (fun _ => ⟨l1, ?_⟩) (by simp [h.1]) (by simp [h.1]) fun k hk => ?_
  ·simp only [Val.keys_mk]
   unfold kX at a4 b4 ⊢
   simp only [Bool.and_eq_true, List.all_eq_true, decide_eq_true_eq] at a4 b4 ⊢
   refine ⟨fun x hx => ?_, m3 na⟩
   rcases m1 x hx with h | h
   ·exact a4.1 x h
   ·exact b4.1 x h
  ·simp only [Val.kids_mk] at hk
   rcases m2 k hk with h | h
   ·exact wJ ha h
   ·exact wJ hb h
 ·exact qFU (by decide) m
theorem zMN {a b : Val} (ha : qQ a = true) (h6 : a.kind = 6) (m : Int) : qQ (qFP a b m) = true := by
 obtain ⟨a1, a2, a3, a4⟩ := zIO ha h6
 have hk : a.kids.length ≤ 200 := (qCX ha (by omega)).2.1
 unfold qFP
 refine jT ?_ (by simp [h6, a3]) (by simp [h6]) (by simp [a1]) (by simp [h6]) (by simp [a2]) (by simp [h6]) (by simp [a4]) (by simp [h6]) fun k hk => ?_
 ·simp only [Val.kind_mk, Val.kids_mk, h6]
  have := List.length_filter_le (fun v => !(b.kids.any fun w => decide (uX v w = 0))) a.kids
  omega
 ·simp only [Val.kids_mk] at hk
  exact wJ ha (List.mem_filter.1 hk).1
theorem qTC (p : Bool → Bool → Bool) (a b : Val) (m : Int) : qQ (jD p a b m) = true := by
 unfold jD; split
 ·exact qSA _ m
 ·exact qFU (by decide) m
theorem qWE (op : List UInt8) {a b : Val} (ha : qQ a = true) (hb : qQ b = true) : qQ (uA op a b) = true := by
 unfold uA
 split
 ·unfold qIX; split
  ·exact qZJ zBR _
  ·exact zLR ha hb _
 split
 ·split
  ·rename_i h; exact zMN ha h.1 _
  ·exact qJC (fun h => zBR h) a b _
 split
 ·exact qJC zMG a b _
 split
 ·exact qJC zNI a b _
 split
 ·exact qJC zMJ a b _
 split
 ·exact qTC _ _ _ _
 split
 ·exact qTC _ _ _ _
 ·exact qSA _ _
theorem qTX (k : Int) (m : Int) (d : Dc) (s : List UInt8) (ks : List (List UInt8)) (c : Int) : qM (.mk k m d s ks [] c) = m := by rw [jX]; rfl
def Bnd (a b x : Val) : Prop := LeM (orM a.mask b.mask) x.mask ∧ LeM (qM x) (orM (qM a) (qM b))
theorem qCN {a b : Val} (ha : InV a) (hb : InV b) : LeM (orM a.mask b.mask) (orM (qM a) (qM b)) :=
 LeM.or ((qMY a ha).trans (.or_left _ _)) ((qMY b hb).trans (.or_right _ _))
theorem qBW {a b : Val} (ha : InV a) (hb : InV b) (k : Int) (d : Dc) (s : List UInt8) (ks : List (List UInt8)) (c : Int) : Bnd a b (.mk k (orM a.mask b.mask) d s ks [] c) := by
 refine ⟨.refl (qZG _ _), ?_⟩
 rw [qTX]; exact qCN ha hb
theorem zNZ {a b : Val} (ha : InV a) (hb : InV b) (k : Int) (d : Dc) (s : List UInt8) (ks : List (List UInt8)) (c : Int) : Bnd a b (.mk k (orM (qM a) (qM b)) d s ks [] c) := by
 refine ⟨qCN ha hb, ?_⟩
 rw [qTX]; exact .refl (qZG _ _)
theorem qQL {a b : Val} (ha : InV a) (hb : InV b) {k m : Int} {d : Dc} {s : List UInt8} {ks : List (List UInt8)} {vs : List Val} {c : Int} (hm : m = orM a.mask b.mask ∨ m = orM (qM a) (qM b)) (hv : ∀ x ∈ vs, x ∈ a.kids ∨ x ∈ b.kids) :
  Bnd a b (.mk k m d s ks vs c) := by
 have h1 : LeM (orM a.mask b.mask) m ∧ LeM m (orM (qM a) (qM b)) := by
  rcases hm with rfl | rfl
  ·exact ⟨.refl (qZG _ _), qCN ha hb⟩
  ·exact ⟨qCN ha hb, .refl (qZG _ _)⟩
 refine ⟨h1.1, ?_⟩
 rw [jX]
 refine qMG h1.2 fun x hx => ?_
 rcases hv x hx with h | h
 ·have := qLA a.mask h
  rw [← jX] at this
  exact this.trans (.or_left _ _)
 ·have := qLA b.mask h
  rw [← jX] at this
  exact this.trans (.or_right _ _)
theorem qXC {a b v : Val} (ha : InV a) (hb : InV b) (h : Bnd a b v) : Bnd a b (qGA v (orM a.mask b.mask)) := by
 unfold qGA; split
 ·exact qBW ha hb _ _ _ _ _
 ·exact h
theorem zNY {a b : Val} (ma : qQ a = true) (mb : qQ b = true) (ha : InV a) (hb : InV b) : Bnd a b (qCS a b (orM a.mask b.mask)) := by
 unfold qCS
 split
 ·exact ⟨.or_right _ _, by rw [qTW]; exact LeM.or (.or_right _ _) (qCN ha hb)⟩
 split
 ·exact ⟨.or_right _ _, by rw [qTW]; exact LeM.or (.or_left _ _) (qCN ha hb)⟩
 split
 ·exact qXC ha hb (qBW ha hb _ _ _ _ _)
 split
 ·exact qXC ha hb (qQL ha hb (.inl rfl) fun x hx => List.mem_append.1 hx)
 split
 ·rename_i h
  obtain ⟨lb, _, _⟩ := vP mb h.2
  obtain ⟨_, m2, _⟩ := qHW (ks := a.keys) (vs := a.kids) lb b.keys.length (Nat.le_refl _)
  exact qXC ha hb (qQL ha hb (.inl rfl) m2)
 ·exact qBW ha hb _ _ _ _ _
theorem zBK {a b : Val} (ha : InV a) (hb : InV b) (r : Dc × Int) : Bnd a b (qKP r (orM a.mask b.mask)) := by
 unfold qKP; split
 ·exact qBW ha hb _ _ _ _ _
 ·exact qBW ha hb _ _ _ _ _
theorem qJY {a b : Val} (ha : InV a) (hb : InV b) (f : Dc → Dc → Dc × Int) : Bnd a b (uS f a b (orM a.mask b.mask)) := by
 unfold uS; split
 ·exact zBK ha hb _
 ·exact qBW ha hb _ _ _ _ _
theorem qUN {a b : Val} (ha : InV a) (hb : InV b) (p : Bool → Bool → Bool) : Bnd a b (jD p a b (orM a.mask b.mask)) := by
 unfold jD; split
 ·exact qBW ha hb _ _ _ _ _
 ·exact qBW ha hb _ _ _ _ _
theorem qWF (op : List UInt8) {a b : Val} (ma : qQ a = true) (mb : qQ b = true) (ha : InV a) (hb : InV b) : Bnd a b (uA op a b) := by
 unfold uA
 split
 ·unfold qIX; split
  ·exact zBK ha hb _
  ·exact zNY ma mb ha hb
 split
 ·split
  ·exact qQL ha hb (.inr rfl) fun x hx => .inl (List.mem_filter.1 hx).1
  ·exact qJY ha hb _
 split
 ·exact qJY ha hb _
 split
 ·exact qJY ha hb _
 split
 ·exact qJY ha hb _
 split
 ·exact qUN ha hb _
 split
 ·exact qUN ha hb _
 ·exact zNZ ha hb _ _ _ _ _
theorem qQC {a b : Val} (ha : qQ a = true) (hb : qQ b = true) : uX (qK a) b = uX a b := by
 have h1 := uI (n := Val.sz a + 1) (a := qK a) (b := b) (by rw [qGB]; exact ha) hb (by rw [zQZ]; omega)
 have h2 := uI (n := Val.sz a + 1) ha hb (by omega)
 rw [h1, h2, zEF]
theorem qQD {a b : Val} (ha : qQ a = true) (hb : qQ b = true) : uX (qK a) (qK b) = uX a b := by
 have hb' : qQ (qK b) = true := by rw [qGB]; exact hb
 rw [qQC ha hb', zBC.anti a (qK b) ha hb', qQC hb ha, ← zBC.anti a b ha hb]
theorem kO (v : Val) : (qK v).kind = v.kind := by rw [zO]; rfl
theorem qDH (v : Val) : (qK v).num = v.num := by rw [zO]; rfl
theorem qDG (v : Val) : (qK v).text = v.text := by rw [zO]; rfl
theorem qGW (v : Val) : (qK v).keys = v.keys := by rw [zO]; rfl
theorem uJ (v : Val) : (qK v).kids = v.kids.map qK := by rw [zO]; rfl
theorem qUQ (v : Val) : (qK v).code = v.code := by rw [zO]; rfl
theorem qGV (v : Val) : (qK v).mask = 0 := by rw [zO]; rfl
theorem qDI (c m : Int) : qK (kE c m) = kE c 0 := by rw [zO]; rfl
theorem qQN (b : Bool) (m : Int) : qK (qAC b m) = qAC b 0 := by rw [zO]; rfl
theorem qUP (r : Dc × Int) (m : Int) : qK (qKP r m) = qKP r 0 := by
 unfold qKP; split
 ·rw [zO]; rfl
 ·exact qDI _ _
theorem qUO (v : Val) (m : Int) : qK (xC v m) = qK v := zJO v _
theorem zJN : qK wU = wU := by rw [zO]; rfl
theorem zLO (f : Val → Val) (ks : List (List UInt8)) (vs : List Val) (key : List UInt8) (v : Val) : kK ks (vs.map f) key (f v) = ((kK ks vs key v).1, (kK ks vs key v).2.map f) := by
 unfold kK; split
 ·simp [List.map_set]
 ·simp
theorem qOZ (b : Val) (ks : List (List UInt8)) (vs : List Val) : ∀ k, zY (qK b) k ks (vs.map qK) = ((zY b k ks vs).1, (zY b k ks vs).2.map qK)
 | 0 => rfl
 | k + 1 => by
  simp only [zY]
  rw [qOZ b ks vs k, qGW, uJ]
  have e : (b.kids.map qK).getD k wU = qK (b.kids.getD k wU) := by
   rw [List.getD_eq_getElem?_getD, List.getD_eq_getElem?_getD, List.getElem?_map]
   cases b.kids[k]? with
   | none => exact zJN.symm
   | some x => rfl
  rw [e]
  exact zLO qK _ _ _ _
theorem qQP (v : Val) (m : Int) : qK (qGA v m) = qGA (qK v) 0 := by
 unfold qGA
 rw [uJ, qDG, List.length_map]
 split
 ·exact qDI _ _
 ·rfl
theorem zEJ (a b : Val) (m : Int) : qK (kL a b m) = kL (qK a) (qK b) 0 := by
 rw [zO]
 unfold kL
 rw [qGW, qGW, uJ, qOZ, kO, qDH, qDG, qUQ]
 rfl
theorem qRT (v : Val) : xC (qK v) 0 = qK v := by
 unfold xC qIR
 rw [qGV]
 cases h : qK v with
 | mk k m d s ks vs c =>
  have : m = 0 := by have := qGV v; rw [h] at this; exact this
  subst this; rfl
theorem zJP (a b : Val) (m : Int) : qK (qCS a b m) = qCS (qK a) (qK b) 0 := by
 unfold qCS
 rw [kO, kO]
 split
 ·rw [qUO, qRT]
 split
 ·rw [qUO, qRT]
 split
 ·rw [qQP, qDG, qDG, zO]; rfl
 split
 ·rw [qQP, uJ, uJ, zO]; simp
 split
 ·rw [qQP, zEJ]
 ·exact qDI _ _
theorem qGU (f : Dc → Dc → Dc × Int) (a b : Val) (m : Int) : qK (uS f a b m) = uS f (qK a) (qK b) 0 := by
 unfold uS
 rw [kO, kO, qDH, qDH]
 split
 ·exact qUP _ _
 ·exact qDI _ _
theorem qMI (v : Val) : yZ (qK v) = yZ v := by unfold yZ; rw [kO]
theorem qQO (p : Bool → Bool → Bool) (a b : Val) (m : Int) : qK (jD p a b m) = jD p (qK a) (qK b) 0 := by
 unfold jD
 rw [qMI, qMI]
 split
 ·exact qQN _ _
 ·exact qDI _ _
theorem zGR {p q : Val → Bool} : ∀ {l : List Val}, (∀ w ∈ l, p w = q w) → l.any p = l.any q
 | [], _ => rfl
 | x :: l, h => by rw [List.any_cons, List.any_cons, h x (by simp), zGR fun w hw => h w (by simp [hw])]
theorem zJR {a b : Val} (ha : qQ a = true) (hb : qQ b = true) (m : Int) : qK (qFP a b m) = qFP (qK a) (qK b) 0 := by
 rw [zO]
 unfold qFP
 rw [kO, qDH, qDG, qGW, qUQ, uJ, uJ, List.filter_map]
 simp only [Val.kind_mk, Val.num_mk, Val.text_mk, Val.keys_mk, Val.kids_mk, Val.code_mk]
 congr 2
 refine List.filter_congr fun v hv => ?_
 simp only [Function.comp, List.any_map]
 congr 1
 refine zGR fun w hw => ?_
 simp only [Function.comp]
 rw [qQD (wJ ha hv) (wJ hb hw)]
theorem zMK (op : List UInt8) {a b : Val} (ha : qQ a = true) (hb : qQ b = true) : qK (uA op a b) = uA op (qK a) (qK b) := by
 have e0 : orM (qK a).mask (qK b).mask = 0 := by rw [qGV, qGV]; rfl
 have e1 : orM (qM (qK a)) (qM (qK b)) = 0 := by rw [qTY, qTY]; rfl
 unfold uA
 rw [e0, e1]
 split
 ·unfold qIX
  rw [kO, kO, qDH, qDH]
  split
  ·exact qUP _ _
  ·exact zJP a b _
 split
 ·rw [kO, kO]
  split
  ·exact zJR ha hb _
  ·exact qGU _ _ _ _
 split
 ·exact qGU _ _ _ _
 split
 ·exact qGU _ _ _ _
 split
 ·exact qGU _ _ _ _
 split
 ·exact qQO _ _ _ _
 split
 ·exact qQO _ _ _ _
 ·rw [qQD ha hb]; exact qQN _ _
end Go.Proofs.YtdojfdaglbphlaaGreatDoor
