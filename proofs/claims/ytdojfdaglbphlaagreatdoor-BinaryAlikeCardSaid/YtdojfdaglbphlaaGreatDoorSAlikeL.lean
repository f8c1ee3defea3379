import Derived.Test.YtdojfdaglbphlaaGreatDoorSTwoLaw
namespace Go.Proofs.YtdojfdaglbphlaaGreatDoor
open Sy Go
set_option maxRecDepth 100000
set_option linter.unusedSimpArgs false
set_option linter.unusedVariables false
mutual
def Alk (c : Int) : Val → Val → Prop
 | .mk k m d s ks vs e, b => (yI m c ≠ 0 ∧ yI b.mask c ≠ 0) ∨ (yI m c = 0 ∧ yI b.mask c = 0 ∧ k = b.kind ∧ m = b.mask ∧ d = b.num ∧ s = b.text ∧ ks = b.keys ∧ e = b.code ∧ jI c vs b.kids)
def jI (c : Int) : List Val → List Val → Prop
 | [], [] => True
 | x :: l, y :: m => Alk c x y ∧ jI c l m
 | [], _ :: _ => False
 | _ :: _, [] => False
end
theorem qBY (c : Int) (a b : Val) : Alk c a b ↔ (yI a.mask c ≠ 0 ∧ yI b.mask c ≠ 0) ∨ (yI a.mask c = 0 ∧ yI b.mask c = 0 ∧ a.kind = b.kind ∧ a.mask = b.mask ∧ a.num = b.num ∧ a.text = b.text ∧ a.keys = b.keys ∧ a.code = b.code ∧ jI c a.kids b.kids) := by
 cases a; simp only [Alk, Val.kind_mk, Val.mask_mk, Val.num_mk, Val.text_mk, Val.keys_mk, Val.kids_mk, Val.code_mk]
theorem qBK {c : Int} : ∀ {l m : List Val}, jI c l m → l.length = m.length
 | [], [], _ => rfl
 | x :: l, y :: m, h => by simp only [jI] at h; simp [qBK h.2]
 | [], _ :: _, h => by simp only [jI] at h
 | _ :: _, [], h => by simp only [jI] at h
theorem qKC {c : Int} : ∀ {l m : List Val}, jI c l m → ∀ {k : Nat} {x y : Val}, l[k]? = some x → m[k]? = some y → Alk c x y
 | [], [], _, k, x, y, h, _ => by simp at h
 | u :: l, v :: m, h, k, x, y, hx, hy => by
  simp only [jI] at h
  cases k with
  | zero => simp at hx hy; subst hx; subst hy; exact h.1
  | succ k => simp at hx hy; exact qKC h.2 hx hy
 | [], _ :: _, h, _, _, _, _, _ => by simp only [jI] at h
 | _ :: _, [], h, _, _, _, _, _ => by simp only [jI] at h
theorem qXP {c : Int} : ∀ {l m : List Val}, l.length = m.length → (∀ (k : Nat) (x y : Val), l[k]? = some x → m[k]? = some y → Alk c x y) → jI c l m
 | [], [], _, _ => by simp only [jI]
 | u :: l, v :: m, hl, h => by
  simp only [jI]
  exact ⟨h 0 u v rfl rfl, qXP (by simpa using hl) fun k x y hx hy => h (k + 1) x y (by simpa using hx) (by simpa using hy)⟩
 | [], _ :: _, h, _ => by simp at h
 | _ :: _, [], h, _ => by simp at h
theorem vY (c : Int) (v : Val) : Alk c v v := by
 induction v using Val.induct with
 | h v ih =>
  rw [qBY]
  by_cases h : yI v.mask c = 0
  ·exact .inr ⟨h, h, rfl, rfl, rfl, rfl, rfl, rfl, qXP rfl fun k x y hx hy => by rw [hx] at hy; cases hy; exact ih x (List.mem_of_getElem? hx)⟩
  ·exact .inl ⟨h, h⟩
theorem qGG {c : Int} : ∀ {l m l' m' : List Val}, jI c l m → jI c l' m' → jI c (l ++ l') (m ++ m')
 | [], [], _, _, _, h => by simpa using h
 | x :: l, y :: m, _, _, h, h' => by
  simp only [jI] at h
  simp only [List.cons_append, jI]
  exact ⟨h.1, qGG h.2 h'⟩
 | [], _ :: _, _, _, h, _ => by simp only [jI] at h
 | _ :: _, [], _, _, h, _ => by simp only [jI] at h
theorem qCB (m n c : Int) : yI (orM m n) c = 0 ↔ yI m c = 0 ∧ yI n c = 0 := by
 unfold yI
 rw [qJE, Nat.and_or_distrib_right]
 have e : ∀ x : Nat, ((x : Nat) : Int) = 0 ↔ x = 0 := fun x => by omega
 rw [e, e, e, Nat.or_eq_zero_iff]
theorem sub_le {m n c : Int} (h : LeM m n) (hn : yI n c = 0) : yI m c = 0 := by
 unfold LeM at h
 rw [← h] at hn
 exact ((qCB m n c).1 hn).1
theorem qTZ (c : Int) : ∀ (l : List Val) (m : Int), yI (kN m l) c = 0 ↔ yI m c = 0 ∧ ∀ k ∈ l, yI (qM k) c = 0
 | [], m => by simp [kN]
 | v :: l, m => by
  simp only [kN]
  rw [qTZ c l, qCB]
  simp only [List.mem_cons, forall_eq_or_imp]
  constructor
  ·rintro ⟨⟨h1, h2⟩, h3⟩; exact ⟨h1, h2, h3⟩
  ·rintro ⟨h1, h2, h3⟩; exact ⟨⟨h1, h2⟩, h3⟩
theorem qFV (c : Int) (v : Val) : yI (qM v) c = 0 ↔ yI v.mask c = 0 ∧ ∀ k ∈ v.kids, yI (qM k) c = 0 := by rw [jX]; exact qTZ c _ _
theorem zBP (c : Int) (a : Val) : ∀ b, Alk c a b → (yI (qM a) c = 0 ↔ yI (qM b) c = 0) ∧ (yI (qM a) c = 0 → a = b) := by
 induction a using Val.induct with
 | h a ih =>
  intro b h
  rw [qBY] at h
  rcases h with ⟨h1, h2⟩ | ⟨h1, h2, e1, e2, e3, e4, e5, e6, hL⟩
  ·have n1 : ¬ yI (qM a) c = 0 := fun h => h1 ((qFV c a).1 h).1
   have n2 : ¬ yI (qM b) c = 0 := fun h => h2 ((qFV c b).1 h).1
   exact ⟨⟨fun h => absurd h n1, fun h => absurd h n2⟩, fun h => absurd h n1⟩
  ·have hl := qBK hL
   have key : ∀ (k : Nat) (x y : Val), a.kids[k]? = some x → b.kids[k]? = some y → (yI (qM x) c = 0 ↔ yI (qM y) c = 0) ∧ (yI (qM x) c = 0 → x = y) := fun k x y hx hy => ih x (List.mem_of_getElem? hx) y (qKC hL hx hy)
   refine ⟨?_, fun h => ?_⟩
   ·rw [qFV, qFV]
    refine ⟨fun ⟨_, h⟩ => ⟨h2, fun y hy => ?_⟩, fun ⟨_, h⟩ => ⟨h1, fun x hx => ?_⟩⟩
    ·obtain ⟨k, hk⟩ := List.mem_iff_getElem?.1 hy
     have hlt := (List.getElem?_eq_some_iff.1 hk).1
     obtain ⟨x, hx⟩ : ∃ x, a.kids[k]? = some x := ⟨a.kids[k]'(by omega), List.getElem?_eq_getElem _⟩
     exact (key k x y hx hk).1.1 (h x (List.mem_of_getElem? hx))
    ·obtain ⟨k, hk⟩ := List.mem_iff_getElem?.1 hx
     have hlt := (List.getElem?_eq_some_iff.1 hk).1
     obtain ⟨y, hy⟩ : ∃ y, b.kids[k]? = some y := ⟨b.kids[k]'(by omega), List.getElem?_eq_getElem _⟩
     exact (key k x y hk hy).1.2 (h y (List.mem_of_getElem? hy))
   ·have hd := ((qFV c a).1 h).2
    have hk : a.kids = b.kids := by
     apply List.ext_getElem?
     intro k
     by_cases hk : k < a.kids.length
     ·have hx : a.kids[k]? = some a.kids[k] := List.getElem?_eq_getElem hk
      have hy : b.kids[k]? = some (b.kids[k]'(by omega)) := List.getElem?_eq_getElem _
      rw [hx, hy, (key k _ _ hx hy).2 (hd _ (List.mem_of_getElem? hx))]
     ·rw [List.getElem?_eq_none (by omega), List.getElem?_eq_none (by omega)]
    cases a; cases b
    simp only [Val.kind_mk, Val.mask_mk, Val.num_mk, Val.text_mk, Val.keys_mk, Val.kids_mk, Val.code_mk] at *
    subst e1; subst e2; subst e3; subst e4; subst e5; subst e6; subst hk; rfl
theorem qNE {c : Int} {x y : Val} (h1 : yI x.mask c ≠ 0) (h2 : yI y.mask c ≠ 0) : Alk c x y := (qBY c x y).2 (.inl ⟨h1, h2⟩)
theorem zEQ {c : Int} (k m : Int) (d : Dc) (s : List UInt8) (ks : List (List UInt8)) {vs ws : List Val} (e : Int) (h : jI c vs ws) : Alk c (.mk k m d s ks vs e) (.mk k m d s ks ws e) := by
 rw [qBY]
 by_cases hm : yI m c = 0
 ·exact .inr ⟨hm, hm, rfl, rfl, rfl, rfl, rfl, rfl, h⟩
 ·exact .inl ⟨hm, hm⟩
theorem zBO {c : Int} {x y : Val} (h : Alk c x y) (m : Int) : Alk c (xC x m) (xC y m) := by
 rw [qBY] at h
 rcases h with ⟨h1, h2⟩ | ⟨h1, h2, e1, e2, e3, e4, e5, e6, hL⟩
 ·exact qNE (fun h => h1 ((qCB _ _ _).1 h).1) (fun h => h2 ((qCB _ _ _).1 h).1)
 ·unfold xC qIR
  rw [e1, e2, e3, e4, e5, e6]
  exact zEQ _ _ _ _ _ _ hL
theorem zOR {c : Int} {l m : List Val} (h : jI c l m) (k : Nat) {x y : Val} (hx : Alk c x y) : jI c (l.set k x) (m.set k y) := by
 refine qXP (by simp [qBK h]) fun j u v hu hv => ?_
 rw [List.getElem?_set] at hu hv
 split at hu
 ·rename_i e
  rw [if_pos e] at hv
  split at hu
  ·split at hv
   ·cases hu; cases hv; exact hx
   ·cases hv
  ·cases hu
 ·rename_i e
  rw [if_neg e] at hv
  exact qKC h hu hv
theorem zKA {c : Int} {l m : List Val} (h : jI c l m) (k : Nat) : Alk c (l.getD k wU) (m.getD k wU) := by
 rw [List.getD_eq_getElem?_getD, List.getD_eq_getElem?_getD]
 have hl := qBK h
 by_cases hk : k < l.length
 ·have hx : l[k]? = some l[k] := List.getElem?_eq_getElem hk
  have hy : m[k]? = some (m[k]'(by omega)) := List.getElem?_eq_getElem _
  rw [hx, hy]; exact qKC h hx hy
 ·rw [List.getElem?_eq_none (by omega), List.getElem?_eq_none (by omega)]; exact vY _ _
theorem zOI {c : Int} {ks : List (List UInt8)} {vs ws : List Val} (h : jI c vs ws) (key : List UInt8) {x y : Val} (hx : Alk c x y) : (kK ks vs key x).1 = (kK ks ws key y).1 ∧ jI c (kK ks vs key x).2 (kK ks ws key y).2 := by
 unfold kK; split
 ·exact ⟨rfl, zOR h _ hx⟩
 ·exact ⟨rfl, qGG h (by simp only [jI]; exact ⟨hx, trivial⟩)⟩
theorem qUR {c : Int} {x y : Val} (hk : x.keys = y.keys) (hx : jI c x.kids y.kids) {ks : List (List UInt8)} {vs ws : List Val} (h : jI c vs ws) : ∀ k, (zY x k ks vs).1 = (zY y k ks ws).1 ∧ jI c (zY x k ks vs).2 (zY y k ks ws).2
 | 0 => ⟨rfl, h⟩
 | k + 1 => by
  obtain ⟨h1, h2⟩ := qUR hk hx h k
  simp only [zY]
  rw [hk, h1]
  exact zOI h2 _ (zKA hx k)
theorem zGT {c : Int} {x y : Val} (m : Int) (hl : x.kids.length = y.kids.length) (ht : x.text = y.text) (h : Alk c x y) : Alk c (qGA x m) (qGA y m) := by
 unfold qGA
 rw [hl, ht]
 split
 ·exact vY _ _
 ·exact h
theorem zOJ {c : Int} {a b x y : Val} (hab : Alk c a b) (hxy : Alk c x y) (ka : a.kind = b.kind) (kx : x.kind = y.kind) (ta : a.text = b.text) (tx : x.text = y.text) (na : a.num = b.num) (ca : a.code = b.code) (ea : a.keys = b.keys) (ex : x.keys = y.keys)
  (la : jI c a.kids b.kids) (lx : jI c x.kids y.kids) (m : Int) : Alk c (qCS a x m) (qCS b y m) := by
 unfold qCS
 rw [ka, kx]
 split
 ·exact zBO hxy m
 split
 ·exact zBO hab m
 split
 ·rw [ta, tx]; exact vY _ _
 split
 ·exact zGT m (by simp [qBK la, qBK lx]) rfl (zEQ _ _ _ _ _ _ (qGG la lx))
 split
 ·obtain ⟨h1, h2⟩ := qUR (ks := b.keys) ex lx la x.keys.length
  refine zGT m ?_ ta ?_
  ·show (zY x x.keys.length a.keys a.kids).2.length = (zY y y.keys.length b.keys b.kids).2.length
   rw [ea, ← ex]; exact qBK h2
  ·unfold kL
   rw [ea, ka, na, ta, ca, ← ex, h1]
   exact zEQ _ _ _ _ _ _ h2
 ·exact vY _ _
theorem zRB {c : Int} (op : List UInt8) {a b x y : Val} (ma : qQ a = true) (mb : qQ b = true) (mx : qQ x = true) (my : qQ y = true) (ia : InV a) (ib : InV b) (ix : InV x) (iy : InV y) (hab : Alk c a b) (hxy : Alk c x y) :
  Alk c (uA op a x) (uA op b y) := by
 obtain ⟨t1, _⟩ := qWF op ma mx ia ix
 obtain ⟨t2, _⟩ := qWF op mb my ib iy
 obtain ⟨da, ea⟩ := zBP c a b hab
 obtain ⟨dx, ex⟩ := zBP c x y hxy
 have hab' := hab
 have hxy' := hxy
 rw [qBY] at hab' hxy'
 have hide : (yI a.mask c ≠ 0 ∧ yI b.mask c ≠ 0) ∨ (yI x.mask c ≠ 0 ∧ yI y.mask c ≠ 0) → Alk c (uA op a x) (uA op b y) := by
  intro h
  refine qNE (fun h0 => ?_) (fun h0 => ?_)
  ·have := (qCB _ _ _).1 (sub_le t1 h0)
   rcases h with h | h
   ·exact h.1 this.1
   ·exact h.1 this.2
  ·have := (qCB _ _ _).1 (sub_le t2 h0)
   rcases h with h | h
   ·exact h.2 this.1
   ·exact h.2 this.2
 rcases hab' with h | ⟨a1, b1, ka, ma', na, ta, ea', ca, la⟩
 ·exact hide (.inl h)
 rcases hxy' with h | ⟨x1, y1, kx, mx', nx, tx, ex', cx, lx⟩
 ·exact hide (.inr h)
 have deep : (yI (orM (qM a) (qM x)) c ≠ 0 ∧ yI (orM (qM b) (qM y)) c ≠ 0) ∨ (a = b ∧ x = y) := by
  by_cases h1 : yI (qM a) c = 0
  ·by_cases h2 : yI (qM x) c = 0
   ·exact .inr ⟨ea h1, ex h2⟩
   ·exact .inl ⟨fun h => h2 ((qCB _ _ _).1 h).2, fun h => h2 (dx.2 ((qCB _ _ _).1 h).2)⟩
  ·exact .inl ⟨fun h => h1 ((qCB _ _ _).1 h).1, fun h => h1 (da.2 ((qCB _ _ _).1 h).1)⟩
 have num : ∀ f : Dc → Dc → Dc × Int, Alk c (uS f a x (orM a.mask x.mask)) (uS f b y (orM b.mask y.mask)) := fun f => by
  unfold uS; rw [ka, kx, na, nx, ma', mx']; exact vY _ _
 have log : ∀ p : Bool → Bool → Bool, Alk c (jD p a x (orM a.mask x.mask)) (jD p b y (orM b.mask y.mask)) := fun p => by
  unfold jD yZ; rw [ka, kx, ma', mx']; exact vY _ _
 unfold uA
 split
 ·unfold qIX
  rw [ka, kx, ma', mx', na, nx]
  split
  ·exact vY _ _
  ·exact zOJ hab hxy ka kx ta tx na ca ea' ex' la lx _
 split
 ·rw [ka, kx]
  split
  ·rcases deep with h | ⟨rfl, rfl⟩
   ·exact qNE h.1 h.2
   ·exact vY _ _
  ·exact num _
 split
 ·exact num _
 split
 ·exact num _
 split
 ·exact num _
 split
 ·exact log _
 split
 ·exact log _
 ·rcases deep with h | ⟨rfl, rfl⟩
  ·exact qNE h.1 h.2
  ·exact vY _ _
end Go.Proofs.YtdojfdaglbphlaaGreatDoor
