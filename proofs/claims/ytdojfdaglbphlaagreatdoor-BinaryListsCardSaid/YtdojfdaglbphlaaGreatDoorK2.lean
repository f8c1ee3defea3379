import Derived.Test.YtdojfdaglbphlaaGreatDoorK1
import Derived.Test.YtdojfdaglbphlaaGreatDoorM3
import Derived.Test.YtdojfdaglbphlaaGreatDoorM4
import Derived.Maps.RangeRun
import Derived.Lib.MapLaws
import Derived.Lib.ValidLaws
namespace Go.Proofs.YtdojfdaglbphlaaGreatDoor
open Sy Go
set_option maxRecDepth 100000
set_option maxHeartbeats 4000000
set_option linter.unusedSimpArgs false
set_option linter.unusedVariables false
variable {G : qQ}
def wP (v : Val) : List Val := (zB v.keys).map (qBN v)
theorem qFT {ks : List (List UInt8)} {s : List UInt8} : s ∈ zB ks ↔ s ∈ ks := (List.mergeSort_perm ks _).mem_iff
theorem zFH (ks : List (List UInt8)) : AX Tryz.prog G 163 [.p (.sl 1 (ks.map PD.str))] [] (.func (.func 209) [] [.ptr 901 0]) [] [(901, .vars 27 [.p (.sl 1 (ks.map PD.str))])] := by
 refine AX.introU tok 900 Tryz.func163 (by kernel_rfl) rfl rfl ?_
 simp only [Tryz.f163, qJ, List.map_cons, List.map_nil]
 refine rgn [] [[], [1]] ?_
 iterate 2 refine op1 tok ?_
 refine qA ?_
 refine rgn [] [[], [2]] ?_
 iterate 2 refine op1 tok ?_
 refine qA ?_
 exact AW.ret zX
theorem qMT (v : Val) (hl : v.keys.length ≤ v.kids.length) (hn : v.keys.length ≤ 1000000) : AFn Tryz.prog G 107 [v.enc] (.tup [.sl 1 ((zB v.keys).map PD.str), .sl 9 ((wP v).map Val.enc)]) := by
 refine AFn.introU tok Tryz.func107 (by kernel_rfl) rfl rfl ?_
 simp only [Tryz.f107, qJ, List.map_cons, List.map_nil]
 have hsl := vU v.keys
 have hix := zOY (G := G) v.keys
 refine rgn [] [[], [], [1]] ?_
 iterate 3 refine op1 tok ?_
 refine qA ?_
 refine rgn [] [[], []] ?_
 iterate 2 refine op1 tok ?_
 refine qV ?_
 refine qC.stepK [1, 10] (yI rfl (zFH v.keys) (by simp)) (by conv => lhs; simp) rfl ?_
 refine qC.stepK [1, 11] (yI rfl (zFT 901 v.keys (by omega)) (by simp)) (by conv => lhs; simp) rfl ?_
 refine qC.run [[1, 4]] ?_
 refine op1 tok ?_
 refine qA ?_
 refine rgn [] [[]] ?_
 refine op1 tok ?_
 refine qA ?_
 refine AW.seq ?_
 refine rgn [] [[], [], []] ?_
 iterate 3 refine op1 tok ?_
 refine qA ?_
 refine AW.block ?_
 refine AW.beginE 5 5 31 9 (by simp) (by simp) (by conv => lhs; simp) ?_
 refine AW.loop (α := Nat) (fun k => k ≤ v.keys.length) (fun k => ⟨qW 32 [(1, .ptr 1 0), (4, .p (.sl 1 ((zB v.keys).map PD.str))), (5, .ms 5), (12, .p (.sl 1 ((zB v.keys).map PD.str))), (13, .p (.int .i64 v.keys.length)), (14, .p (.int .i64 k))], [], [(1, .vars 31 v.cells), (5, .row 31 9 (((wP v).take k).map Val.enc))], 0⟩) (fun k => v.keys.length - k) (0) (by omega) ⟨qB (by simp [hsl]), rfl, by simp, by simp⟩ ?_
 rintro k hk
 refine rgn [] [[]] ?_
 refine op1 tok ?_
 refine qA ?_
 refine AW.seq ?_
 refine cnd ?_ ?_
 ·intro h15
  try simp at h15
  obtain ⟨s, hs⟩ : ∃ s, (zB v.keys)[k]? = some s := ⟨(zB v.keys)[k]'(by omega), by simp [show k < (zB v.keys).length by omega]⟩
  have hm : s ∈ v.keys := qFT.1 (List.mem_of_getElem? hs)
  have hkid := qJV hl hm
  have hi := hix s
  unfold zHP at hi
  rw [if_pos hm] at hi
  refine AW.skip ?_
  refine AW.seq ?_
  refine AW.block ?_
  have hks : (wP v)[k]? = some (qBN v s) := by simp [wP, hs]
  generalize hkv : wP v = kv at *
  have hkl : (kv.take k).length ≤ k := List.length_take_le _ _
  refine rgn [.str s] [[], [], [1, 4, 5, 7, 12, 13, 14]] ?_
  iterate 3 refine op1 tok ?_ (hv := by first | with_reducible exact True.intro | (simp [hs]; done) | omega | simp | (simp +contextual; omega))
  refine qA ?_
  refine AW.runDrawK tok mixed [1, 4, 5, 12, 13, 14] 11 [[5], [1], [19], [1], [21], [7], [22, 23], [20, 24], [25], [26], [18, 27]] [.nilp, .int .i64 (v.keys.idxOf s), (qBN v s).enc, (qBN v s).enc] [] (by kernel_rfl) (by intro C; conv => lhs; simp) (by (simp [hkid]; exact ⟨hi, by omega⟩)) (by simp [Sm.sum, Sm.foot, Sm.tch, Sm.refs]; kernel_rfl) (by intro C; conv => lhs; simp) (by first | with_reducible exact True.intro | omega | simp | (simp +contextual; omega)) ?_
  refine AW.renE 28 5 (by simp) (by conv => lhs; simp) ?_
  refine rgz [] [[], [1, 4, 5, 12, 13, 14]] ?_
  iterate 2 refine op1 tok ?_
  refine qA ?_
  exact ⟨k + 1, by omega, by omega, qB (by simp [List.take_add_one, hks]), rfl, by simp [List.take_add_one, hks], by simp [List.take_add_one, hks]⟩
 ·intro h15
  try simp at h15
  have hkl : (wP v).length = v.keys.length := by simp [wP, hsl]
  refine AW.exit ?_
  simp
  refine AW.freezeE 5 (by conv => lhs; simp) ?_
  refine rgn [] [[], [], [], [2, 3]] ?_
  iterate 4 refine op1 tok ?_
  refine qA ?_
  exact AW.ret (qI (k := by simp; rw [List.take_of_length_le (by simp; omega)]))
def yB : Nat → Val → Val → Int
 | 0, _, _ => 0
 | f + 1, a, b => if a.kind ≠ b.kind then yV a.kind b.kind else if a.kind = 4 then qAG a.num b.num else if a.kind = 5 then Lib.compareBytes a.text b.text else if a.kind = 6 then zI (yB f) a.kids b.kids
  else if a.kind = 8 then yV a.code b.code
  else if a.kind = 7 then (if zI wJ (zB a.keys) (zB b.keys) ≠ 0 then zI wJ (zB a.keys) (zB b.keys) else zI (yB f) (wP a) (wP b)) else 0
theorem vZ {v x : Val} (hl : v.keys.length ≤ v.kids.length) (h : x ∈ wP v) : x ∈ v.kids := by
 obtain ⟨s, hs, rfl⟩ := List.mem_map.1 h
 exact List.mem_of_getElem? (qJV hl (qFT.1 hs))
theorem qZP (f : Nat) (a b : Val) (ha : qT a = true) (hb : qT b = true) (ih : ∀ x ∈ a.kids, ∀ y ∈ b.kids, AFn Tryz.prog G 41 [x.enc, y.enc] (.int .i64 (yB f x y))) : AFn Tryz.prog G 41 [a.enc, b.enc] (.int .i64 (yB (f + 1) a b)) := by
 refine AFn.introU tok Tryz.func41 (by kernel_rfl) rfl rfl ?_
 simp only [Tryz.f41, qJ, List.map_cons, List.map_nil]
 have hki := zPJ (G := G) a.kind b.kind
 have hce := zPK (G := G) a.code b.code
 have hst := zDD (G := G) a.text b.text
 refine rgn [] [[], [], [2, 3]] ?_
 iterate 3 refine op1 tok ?_
 refine qA ?_
 refine AW.seq ?_
 refine rgn [] [[], [], [], [], [2, 3, 13]] ?_
 iterate 5 refine op1 tok ?_
 refine qA ?_
 refine cnd ?_ ?_
 ·intro h13
  try simp at h13
  have hR : yB (f + 1) a b = yV a.kind b.kind := by simp only [yB]; rw [if_pos h13]
  refine rgn [.nilp, .int .i64 (yV a.kind b.kind)] [[], [], [], [15, 17], [], [4]] ?_
  iterate 6 refine op1 tok ?_ (hv := by first | with_reducible exact True.intro | (exact hki; done) | omega | simp | (simp +contextual; omega))
  refine qA ?_
  exact AW.ret (qI (k := by simp [hR]))
 ·intro h13
  try simp at h13
  have hkd : ¬ a.kind ≠ b.kind := by simpa using h13
  refine AW.skip ?_
  refine AW.seq ?_
  refine rgn [] [[], [2, 3, 20]] ?_
  iterate 2 refine op1 tok ?_
  refine qA ?_
  refine AW.block ?_
  refine rgn [] [[], [2, 3, 20, 21]] ?_
  iterate 2 refine op1 tok ?_
  refine qA ?_
  refine cnd ?_ ?_
  ·intro h21
   try simp at h21
   have hR : yB (f + 1) a b = qAG a.num b.num := by simp only [yB]; rw [if_neg hkd, if_pos h21]
   have hnum := zPL (G := G) a.num b.num (zV (yZ ha h21)).1 (zV (yZ hb (by omega))).1
   refine rgn [.nilp, .int .i64 (qAG a.num b.num)] [[], [], [], [24, 26], [], [4]] ?_
   iterate 6 refine op1 tok ?_ (hv := by first | with_reducible exact True.intro | ((simp at hnum ⊢; exact hnum); done) | omega | simp | (simp +contextual; omega))
   refine qA ?_
   exact AW.ret (qI (k := by simp [hR]))
  ·intro h21
   try simp at h21
   refine rgn [] [[], [2, 3, 20, 28]] ?_
   iterate 2 refine op1 tok ?_
   refine qA ?_
   refine cnd ?_ ?_
   ·intro h28
    try simp at h28
    have hR : yB (f + 1) a b = Lib.compareBytes a.text b.text := by simp only [yB]; rw [if_neg hkd, if_neg h21, if_pos h28]
    refine rgn [.nilp, .int .i64 (Lib.compareBytes a.text b.text)] [[], [], [], [31, 33], [], [4]] ?_
    iterate 6 refine op1 tok ?_ (hv := by first | with_reducible exact True.intro | (exact hst; done) | omega | simp | (simp +contextual; omega))
    refine qA ?_
    exact AW.ret (qI (k := by simp [hR]))
   ·intro h28
    try simp at h28
    refine rgn [] [[], [2, 3, 20, 35]] ?_
    iterate 2 refine op1 tok ?_
    refine qA ?_
    refine cnd ?_ ?_
    ·intro h35
     try simp at h35
     have hR : yB (f + 1) a b = zI (yB f) a.kids b.kids := by simp only [yB]; rw [if_neg hkd, if_neg h21, if_neg h28, if_pos h35]
     have hcl := qZQ (G := G) a.kids b.kids 41 (yB f) ih
     refine rgn [.nilp, .int .i64 (zI (yB f) a.kids b.kids)] [[], [], [], [38, 40], [], [4]] ?_
     iterate 6 refine op1 tok ?_ (hv := by first | with_reducible exact True.intro | (exact hcl; done) | omega | simp | (simp +contextual; omega))
     refine qA ?_
     exact AW.ret (qI (k := by simp [hR]))
    ·intro h35
     try simp at h35
     refine rgn [] [[], [2, 3, 20, 42]] ?_
     iterate 2 refine op1 tok ?_
     refine qA ?_
     refine cnd ?_ ?_
     ·intro h42
      try simp at h42
      have hR : yB (f + 1) a b = yV a.code b.code := by simp only [yB]; rw [if_neg hkd, if_neg h21, if_neg h28, if_neg h35, if_pos h42]
      refine rgn [.nilp, .int .i64 (yV a.code b.code)] [[], [], [], [45, 47], [], [4]] ?_
      iterate 6 refine op1 tok ?_ (hv := by first | with_reducible exact True.intro | (exact hce; done) | omega | simp | (simp +contextual; omega))
      refine qA ?_
      exact AW.ret (qI (k := by simp [hR]))
     ·intro h42
      try simp at h42
      refine rgn [] [[], [2, 3, 49]] ?_
      iterate 2 refine op1 tok ?_
      refine qA ?_
      refine cnd ?_ ?_
      ·intro h49
       try simp at h49
       have hR : yB (f + 1) a b = (if zI wJ (zB a.keys) (zB b.keys) ≠ 0 then zI wJ (zB a.keys) (zB b.keys) else zI (yB f) (wP a) (wP b)) := by simp only [yB]; rw [if_neg hkd, if_neg h21, if_neg h28, if_neg h35, if_neg h42, if_pos h49]
       have hoa := xD ha h49
       have hob := xD hb (by omega)
       have hsa := qMT (G := G) a (by omega) (by omega)
       have hsb := qMT (G := G) b (by omega) (by omega)
       have hcs := zMK (G := G) (zB a.keys) (zB b.keys)
       have hcl := qZQ (G := G) (wP a) (wP b) 41 (yB f) fun x hx y hy => ih x (vZ (by omega) hx) y (vZ (by omega) hy)
       have hor := zRU (G := G) (zI wJ (zB a.keys) (zB b.keys)) (zI (yB f) (wP a) (wP b))
       rw [← hR] at hor
       refine rgn [.nilp, .tup [.sl 1 ((zB a.keys).map PD.str), .sl 9 ((wP a).map Val.enc)]] [[], [], [], [], [3, 54, 55], [], [3, 5, 6]] ?_
       iterate 7 refine op1 tok ?_ (hv := by first | with_reducible exact True.intro | ((simp at hsa ⊢; exact hsa); done) | omega | simp | (simp +contextual; omega))
       refine qA ?_
       refine rgn [.nilp, .tup [.sl 1 ((zB b.keys).map PD.str), .sl 9 ((wP b).map Val.enc)]] [[], [], [], [], [5, 6, 59, 60], [], [5, 6, 7, 8]] ?_
       iterate 7 refine op1 tok ?_ (hv := by first | with_reducible exact True.intro | ((simp at hsb ⊢; exact hsb); done) | omega | simp | (simp +contextual; omega))
       refine qA ?_
       refine rgn [.nilp, .int .i64 (zI wJ (zB a.keys) (zB b.keys)), .nilp, .int .i64 (zI (yB f) (wP a) (wP b)), .int .i64 (zI wJ (zB a.keys) (zB b.keys)), .int .i64 (zI (yB f) (wP a) (wP b)), .nilp, .int .i64 (yB (f + 1) a b)] [[], [], [6, 8, 63], [], [], [63, 66], [], [], [4]] ?_
       iterate 9 refine op1 tok ?_ (hv := by first | with_reducible exact True.intro | (first | exact hcs | exact hcl | exact hor | simp; done) | omega | simp | (simp +contextual; omega))
       refine qA ?_
       exact AW.ret qI
      ·intro h49
       try simp at h49
       have hR : yB (f + 1) a b = 0 := by simp only [yB]; rw [if_neg hkd, if_neg h21, if_neg h28, if_neg h35, if_neg h42, if_neg h49]
       refine AW.skip ?_
       refine rgn [] [[]] ?_
       refine op1 tok ?_
       refine qA ?_
       exact AW.ret (qI (k := by simp [hR]))
theorem zET : ∀ (f : Nat) (a b : Val), qT a = true → qT b = true → Val.sz a ≤ f → AFn Tryz.prog G 41 [a.enc, b.enc] (.int .i64 (yB (f + 1) a b))
 | 0, a, b, ha, hb, h => qZP 0 a b ha hb fun x hx => by have := Val.sz_kid hx; omega
 | f + 1, a, b, ha, hb, h => qZP (f + 1) a b ha hb fun x hx y hy => zET f x y (zU ha hx) (zU hb hy) (by have := Val.sz_kid hx; omega)
def jJ (a b : Val) : Int := yB (Val.sz a + 1) a b
theorem zES (a b : Val) (ha : qT a = true) (hb : qT b = true) : AFn Tryz.prog G 41 [a.enc, b.enc] (.int .i64 (jJ a b)) := zET _ a b ha hb (Nat.le_refl _)
structure Ord {α : Type} (p : α → α → Int) (S : α → Prop) : Prop where
 anti : ∀ x y, S x → S y → p x y = - p y x
 tr : ∀ x y z, S x → S y → S z → p x y ≤ 0 → p y z ≤ 0 → p x z ≤ 0
theorem Ord.refl {α : Type} {p : α → α → Int} {S : α → Prop} (h : Ord p S) {x : α} (hx : S x) : p x x = 0 := by have := h.anti x x hx hx; omega
theorem Ord.lt_le {α : Type} {p : α → α → Int} {S : α → Prop} (h : Ord p S) {x y z : α} (hx : S x) (hy : S y) (hz : S z) (h1 : p x y < 0) (h2 : p y z ≤ 0) : p x z < 0 := by
 have h3 := h.tr x y z hx hy hz (by omega) h2
 by_cases h4 : p x z = 0
 ·have a1 := h.anti x z hx hz
  have a2 := h.anti x y hx hy
  have := h.tr y z x hy hz hx h2 (by omega)
  omega
 ·omega
theorem Ord.le_lt {α : Type} {p : α → α → Int} {S : α → Prop} (h : Ord p S) {x y z : α} (hx : S x) (hy : S y) (hz : S z) (h1 : p x y ≤ 0) (h2 : p y z < 0) : p x z < 0 := by
 have h3 := h.tr x y z hx hy hz h1 (by omega)
 by_cases h4 : p x z = 0
 ·have a1 := h.anti x z hx hz
  have a2 := h.anti y z hy hz
  have := h.tr z x y hz hx hy (by omega) h1
  omega
 ·omega
theorem Ord.eq_eq {α : Type} {p : α → α → Int} {S : α → Prop} (h : Ord p S) {x y z : α} (hx : S x) (hy : S y) (hz : S z) (h1 : p x y = 0) (h2 : p y z = 0) : p x z = 0 := by
 have a1 := h.anti x y hx hy
 have a2 := h.anti y z hy hz
 have a3 := h.anti x z hx hz
 have := h.tr x y z hx hy hz (by omega) (by omega)
 have := h.tr z y x hz hy hx (by omega) (by omega)
 omega
theorem Ord.then {α : Type} {p q : α → α → Int} {S : α → Prop} (hp : Ord p S) (hq : Ord q S) : Ord (fun x y => if p x y ≠ 0 then p x y else q x y) S := by
 refine ⟨fun x y hx hy => ?_, fun x y z hx hy hz h1 h2 => ?_⟩
 ·have a1 := hp.anti x y hx hy
  have a2 := hq.anti x y hx hy
  by_cases h : p x y = 0
  ·rw [if_neg (by omega), if_neg (by omega)]; exact a2
  ·rw [if_pos h, if_pos (by omega)]; exact a1
 ·by_cases e1 : p x y = 0
  ·rw [if_neg (by omega)] at h1
   by_cases e2 : p y z = 0
   ·rw [if_neg (by omega)] at h2
    rw [if_neg (by have := hp.eq_eq hx hy hz e1 e2; omega)]
    exact hq.tr x y z hx hy hz h1 h2
   ·rw [if_pos e2] at h2
    have := hp.le_lt hx hy hz (by omega) (show p y z < 0 by omega)
    rw [if_pos (by omega)]; omega
  ·rw [if_pos e1] at h1
   by_cases e2 : p y z = 0
   ·have := hp.lt_le hx hy hz (show p x y < 0 by omega) (by omega)
    rw [if_pos (by omega)]; omega
   ·rw [if_pos e2] at h2
    have := hp.lt_le hx hy hz (show p x y < 0 by omega) h2
    rw [if_pos (by omega)]; omega
theorem Ord.of_key {α : Type} {p : α → α → Int} {S : α → Prop} (k : α → Int) (h : ∀ x y, S x → S y → p x y = sgn (k x - k y)) : Ord p S := by
 refine ⟨fun x y hx hy => ?_, fun x y z hx hy hz h1 h2 => ?_⟩
 ·rw [h x y hx hy, h y x hy hx]; unfold sgn; (repeat' split) <;> omega
 ·rw [h x y hx hy] at h1; rw [h y z hy hz] at h2; rw [h x z hx hz]
  have e1 : k x ≤ k y := by unfold sgn at h1; split at h1; · omega
                            ·split at h1 <;> omega
  have e2 : k y ≤ k z := by unfold sgn at h2; split at h2; · omega
                            ·split at h2 <;> omega
  unfold sgn; split; · omega
  ·split <;> omega
theorem qPB (a b : Int) : yV a b = sgn (a - b) := by unfold yV sgn; (repeat' split) <;> omega
theorem Ord.map {α β : Type} {p : β → β → Int} {S : β → Prop} (h : Ord p S) (f : α → β) {S' : α → Prop} (hS : ∀ x, S' x → S (f x)) : Ord (fun x y => p (f x) (f y)) S' :=
 ⟨fun x y hx hy => h.anti _ _ (hS x hx) (hS y hy), fun x y z hx hy hz => h.tr _ _ _ (hS x hx) (hS y hy) (hS z hz)⟩
theorem Ord.list {α : Type} {p : α → α → Int} {S : α → Prop} (h : Ord p S) : Ord (zI p) (fun l => ∀ x ∈ l, S x) := by
 constructor
 ·intro l
  induction l with
  | nil => intro m _ _; cases m <;> simp [zI]
  | cons x l ih =>
   intro m hl hm
   cases m with
   | nil => simp [zI]
   | cons y m =>
    simp only [zI]
    have a := h.anti x y (hl x (by simp)) (hm y (by simp))
    have := ih m (fun z hz => hl z (by simp [hz])) (fun z hz => hm z (by simp [hz]))
    by_cases e : p x y = 0
    ·rw [if_neg (by omega), if_neg (by omega)]; exact this
    ·rw [if_pos e, if_pos (by omega)]; exact a
 ·intro l
  induction l with
  | nil => intro m n _ _ _ _ _; cases n <;> simp [zI]
  | cons x l ih =>
   intro m n hl hm hn h1 h2
   cases m with
   | nil => simp [zI] at h1
   | cons y m =>
    cases n with
    | nil => simp [zI] at h2
    | cons z n =>
     have sx := hl x (by simp); have sy := hm y (by simp); have sz := hn z (by simp)
     simp only [zI] at h1 h2 ⊢
     by_cases e1 : p x y = 0
     ·rw [if_neg (by omega)] at h1
      by_cases e2 : p y z = 0
      ·rw [if_neg (by omega)] at h2
       rw [if_neg (by have := h.eq_eq sx sy sz e1 e2; omega)]
       exact ih m n (fun w hw => hl w (by simp [hw])) (fun w hw => hm w (by simp [hw])) (fun w hw => hn w (by simp [hw])) h1 h2
      ·rw [if_pos e2] at h2
       have := h.le_lt sx sy sz (by omega) (show p y z < 0 by omega)
       rw [if_pos (by omega)]; omega
     ·rw [if_pos e1] at h1
      by_cases e2 : p y z = 0
      ·have := h.lt_le sx sy sz (show p x y < 0 by omega) (by omega)
       rw [if_pos (by omega)]; omega
      ·rw [if_pos e2] at h2
       have := h.lt_le sx sy sz (show p x y < 0 by omega) h2
       rw [if_pos (by omega)]; omega
def qDW (a b : List UInt8) : Int := zI (fun x y : UInt8 => yV x.toNat y.toNat) a b
theorem qPH : Ord qDW (fun _ => True) :=
 let h := (Ord.of_key (p := fun x y : UInt8 => yV x.toNat y.toNat) (S := fun _ => True) (fun x => (x.toNat : Int)) fun x y _ _ => qPB _ _).list
 ⟨fun x y _ _ => h.anti x y (fun _ _ => trivial) (fun _ _ => trivial), fun x y z _ _ _ => h.tr x y z (fun _ _ => trivial) (fun _ _ => trivial) (fun _ _ => trivial)⟩
theorem qLK (a b : UInt8) (al bs : List UInt8) : qDW (a :: al) (b :: bs) = if yV a.toNat b.toNat ≠ 0 then yV a.toNat b.toNat else qDW al bs := rfl
theorem qMA {a b : Int} (h : a < b) : yV a b = -1 := if_pos h
theorem qMB {a b : Int} (h : b < a) : yV a b = 1 := by unfold yV; rw [if_neg (by omega), if_pos h]
theorem qAK (a : Int) : yV a a = 0 := by unfold yV; rw [if_neg (by omega), if_neg (by omega)]
theorem uU : ∀ a b : List UInt8, Lib.compareBytes a b = qDW a b
 | [], [] => rfl
 | [], _ :: _ => rfl
 | _ :: _, [] => rfl
 | a :: al, b :: bs => by
  simp only [Lib.compareBytes, qLK, UInt8.lt_iff_toNat_lt]
  by_cases h1 : a.toNat < b.toNat
  ·rw [if_pos h1, qMA (by omega)]; simp
  ·by_cases h2 : b.toNat < a.toNat
   ·rw [if_neg h1, if_pos h2, qMB (by omega)]; simp
   ·rw [if_neg h1, if_neg h2, show a.toNat = b.toNat by omega, qAK]; simpa using uU al bs
theorem qVJ : ∀ a b : List UInt8, wJ a b = qDW a b
 | [], [] => rfl
 | [], b :: bs => by simp [wJ, Op.bytesLess, qDW, zI]
 | a :: al, [] => by simp [wJ, Op.bytesLess, qDW, zI]
 | a :: al, b :: bs => by
  have ih := qVJ al bs
  rw [qLK, ← ih]
  by_cases h1 : a.toNat < b.toNat
  ·rw [qMA (by omega)]; simp [wJ, Op.bytesLess, UInt8.lt_iff_toNat_lt, h1]
  ·by_cases h2 : b.toNat < a.toNat
   ·have hne : a ≠ b := by rintro rfl; omega
    rw [qMB (by omega)]; simp [wJ, Op.bytesLess, UInt8.lt_iff_toNat_lt, h1, hne]
   ·have he : a = b := UInt8.toNat_inj.1 (by omega)
    subst he
    rw [qAK]; simp [wJ, Op.bytesLess]
theorem qFH : Ord wJ (fun _ => True) := by
 rw [show wJ = qDW from funext fun a => funext fun b => qVJ a b]; exact qPH
theorem qZL : Ord Lib.compareBytes (fun _ => True) := by
 rw [show Lib.compareBytes = qDW from funext fun a => funext fun b => uU a b]; exact qPH
theorem zMM : Ord qAG (fun d => zP d = true) := Ord.of_key qD fun x y hx hy => qKH hx hy
def vP (f : Nat) (k : Int) (a b : Val) : Int :=
 if k = 4 then qAG a.num b.num else if k = 5 then Lib.compareBytes a.text b.text else if k = 6 then zI (yB f) a.kids b.kids
 else if k = 8 then yV a.code b.code
 else if k = 7 then (if zI wJ (zB a.keys) (zB b.keys) ≠ 0 then zI wJ (zB a.keys) (zB b.keys) else zI (yB f) (wP a) (wP b)) else 0
theorem uB (f : Nat) (a b : Val) : yB (f + 1) a b = if yV a.kind b.kind ≠ 0 then yV a.kind b.kind else vP f a.kind a b := by
 simp only [yB, vP]
 by_cases h : a.kind = b.kind
 ·rw [if_neg (by simpa using h), h, qAK]; simp
 ·rw [if_pos h, if_pos (by unfold yV; split; · omega
                           ·split <;> omega)]
theorem zMS {f : Nat} (ih : Ord (yB f) (fun v => qT v = true)) (k : Int) : Ord (vP f k) (fun v => qT v = true ∧ v.kind = k) := by
 by_cases h4 : k = 4
 ·have : vP f k = fun a b => qAG a.num b.num := by funext a b; simp [vP, h4]
  rw [this]; exact zMM.map Val.num fun x hx => yZ hx.1 (by omega)
 by_cases h5 : k = 5
 ·have : vP f k = fun a b => Lib.compareBytes a.text b.text := by funext a b; simp [vP, h5]
  rw [this]; exact qZL.map Val.text fun x hx => trivial
 by_cases h6 : k = 6
 ·have : vP f k = fun a b => zI (yB f) a.kids b.kids := by funext a b; simp [vP, h6]
  rw [this]; exact ih.list.map Val.kids fun x hx y hy => zU hx.1 hy
 by_cases h8 : k = 8
 ·have : vP f k = fun a b => yV a.code b.code := by funext a b; simp [vP, h8]
  rw [this]; exact Ord.of_key Val.code fun x y _ _ => qPB _ _
 by_cases h7 : k = 7
 ·have : vP f k = fun a b => if zI wJ (zB a.keys) (zB b.keys) ≠ 0 then zI wJ (zB a.keys) (zB b.keys) else zI (yB f) (wP a) (wP b) := by funext a b; simp [vP, h7]
  rw [this]
  refine Ord.then (p := fun a b : Val => zI wJ (zB a.keys) (zB b.keys)) (q := fun a b => zI (yB f) (wP a) (wP b)) ?_ ?_
  ·exact qFH.list.map (fun v : Val => zB v.keys) fun x hx y hy => trivial
  ·exact ih.list.map wP fun x hx y hy => zU hx.1 (vZ (by have := xD hx.1 (by omega); omega) hy)
 ·have : vP f k = fun a b => 0 := by funext a b; simp [vP, h4, h5, h6, h7, h8]
  rw [this]; exact ⟨fun _ _ _ _ => by simp, fun _ _ _ _ _ _ _ _ => by simp⟩
theorem qCW {a b : Int} (h : yV a b = 0) : a = b := by unfold yV at h; split at h; · omega
                                                       ·split at h <;> omega
theorem qPC : ∀ f, Ord (yB f) (fun v => qT v = true)
 | 0 => ⟨fun _ _ _ _ => by simp [yB], fun _ _ _ _ _ _ _ _ => by simp [yB]⟩
 | f + 1 => by
  have ihb := zMS (qPC f)
  have hk : Ord (fun a b : Val => yV a.kind b.kind) (fun v => qT v = true) := Ord.of_key Val.kind fun x y _ _ => qPB _ _
  refine ⟨fun x y hx hy => ?_, fun x y z hx hy hz h1 h2 => ?_⟩
  ·rw [uB, uB]
   have a1 := hk.anti x y hx hy
   by_cases e : yV x.kind y.kind = 0
   ·have he := qCW e
    rw [if_neg (by omega), if_neg (by omega), he]
    exact (ihb y.kind).anti x y ⟨hx, he⟩ ⟨hy, rfl⟩
   ·rw [if_pos e, if_pos (by omega)]; exact a1
  ·rw [uB] at h1 h2 ⊢
   by_cases e1 : yV x.kind y.kind = 0
   ·rw [if_neg (by omega)] at h1
    by_cases e2 : yV y.kind z.kind = 0
    ·rw [if_neg (by omega)] at h2
     have := hk.eq_eq hx hy hz e1 e2
     rw [if_neg (by omega)]
     have k1 := qCW e1
     have k2 := qCW e2
     rw [← k1] at h2
     exact (ihb x.kind).tr x y z ⟨hx, rfl⟩ ⟨hy, k1.symm⟩ ⟨hz, by omega⟩ h1 h2
    ·rw [if_pos e2] at h2
     have := hk.le_lt hx hy hz (by show yV x.kind y.kind ≤ 0; omega) (show yV y.kind z.kind < 0 by omega)
     rw [if_pos (by omega)]; omega
   ·rw [if_pos e1] at h1
    have e3 : yV y.kind z.kind ≤ 0 := by
     by_cases e2 : yV y.kind z.kind = 0
     ·omega
     ·rw [if_pos e2] at h2; exact h2
    have := hk.lt_le hx hy hz (show yV x.kind y.kind < 0 by omega) e3
    rw [if_pos (by omega)]; omega
mutual
def qAT (ch : Val → Val) : Val → Val
 | .mk k m n t ks vs c => ch (.mk k m n t ks (qYJ ch vs) c)
def qYJ (ch : Val → Val) : List Val → List Val
 | [] => []
 | v :: vs => qAT ch v :: qYJ ch vs
end
theorem qRR (ch : Val → Val) : ∀ l, qYJ ch l = l.map (qAT ch)
 | [] => by simp [qYJ]
 | v :: vs => by simp [qYJ, qRR ch vs]
theorem qUS (ch : Val → Val) (v : Val) : qAT ch v = ch (.mk v.kind v.mask v.num v.text v.keys (v.kids.map (qAT ch)) v.code) := by
 cases v; simp only [qAT, qRR, Val.kind_mk, Val.mask_mk, Val.num_mk, Val.text_mk, Val.keys_mk, Val.kids_mk, Val.code_mk]
theorem kG {v : Val} (h : qT v = true) : v.keys.length ≤ 200 ∧ v.kids.length ≤ 200 := by
 by_cases h7 : v.kind = 7
 ·have := xD h h7; omega
 ·rw [kW] at h
  simp only [Bool.and_eq_true, uF, vV, qDJ, decide_eq_true_eq] at h
  obtain ⟨⟨h1, ⟨⟨_, h2⟩, _⟩⟩, _⟩ := h
  rw [if_neg h7] at h2
  simp at h2
  rw [h2]; simp; omega
def qJD (u : Val) : Val := .mk u.kind 0 u.num u.text u.keys u.kids u.code
def qFL (v : Val) : Val := qAT qJD v
def InM (a : Int) : Prop := 0 ≤ a ∧ a < 18446744073709551616
def kF (a : Int) : Nat := (a % 18446744073709551616).toNat
theorem qUN (a : Int) : kF a < 2 ^ 64 := by unfold kF; omega
theorem zEA {a : Int} (h : InM a) : ((kF a : Nat) : Int) = a := by unfold kF; unfold InM at h; omega
theorem qRL {n : Nat} (h : n < 2 ^ 64) : kF n = n := by unfold kF; omega
def orM (a b : Int) : Int := ((kF a ||| kF b : Nat) : Int)
def zWV (a b : Int) : Int := ((kF a &&& kF b : Nat) : Int)
def zWC (a b : Int) : Int := ((kF a &&& (18446744073709551615 - kF b) : Nat) : Int)
theorem zKL (a b : Int) : kF a ||| kF b < 2 ^ 64 := Nat.or_lt_two_pow (qUN a) (qUN b)
theorem qLW (a b : Int) : kF (orM a b) = kF a ||| kF b := qRL (zKL a b)
theorem zIS {n : Nat} (h : n < 2 ^ 64) : IntKind.u64.wrap (n : Int) = n := by simp [IntKind.wrap, IntKind.bits, IntKind.signed]; omega
theorem wL (a b : Int) : IntKind.u64.wrap (((a % 2 ^ IntKind.u64.bits).toNat ||| (b % 2 ^ IntKind.u64.bits).toNat : Nat) : Int) = orM a b := zIS (zKL a b)
theorem or_assoc (a b c : Int) : orM (orM a b) c = orM a (orM b c) := by
 show ((kF (orM a b) ||| kF c : Nat) : Int) = ((kF a ||| kF (orM b c) : Nat) : Int)
 rw [qLW, qLW, Nat.or_assoc]
theorem or_self {a : Int} (h : InM a) : orM a a = a := by unfold orM; rw [Nat.or_self, zEA h]
def LeM (a b : Int) : Prop := orM a b = b
theorem LeM.or_left (a b : Int) : LeM a (orM a b) := by
 unfold LeM; rw [← or_assoc]
 unfold orM; rw [qRL (zKL a a), Nat.or_self]
theorem LeM.trans {a b c : Int} (h1 : LeM a b) (h2 : LeM b c) : LeM a c := by
 unfold LeM at *; rw [← h2, ← or_assoc, h1]
theorem LeM.or {a b c : Int} (h1 : LeM a c) (h2 : LeM b c) : LeM (orM a b) c := by
 unfold LeM at *; rw [or_assoc, h2, h1]
theorem LeM.refl {a : Int} (h : InM a) : LeM a a := or_self h
theorem LeM.and {a b : Int} (h : LeM a b) (ha : InM a) : zWV b a = a := by
 unfold LeM at h
 have h1 : kF a ||| kF b = kF b := by rw [← qLW, h]
 unfold zWV
 have : kF b &&& kF a = kF a := by
  rw [← h1]
  apply Nat.eq_of_testBit_eq; intro i
  simp only [Nat.testBit_and, Nat.testBit_or]
  cases (kF a).testBit i <;> cases (kF b).testBit i <;> rfl
 rw [this, zEA ha]
theorem LeM.sub {a b : Int} (h : LeM a b) : zWC a b = 0 := by
 unfold LeM at h
 have h1 : kF a ||| kF b = kF b := by rw [← qLW, h]
 have hb := qUN b
 unfold zWC
 have : kF a &&& (18446744073709551615 - kF b) = 0 := by
  apply Nat.eq_of_testBit_eq; intro i
  rw [show 18446744073709551615 - kF b = 2 ^ 64 - (kF b + 1) by omega]
  simp only [Nat.testBit_and, Nat.testBit_two_pow_sub_succ hb, Nat.zero_testBit]
  have h3 : (kF a ||| kF b).testBit i = (kF b).testBit i := by rw [h1]
  rw [Nat.testBit_or] at h3
  revert h3
  cases (kF a).testBit i <;> cases (kF b).testBit i <;> simp
 rw [this]; rfl
def wW : Val := .mk 0 0 dc0 [] [] [] 0
@[simp] theorem zQL : wW.kind = 0 := rfl
@[simp] theorem zQK : wW.mask = 0 := rfl
@[simp] theorem zTB : wW.num.neg = false := rfl
@[simp] theorem zNN : wW.num.digits = [] := rfl
@[simp] theorem zPY : wW.num.scale = 0 := rfl
@[simp] theorem zQJ : wW.text = [] := rfl
@[simp] theorem zQN : wW.keys = [] := rfl
@[simp] theorem zQM : wW.kids = [] := rfl
@[simp] theorem zQO : wW.code = 0 := rfl
@[simp] def zPZ : List V := [.p (.int .i64 0), .p (.int .u64 0), .p (.bool false), .p (.str []), .p (.int .i64 0), .p (.str []), .nilsl, .nilsl, .p (.int .i64 0)]
def qPS (v : Val) (m : Int) : Val := .mk v.kind m v.num v.text v.keys v.kids v.code
@[simp] theorem zTG (u : Val) (m : Int) : (qPS u m).kind = u.kind := rfl
@[simp] theorem zTF (u : Val) (m : Int) : (qPS u m).mask = m := rfl
@[simp] theorem zWE (u : Val) (m : Int) : (qPS u m).num = u.num := rfl
@[simp] theorem zTE (u : Val) (m : Int) : (qPS u m).text = u.text := rfl
@[simp] theorem zTI (u : Val) (m : Int) : (qPS u m).keys = u.keys := rfl
@[simp] theorem zTH (u : Val) (m : Int) : (qPS u m).kids = u.kids := rfl
@[simp] theorem zTJ (u : Val) (m : Int) : (qPS u m).code = u.code := rfl
def qXD (v : Val) (l : List Val) : Val := .mk v.kind v.mask v.num v.text v.keys l v.code
@[simp] theorem zTM (u : Val) (m : List Val) : (qXD u m).kind = u.kind := rfl
@[simp] theorem zTL (u : Val) (m : List Val) : (qXD u m).mask = u.mask := rfl
@[simp] theorem zWF (u : Val) (m : List Val) : (qXD u m).num = u.num := rfl
@[simp] theorem zTK (u : Val) (m : List Val) : (qXD u m).text = u.text := rfl
@[simp] theorem zTO (u : Val) (m : List Val) : (qXD u m).keys = u.keys := rfl
@[simp] theorem zTN (u : Val) (m : List Val) : (qXD u m).kids = m := rfl
@[simp] theorem zTP (u : Val) (m : List Val) : (qXD u m).code = u.code := rfl
def qAL (v : Val) (m : Int) : Val := qPS v (orM v.mask m)
@[simp] theorem zQT (u : Val) (m : Int) : (qAL u m).kind = u.kind := rfl
@[simp] theorem zQS (u : Val) (m : Int) : (qAL u m).mask = orM u.mask m := rfl
@[simp] theorem zTC (u : Val) (m : Int) : (qAL u m).num = u.num := rfl
@[simp] theorem zQR (u : Val) (m : Int) : (qAL u m).text = u.text := rfl
@[simp] theorem zQV (u : Val) (m : Int) : (qAL u m).keys = u.keys := rfl
@[simp] theorem zQU (u : Val) (m : Int) : (qAL u m).kids = u.kids := rfl
@[simp] theorem zQW (u : Val) (m : Int) : (qAL u m).code = u.code := rfl
theorem xP (v : Val) : qFL v = qXD (qPS v 0) (v.kids.map qFL) := by
 show qAT qJD v = _
 rw [qUS]; rfl
@[simp] theorem zSJ (u : Val) : (qFL u).kind = u.kind := by rw [xP]; rfl
@[simp] theorem zSI (u : Val) : (qFL u).mask = 0 := by rw [xP]; rfl
@[simp] theorem zTW (u : Val) : (qFL u).num = u.num := by rw [xP]; rfl
@[simp] theorem zSH (u : Val) : (qFL u).text = u.text := by rw [xP]; rfl
@[simp] theorem zSL (u : Val) : (qFL u).keys = u.keys := by rw [xP]; rfl
@[simp] theorem zSK (u : Val) : (qFL u).kids = u.kids.map qFL := by rw [xP]; rfl
@[simp] theorem zSM (u : Val) : (qFL u).code = u.code := by rw [xP]; rfl
theorem qUR (v : Val) : qAT id v = v := by
 induction v using Val.induct with
 | h v ih =>
  rw [qUS]
  have : v.kids.map (qAT id) = v.kids := by
   conv => rhs; rw [← List.map_id v.kids]
   exact List.map_congr_left fun k hk => ih k hk
  rw [this]; cases v; rfl
mutual
def qZ : Val → Int
 | .mk _ m _ _ _ vs _ => qAZ m vs
def qAZ (m : Int) : List Val → Int
 | [] => m
 | v :: vs => qAZ (orM m (qZ v)) vs
end
theorem qOV (v : Val) : qZ v = qAZ v.mask v.kids := by cases v; simp only [qZ, Val.mask_mk, Val.kids_mk]
theorem qVH (l : List Val) (x : Val) : ∀ m, qAZ m (l ++ [x]) = orM (qAZ m l) (qZ x) := by
 induction l with
 | nil => intro m; simp only [List.nil_append, qAZ]
 | cons y l ih => intro m; simp only [List.cons_append, qAZ, ih]
theorem uA {m : Int} {l : List Val} {k : Nat} {x : Val} (h : l[k]? = some x) : qAZ m (l.take (k + 1)) = orM (qAZ m (l.take k)) (qZ x) := by
 rw [List.take_add_one, h]; exact qVH _ _ _
@[simp] theorem zTT (m : Int) : qAZ m [] = m := by simp only [qAZ]
mutual
def InV : Val → Prop
 | .mk _ m _ _ _ vs _ => InM m ∧ zNI vs
def zNI : List Val → Prop
 | [] => True
 | v :: vs => InV v ∧ zNI vs
end
theorem zAI : ∀ l, zNI l ↔ ∀ v ∈ l, InV v
 | [] => by simp [zNI]
 | v :: vs => by simp [zNI, zAI vs]
theorem qVW (v : Val) : InV v ↔ InM v.mask ∧ ∀ k ∈ v.kids, InV k := by cases v; simp only [InV, zAI, Val.mask_mk, Val.kids_mk]
theorem zNH {v : Val} (h : InV v) : InM v.mask := ((qVW v).1 h).1
mutual
def zWR : Val → Nat
 | .mk _ _ _ _ _ vs _ => zPE 0 vs + 1
def zPE (d : Nat) : List Val → Nat
 | [] => d
 | v :: vs => zPE (max d (zWR v)) vs
end
@[simp] theorem zWS (m : Nat) : zPE m [] = m := by simp only [zPE]
theorem zDJ (v : Val) : Val.sz v = 1 + Val.szL v.kids := by cases v; simp only [Val.sz, Val.kids_mk]
theorem qMP (l m : List Val) : Val.szL (l ++ m) = Val.szL l + Val.szL m := by
 induction l with
 | nil => simp [Val.szL]
 | cons y l ih => simp only [List.cons_append, Val.szL, ih]; omega
@[simp] theorem zNY : Val.szL [] = 0 := by simp only [Val.szL]
@[simp] theorem zNX (x : Val) : Val.szL [x] = Val.sz x := by simp only [Val.szL, Nat.add_zero]
theorem zQY (v : Val) : 1 ≤ Val.sz v := by rw [zDJ]; omega
theorem zDK : ∀ l : List Val, l.length ≤ Val.szL l
 | [] => by simp
 | v :: l => by simp only [Val.szL, List.length_cons]; have := zDK l; have := zQY v; omega
theorem qHC {v : Val} {n : Nat} (h : Val.sz v ≤ n) : v.kids.length ≤ n := by rw [zDJ] at h; have := zDK v.kids; omega
theorem qHJ {α : Type} {p q : α → α → Int} : ∀ {l m : List α}, (∀ x ∈ l, ∀ y ∈ m, p x y = q x y) → zI p l m = zI q l m
 | [], [], _ => rfl
 | [], _ :: _, _ => rfl
 | _ :: _, [], _ => rfl
 | x :: l, y :: m, h => by
  simp only [zI]
  rw [h x (by simp) y (by simp), qHJ (fun a ha b hb => h a (by simp [ha]) b (by simp [hb]))]
theorem qZR {α β : Type} {p : β → β → Int} (g : α → β) : ∀ {l m : List α}, zI p (l.map g) (m.map g) = zI (fun x y => p (g x) (g y)) l m
 | [], [] => rfl
 | [], _ :: _ => rfl
 | _ :: _, [] => rfl
 | x :: l, y :: m => by simp only [List.map_cons, zI, qZR g]
theorem qSV : ∀ (f g : Nat) (a b : Val), qT a = true → qT b = true → Val.sz a < f → Val.sz a < g → yB f a b = yB g a b
 | 0, _, a, _, _, _, h, _ => by omega
 | _ + 1, 0, a, _, _, _, _, h => by omega
 | f + 1, g + 1, a, b, ha, hb, hf, hg => by
  have key : ∀ l m : List Val, (∀ x ∈ l, x ∈ a.kids) → (∀ y ∈ m, y ∈ b.kids) → zI (yB f) l m = zI (yB g) l m := fun l m hl hm => qHJ fun x hx y hy => by
   have := Val.sz_kid (hl x hx)
   exact qSV f g x y (zU ha (hl x hx)) (zU hb (hm y hy)) (by omega) (by omega)
  rw [uB, uB]
  by_cases hk : yV a.kind b.kind = 0
  ·rw [if_neg (by omega), if_neg (by omega)]
   have hkk := qCW hk
   unfold vP
   rw [key a.kids b.kids (fun _ h => h) (fun _ h => h)]
   by_cases h7 : a.kind = 7
   ·rw [key (wP a) (wP b) (fun x hx => vZ (by have := xD ha h7; omega) hx) (fun y hy => vZ (by have := xD hb (by omega); omega) hy)]
   ·by_cases h4 : a.kind = 4
    ·simp [h4]
    by_cases h5 : a.kind = 5
    ·simp [h5]
    by_cases h6 : a.kind = 6
    ·simp [h6]
    by_cases h8 : a.kind = 8
    ·simp [h8]
    simp [h4, h5, h6, h7, h8]
  ·rw [if_pos hk, if_pos hk]
theorem qAJ {a b : Val} (ha : qT a = true) (hb : qT b = true) {n : Nat} (h : Val.sz a < n) : jJ a b = yB n a b := qSV _ _ a b ha hb (by omega) h
theorem qIZ : Ord jJ (fun v => qT v = true) := by
 refine ⟨fun x y hx hy => ?_, fun x y z hx hy hz h1 h2 => ?_⟩
 ·rw [qAJ (n := Val.sz x + Val.sz y + 1) hx hy (by omega), qAJ (n := Val.sz x + Val.sz y + 1) hy hx (by omega)]
  exact (qPC _).anti x y hx hy
 ·rw [qAJ (n := Val.sz x + Val.sz y + 1) hx hy (by omega)] at h1
  rw [qAJ (n := Val.sz x + Val.sz y + 1) hy hz (by omega)] at h2
  rw [qAJ (n := Val.sz x + Val.sz y + 1) hx hz (by omega)]
  exact (qPC _).tr x y z hx hy hz h1 h2
section
variable {α : Type}
def qAC (le : α → α → Bool) (s : α) (l : List α) : Nat := (l.takeWhile fun x => le x s).length
def qHG (le : α → α → Bool) (l : List α) (s : α) : List α := l.take (qAC le s l) ++ [s] ++ l.drop (qAC le s l)
def qEE (le : α → α → Bool) (l : List α) : List α := l.foldl (qHG le) []
variable {le : α → α → Bool}
theorem zON (s : α) (l : List α) : qAC le s l ≤ l.length := (List.takeWhile_sublist _).length_le
theorem zGM (s : α) (l : List α) : l.take (qAC le s l) = l.takeWhile fun x => le x s := by
 unfold qAC
 induction l with
 | nil => rfl
 | cons a l ih => rw [List.takeWhile_cons]; split
                  ·simp [ih]
                  ·rfl
theorem zGN (s : α) (l : List α) : l.drop (qAC le s l) = l.dropWhile fun x => le x s := by
 unfold qAC
 induction l with
 | nil => rfl
 | cons a l ih => rw [List.takeWhile_cons, List.dropWhile_cons]; split
                  ·simp [ih]
                  ·rfl
theorem zDV {s x : α} {l : List α} {k : Nat} (hk : k ≤ qAC le s l) (hx : l[k]? = some x) : le x s = true ↔ k < qAC le s l := by
 induction l generalizing k with
 | nil => simp at hx
 | cons a l ih =>
  unfold qAC at hk ⊢
  rw [List.takeWhile_cons] at hk ⊢
  cases k with
  | zero => simp at hx; subst hx; split <;> simp_all
  | succ k =>
   split at hk
   ·rename_i h
    rw [if_pos h]
    simp at hx hk
    have := ih (k := k) hk hx
    unfold qAC at this
    simpa using this
   ·simp at hk
theorem qSG (l : List α) (s : α) : (qHG le l s).Perm (s :: l) := by
 unfold qHG
 have : (l.take (qAC le s l) ++ [s] ++ l.drop (qAC le s l)).Perm (s :: (l.take (qAC le s l) ++ l.drop (qAC le s l))) := by
  rw [List.append_assoc]; exact List.perm_middle
 rwa [List.take_append_drop] at this
theorem zFS {p : α → Bool} {l : List α} {x : α} (h : x ∈ l.takeWhile p) : p x = true := by
 induction l with
 | nil => simp at h
 | cons a l ih =>
  rw [List.takeWhile_cons] at h
  split at h
  ·rename_i ha
   rcases List.mem_cons.1 h with rfl | h
   ·exact ha
   ·exact ih h
  ·simp at h
theorem qYV {S : α → Prop} (tot : ∀ a b, S a → S b → le a b = true ∨ le b a = true) (tr : ∀ a b c, S a → S b → S c → le a b = true → le b c = true → le a c = true) {l : List α} {s : α} (hS : ∀ x ∈ l, S x) (hs : S s)
  (h : l.Pairwise fun a b => le a b = true) : (qHG le l s).Pairwise fun a b => le a b = true := by
 have h0 := h
 rw [← List.take_append_drop (qAC le s l) l, List.pairwise_append] at h
 obtain ⟨h1, h2, h3⟩ := h
 have hd : ∀ x ∈ l.drop (qAC le s l), le s x = true := by
  have hm : ∀ x ∈ l.drop (qAC le s l), S x := fun x hx => hS x (List.mem_of_mem_drop hx)
  rw [zGN] at h2 hm ⊢
  cases hq : l.dropWhile fun x => le x s with
  | nil => simp
  | cons y m =>
   rw [hq] at hm
   have hy : le y s = false := by
    have := List.head?_dropWhile_not (fun x => le x s) l
    rw [hq] at this; simpa using this
   have hsy : le s y = true := (tot s y hs (hm y (by simp))).resolve_right (by simp [hy])
   rw [hq] at h2
   rw [List.pairwise_cons] at h2
   intro x hx
   have hSx := hm x hx
   rcases List.mem_cons.1 hx with rfl | hx
   ·exact hsy
   ·exact tr s y x hs (hm y (by simp)) hSx hsy (h2.1 x hx)
 unfold qHG
 rw [List.append_assoc, List.pairwise_append]
 refine ⟨h1, ?_, fun a ha b hb => ?_⟩
 ·show (s :: l.drop (qAC le s l)).Pairwise _
  rw [List.pairwise_cons]; exact ⟨hd, h2⟩
 ·rcases List.mem_cons.1 hb with rfl | hb
  ·rw [zGM] at ha; exact zFS (p := fun x => le x b) ha
  ·exact h3 a ha b hb
theorem zBC (l : List α) (s : α) : qEE le (l ++ [s]) = qHG le (qEE le l) s := by unfold qEE; rw [List.foldl_append]; rfl
theorem zBB {l : List α} {k : Nat} {s : α} (h : l[k]? = some s) : qEE le (l.take (k + 1)) = qHG le (qEE le (l.take k)) s := by rw [List.take_add_one, h]; exact zBC _ _
theorem qDD (l : List α) : (qEE le l).Perm l := by
 have : ∀ (l m : List α), (l.foldl (qHG le) m).Perm (l ++ m) := by
  intro l
  induction l with
  | nil => exact fun m => .refl _
  | cons s l ih =>
   intro m
   refine (ih (qHG le m s)).trans ?_
   exact ((qSG m s).append_left l).trans List.perm_middle
 simpa [qEE] using this l []
theorem kD (l : List α) : (qEE le l).length = l.length := (qDD l).length_eq
theorem qCH {l : List α} {x : α} : x ∈ qEE le l ↔ x ∈ l := (qDD l).mem_iff
theorem qHU {S : α → Prop} (tot : ∀ a b, S a → S b → le a b = true ∨ le b a = true) (tr : ∀ a b c, S a → S b → S c → le a b = true → le b c = true → le a c = true) {l : List α} (hS : ∀ x ∈ l, S x) : (qEE le l).Pairwise fun a b => le a b = true := by
 have : ∀ (l m : List α), (∀ x ∈ l, S x) → (∀ x ∈ m, S x) → m.Pairwise (fun a b => le a b = true) → (l.foldl (qHG le) m).Pairwise fun a b => le a b = true := by
  intro l
  induction l with
  | nil => exact fun m _ _ h => h
  | cons s l ih =>
   intro m hl hm h
   refine ih (qHG le m s) (fun x hx => hl x (by simp [hx])) (fun x hx => ?_) (qYV tot tr hm (hl s (by simp)) h)
   rcases List.mem_cons.1 ((qSG m s).mem_iff.1 hx) with rfl | hx
   ·exact hl _ (by simp)
   ·exact hm x hx
 exact this l [] hS (by simp) List.Pairwise.nil
theorem qSS {p : α → α → Int} {S : α → Prop} (h : Ord p S) : ∀ {l m : List α}, (∀ x ∈ l, S x) → (∀ x ∈ m, S x) → l.Pairwise (fun a b => p a b ≤ 0) → m.Pairwise (fun a b => p a b ≤ 0) →
  (∀ z, S z → l.countP (fun w => decide (p w z ≤ 0)) = m.countP (fun w => decide (p w z ≤ 0))) → l.length = m.length → zI p l m = 0
 | [], [], _, _, _, _, _, _ => rfl
 | [], _ :: _, _, _, _, _, _, hl => by simp at hl
 | _ :: _, [], _, _, _, _, _, hl => by simp at hl
 | x :: l, y :: m, hx, hy, sx, sy, hc, hl => by
  rw [List.pairwise_cons] at sx sy
  have Sx := hx x (by simp)
  have Sy := hy y (by simp)
  have rx := h.refl Sx
  have ry := h.refl Sy
  have key : ∀ {u v : α} {a b : List α}, S u → S v → (∀ w ∈ b, S w) → p u u = 0 → (∀ w ∈ b, p v w ≤ 0) → (u :: a).countP (fun w => decide (p w u ≤ 0)) = (v :: b).countP (fun w => decide (p w u ≤ 0)) → p v u ≤ 0 := by
   intro u v a b Su Sv Sb hu hb he
   have hpos : 0 < (v :: b).countP (fun w => decide (p w u ≤ 0)) := by rw [← he]; exact List.countP_pos_iff.2 ⟨u, by simp, by simp [hu]⟩
   obtain ⟨w, hw, hwu⟩ := List.countP_pos_iff.1 hpos
   simp only [decide_eq_true_eq] at hwu
   rcases List.mem_cons.1 hw with rfl | hw
   ·exact hwu
   ·exact h.tr v w u Sv (Sb w hw) Su (hb w hw) hwu
  have k1 := key (a := l) Sx Sy (fun w hw => hy w (by simp [hw])) rx sy.1 (hc x Sx)
  have k2 := key (a := m) Sy Sx (fun w hw => hx w (by simp [hw])) ry sx.1 (hc y Sy).symm
  have k3 := h.anti x y Sx Sy
  have e0 : p x y = 0 := by omega
  have e1 : p y x = 0 := by omega
  simp only [zI]
  rw [if_neg (by omega)]
  refine qSS h (fun w hw => hx w (by simp [hw])) (fun w hw => hy w (by simp [hw])) sx.2 sy.2 (fun z Sz => ?_) (by simpa using hl)
  have := hc z Sz
  rw [List.countP_cons, List.countP_cons] at this
  have hiff : p x z ≤ 0 ↔ p y z ≤ 0 := ⟨fun g => h.tr y x z Sy Sx Sz (by omega) g, fun g => h.tr x y z Sx Sy Sz (by omega) g⟩
  have hd : decide (p x z ≤ 0) = decide (p y z ≤ 0) := by rw [Bool.eq_iff_iff]; simpa using hiff
  rw [hd] at this
  omega
end
def leV (a b : Val) : Bool := decide (jJ a b ≤ 0)
theorem zEJ (a b : Val) (ha : qT a = true) (hb : qT b = true) : leV a b = true ∨ leV b a = true := by
 unfold leV; simp only [decide_eq_true_eq]; have := qIZ.anti a b ha hb; omega
theorem zLB (a b c : Val) (ha : qT a = true) (hb : qT b = true) (hc : qT c = true) (h1 : leV a b = true) (h2 : leV b c = true) : leV a c = true := by
 unfold leV at *; simp only [decide_eq_true_eq] at *; exact qIZ.tr a b c ha hb hc h1 h2
def wR (l : List Val) : List Val := qEE leV l
theorem qRY {l : List Val} (h : ∀ x ∈ l, qT x = true) (hl : l.length ≤ 200) (m : Int) : qT (.mk 6 m dc0 [] [] l 0) = true := by
 rw [kW]; simp [uF, vV, qOZ, qXW, qHT, qDJ, qOF, dc0, hl]; exact h
theorem zCU {a b : List Val} (hp : a.Perm b) (h : ∀ x ∈ a, qT x = true) (hl : a.length ≤ 200) (m n : Int) : jJ (.mk 6 m dc0 [] [] (wR a) 0) (.mk 6 n dc0 [] [] (wR b) 0) = 0 := by
 have hb : ∀ x ∈ b, qT x = true := fun x hx => h x (hp.mem_iff.2 hx)
 have h1 : ∀ x ∈ wR a, qT x = true := fun x hx => h x (qCH.1 hx)
 have h2 : ∀ x ∈ wR b, qT x = true := fun x hx => hb x (qCH.1 hx)
 have e : zI jJ (wR a) (wR b) = 0 := by
  refine qSS qIZ h1 h2 ?_ ?_ (fun z hz => ?_) ?_
  ·have := qHU (S := fun v => qT v = true) zEJ zLB h
   simpa [leV, wR] using this
  ·have := qHU (S := fun v => qT v = true) zEJ zLB hb
   simpa [leV, wR] using this
  ·exact (((qDD a).trans hp).trans (qDD b).symm).countP_eq _
  ·unfold wR; rw [kD, kD]; exact hp.length_eq
 unfold jJ
 rw [uB, if_neg (by simp [qAK])]
 unfold vP
 rw [if_neg (by simp), if_neg (by simp), if_pos (by simp), ← e]
 exact qHJ fun x hx y hy => (qAJ (h1 x hx) (h2 y hy) (Val.sz_kid (v := .mk 6 m dc0 [] [] (wR a) 0) hx)).symm
theorem qUD (v : Val) (hlm : v.kids.length ≤ 1000000) (ih : ∀ k ∈ v.kids, AFn Tryz.prog G 16 [k.enc] (.int .u64 (qZ k))) : AFn Tryz.prog G 16 [v.enc] (.int .u64 (qZ v)) := by
 refine AFn.introU tok Tryz.func16 (by kernel_rfl) rfl rfl ?_
 simp only [Tryz.f16, qJ, List.map_cons, List.map_nil]
 refine rgn [] [[], [1]] ?_
 iterate 2 refine op1 tok ?_
 refine qA ?_
 refine rgn [] [[], [], [1, 3]] ?_
 iterate 3 refine op1 tok ?_
 refine qA ?_
 refine AW.seq ?_
 refine rgn [] [[]] ?_
 refine op1 tok ?_
 refine qA ?_
 refine AW.block ?_
 refine AW.loop (α := Nat) (fun k => k ≤ v.kids.length) (fun k => ⟨qW 23 [(1, .ptr 1 0), (3, .p (.int .u64 (qAZ v.mask (v.kids.take k)))), (4, .p (.int .i64 k))], [], [(1, .vars 31 v.cells)], 0⟩) (fun k => v.kids.length - k) (0) (by omega) ⟨qB (by simp), rfl, by simp, by simp⟩ ?_
 rintro k hk
 refine AW.seq ?_
 refine rgn [] [[], [], [], [], [1, 3, 4, 11]] ?_
 iterate 5 refine op1 tok ?_
 refine qA ?_
 refine cnd ?_ ?_
 ·intro h11
  try simp at h11
  obtain ⟨x, hx⟩ : ∃ x, v.kids[k]? = some x := ⟨v.kids[k], by simp [h11]⟩
  have hix := ih x (List.mem_of_getElem? hx)
  simp only [Val.enc_def] at hix
  refine AW.skip ?_
  refine AW.seq ?_
  refine AW.block ?_
  refine rgz [x.enc, .nilp, .int .u64 (qZ x)] [[], [], [], [], [1, 4, 14, 18], [], [], [1, 4, 21], [1, 3, 4]] ?_
  iterate 9 refine op1 tok ?_ (h := by intro C; conv => lhs; simp [wL]) (hv := by first | with_reducible exact True.intro | (first | exact hix | simp [hx]; done) | omega | simp | (simp +contextual; omega))
  refine qA ?_
  refine rgz [] [[], [], [1, 3, 4]] ?_
  iterate 3 refine op1 tok ?_
  refine qA ?_
  exact ⟨k + 1, by omega, by omega, qB (by simp [uA hx]), rfl, by simp [uA hx], by simp [uA hx]⟩
 ·intro h11
  try simp at h11
  rw [List.take_of_length_le h11]
  refine AW.exit ?_
  simp
  refine rgn [] [[], [2]] ?_
  iterate 2 refine op1 tok ?_
  refine qA ?_
  exact AW.ret (qI (k := by simp [qOV v]))
theorem zBI (v : Val) : qT v = true → AFn Tryz.prog G 16 [v.enc] (.int .u64 (qZ v)) :=
 Val.induct (p := fun v => qT v = true → AFn Tryz.prog G 16 [v.enc] (.int .u64 (qZ v))) (fun v ih hv => qUD v (by have := kG hv; omega) fun k hk => ih k hk (zU hv hk)) v
theorem qRE (v : Val) (s : List UInt8) (hl : v.keys.length ≤ v.kids.length) (hlm : v.keys.length ≤ 1000000) : AFn Tryz.prog G 53 [v.enc, .str s] (.tup [(if s ∈ v.keys then qBN v s else wW).enc, .bool (decide (s ∈ v.keys))]) := by
 refine AFn.introU tok Tryz.func53 (by kernel_rfl) rfl rfl ?_
 simp only [Tryz.f53, qJ, List.map_cons, List.map_nil]
 refine rgn [] [[], [], [1, 2, 4]] ?_
 iterate 3 refine op1 tok ?_
 refine qA ?_
 refine AW.seq ?_
 refine rgn [] [[]] ?_
 refine op1 tok ?_
 refine qA ?_
 refine AW.block ?_
 refine AW.loop (α := Nat) (fun k => k ≤ v.keys.length ∧ s ∉ v.keys.take k) (fun k => ⟨qW 34 [(1, .p (.str s)), (2, .ptr 2 0), (4, .ptr 4 0), (6, .p (.int .i64 k))], [], [(2, .vars 31 v.cells), (4, .vars 31 zPZ)], 0⟩) (fun k => v.keys.length - k) (0) ⟨by omega, by simp⟩ ⟨qB (by simp), rfl, by simp, by simp⟩ ?_
 rintro k ⟨hk, hno⟩
 refine AW.seq ?_
 refine rgn [] [[], [], [], [], [1, 2, 4, 6, 11], [], [], [], [], [], [1, 2, 4, 6, 12, 17], [1, 2, 4, 6, 18]] ?_
 iterate 6 refine op1 tok ?_
 iterate 5 refine op2 tok ?_
 refine op1 tok ?_
 refine qA ?_
 refine cnd ?_ ?_
 ·intro h18
  try simp at h18
  have h18' : k < v.keys.length := by omega
  obtain ⟨x, hx⟩ : ∃ x, v.keys[k]? = some x := ⟨v.keys[k], by simp [h18']⟩
  refine AW.skip ?_
  refine AW.seq ?_
  refine AW.block ?_
  refine rgn [.str x] [[], [], [], [], [1, 2, 4, 6, 25], [], [1, 2, 4, 6, 27]] ?_
  iterate 7 refine op1 tok ?_ (hv := by first | with_reducible exact True.intro | (simp [hx]; done) | omega | simp | (simp +contextual; omega))
  refine qA ?_
  refine cnd ?_ ?_
  ·intro h27
   try simp at h27
   have hin : s ∈ v.keys := by rw [← h27]; exact List.mem_of_getElem? hx
   have hix : v.keys.idxOf s = k := by
    subst h27
    have h1 : v.keys = v.keys.take k ++ x :: v.keys.drop (k + 1) := by
     conv => lhs; rw [← List.take_append_drop k v.keys]
     rw [List.drop_eq_getElem_cons h18', (List.getElem?_eq_some_iff.1 hx).2]
    rw [h1, List.idxOf_append, if_neg hno]
    simp; omega
   have hk' := qJV hl hin
   rw [hix] at hk'
   refine rgn [(qBN v s).enc] [[], [], [], [4, 31], [], [], [4, 5]] ?_
   iterate 7 refine op1 tok ?_ (hv := by first | with_reducible exact True.intro | (simp [hk']; done) | omega | simp | (simp +contextual; omega))
   refine qA ?_
   exact AW.ret (qI (k := by simp [hin]))
  ·intro h27
   try simp at h27
   refine AW.skip ?_
   refine rgz [] [[], [], [1, 2, 4, 6]] ?_
   iterate 3 refine op1 tok ?_
   refine qA ?_
   exact ⟨k + 1, ⟨by omega, by rw [List.take_add_one, hx]; simp; exact ⟨hno, fun e => h27 e.symm⟩⟩, by omega, qB (by simp), rfl, by simp, by simp⟩
 ·intro h18
  try simp at h18
  have hno' : s ∉ v.keys := by rw [List.take_of_length_le (by omega)] at hno; exact hno
  refine AW.exit ?_
  simp
  refine rgn [] [[], [], [4, 5]] ?_
  iterate 3 refine op1 tok ?_
  refine qA ?_
  exact AW.ret (qI (k := by simp [hno', dc0]))
theorem qVG : ∀ (x y : List UInt8), x.length = y.length → x.all qG = true → y.all qG = true → (Op.bytesLess x y = true ↔ qK x < qK y)
 | [], [], _, _, _ => by simp [Op.bytesLess]
 | [], _ :: _, h, _, _ => by simp at h
 | _ :: _, [], h, _, _ => by simp at h
 | a :: x, b :: y, h, hx, hy => by
  simp only [List.all_cons, Bool.and_eq_true] at hx hy
  have hl : x.length = y.length := by simpa using h
  have ih := qVG x y hl hx.2 hy.2
  have da := (zS a).1 hx.1
  have db := (zS b).1 hy.1
  have lx := kI hx.2
  have ly := kI hy.2
  rw [yL, yL, hl]
  rw [hl] at lx
  simp only [Op.bytesLess, Bool.or_eq_true, Bool.and_eq_true, decide_eq_true_eq, beq_iff_eq, UInt8.lt_iff_toNat_lt, ih]
  by_cases h1 : a.toNat < b.toNat
  ·have := Nat.mul_le_mul_right (10 ^ y.length) (show a.toNat - 48 + 1 ≤ b.toNat - 48 by omega)
   rw [Nat.add_mul, Nat.one_mul] at this
   exact ⟨fun _ => by omega, fun _ => .inl h1⟩
  ·by_cases h2 : a = b
   ·subst h2
    exact ⟨fun h => by rcases h with h | h; · omega
                       ·omega, fun h => .inr ⟨rfl, by omega⟩⟩
   ·have h3 : b.toNat < a.toNat := by have : a.toNat ≠ b.toNat := fun e => h2 (UInt8.toNat_inj.1 e); omega
    have := Nat.mul_le_mul_right (10 ^ y.length) (show b.toNat - 48 + 1 ≤ a.toNat - 48 by omega)
    rw [Nat.add_mul, Nat.one_mul] at this
    exact ⟨fun h => by rcases h with h | h; · omega
                       ·exact (h2 h.1).elim, fun h => by omega⟩
theorem qOU : ∀ (x y : List UInt8), x.length = y.length → x.all qG = true → y.all qG = true → qK x = qK y → x = y
 | [], [], _, _, _, _ => rfl
 | [], _ :: _, h, _, _, _ => by simp at h
 | _ :: _, [], h, _, _, _ => by simp at h
 | a :: x, b :: y, h, hx, hy, he => by
  simp only [List.all_cons, Bool.and_eq_true] at hx hy
  have hl : x.length = y.length := by simpa using h
  have da := (zS a).1 hx.1
  have db := (zS b).1 hy.1
  have lx := kI hx.2
  have ly := kI hy.2
  rw [yL, yL, hl] at he
  rw [hl] at lx
  have hab : a.toNat = b.toNat := by
   by_cases h1 : a.toNat < b.toNat
   ·have := Nat.mul_le_mul_right (10 ^ y.length) (show a.toNat - 48 + 1 ≤ b.toNat - 48 by omega)
    rw [Nat.add_mul, Nat.one_mul] at this; omega
   ·by_cases h3 : b.toNat < a.toNat
    ·have := Nat.mul_le_mul_right (10 ^ y.length) (show b.toNat - 48 + 1 ≤ a.toNat - 48 by omega)
     rw [Nat.add_mul, Nat.one_mul] at this; omega
    ·omega
  rw [hab] at he
  rw [UInt8.toNat_inj.1 hab, qOU x y hl hx.2 hy.2 (by omega)]
theorem qYQ {x y : List UInt8} (hx : x.all qG = true) (hy : y.all qG = true) (lx : 0 < x.length) (ly : 0 < y.length) (h1 : qS x 0 ≠ 48) (h2 : qS y 0 ≠ 48) (h : qK x = qK y) : x.length = y.length := by
 have a1 := uG hx lx h1
 have a2 := uG hy ly h2
 have b1 := kI hx
 have b2 := kI hy
 by_cases h3 : x.length < y.length
 ·have := Nat.pow_le_pow_right (show 0 < 10 by omega) (show x.length ≤ y.length - 1 by omega); omega
 ·by_cases h4 : y.length < x.length
  ·have := Nat.pow_le_pow_right (show 0 < 10 by omega) (show y.length ≤ x.length - 1 by omega); omega
  ·omega
theorem qGA {d : Dc} (h : zP d = true) : (d.digits = [48] ∧ d.scale = 0 ∧ d.neg = false) ∨ (qS d.digits 0 ≠ 48 ∧ (d.scale = 0 ∨ qS d.digits (d.digits.length - 1) ≠ 48)) := by
 unfold zP at h
 simp only [Bool.and_eq_true] at h
 obtain ⟨_, h3⟩ := h
 split at h3
 ·rename_i h4; simp at h3; exact .inl ⟨h4, h3.1, h3.2⟩
 ·simp at h3; exact .inr h3
theorem zLG {s : List UInt8} (h : 0 < s.length) (hd : s.all qG = true) : ((qK s % 10 : Nat) : Int) = qS s (s.length - 1) - 48 := by
 obtain ⟨t, b, rfl⟩ : ∃ t b, s = t ++ [b] := ⟨s.dropLast, s.getLast (List.length_pos_iff.1 h), (List.dropLast_concat_getLast (List.length_pos_iff.1 h)).symm⟩
 rw [List.all_append] at hd
 simp at hd
 have db := (zS b).1 hd.2
 rw [vQ]
 have : qS (t ++ [b]) ((t ++ [b]).length - 1) = (b.toNat : Int) := by simp [qS]
 rw [this]; omega
theorem zRG {a b : Dc} (ha : zP a = true) (hb : zP b = true) (hq : qN a = qN b) : a.digits = b.digits ∧ a.scale = b.scale := by
 obtain ⟨⟨a1, a2, a3, a4⟩, a5, a6⟩ := zV ha
 obtain ⟨⟨b1, b2, b3, b4⟩, b5, b6⟩ := zV hb
 have la : 0 < a.digits.length := by unfold zP at ha; simp at ha; omega
 have lb : 0 < b.digits.length := by unfold zP at hb; simp at hb; omega
 have key : ∀ a b : Dc, zP a = true → zP b = true → qN a = qN b → a.scale < b.scale → False := by
  intro a b ha hb hq hlt
  obtain ⟨⟨a1, a2, a3, a4⟩, a5, a6⟩ := zV ha
  obtain ⟨⟨b1, b2, b3, b4⟩, b5, b6⟩ := zV hb
  have lb : 0 < b.digits.length := by unfold zP at hb; simp at hb; omega
  rcases qGA hb with h | h
  ·omega
  ·have hl := h.2.resolve_left (by omega)
   unfold qN at hq
   have e : 60 - a.scale.toNat = ((b.scale - a.scale).toNat - 1) + 1 + (60 - b.scale.toNat) := by omega
   rw [e, Nat.pow_add, ← Nat.mul_assoc] at hq
   have hq' := Nat.eq_of_mul_eq_mul_right (Nat.pow_pos (n := 60 - b.scale.toNat) (show 0 < 10 by omega)) hq
   have h10 : qK b.digits % 10 = 0 := by rw [← hq', Nat.pow_succ, ← Nat.mul_assoc]; exact Nat.mul_mod_left _ _
   have h11 := zLG lb b4
   rw [h10] at h11
   have hb' : 48 ≤ qS b.digits (b.digits.length - 1) := by
    obtain ⟨t, c, e⟩ : ∃ t c, b.digits = t ++ [c] := ⟨b.digits.dropLast, b.digits.getLast (List.length_pos_iff.1 lb), (List.dropLast_concat_getLast (List.length_pos_iff.1 lb)).symm⟩
    rw [e] at b4 ⊢
    rw [List.all_append] at b4
    simp at b4
    have := (zS c).1 b4.2
    simp [qS]; omega
   omega
 have hs : a.scale = b.scale := by
  by_cases h1 : a.scale < b.scale
  ·exact (key a b ha hb hq h1).elim
  ·by_cases h2 : b.scale < a.scale
   ·exact (key b a hb ha hq.symm h2).elim
   ·omega
 refine ⟨?_, hs⟩
 unfold qN at hq
 rw [hs] at hq
 have hv := Nat.eq_of_mul_eq_mul_right (Nat.pow_pos (n := 60 - b.scale.toNat) (show 0 < 10 by omega)) hq
 have hz : ∀ d : Dc, zP d = true → 0 < d.digits.length → qS d.digits 0 ≠ 48 → qK d.digits ≠ 0 := fun d hd hl h0 h => by
  have := uG (zV hd).1.2.2.2 hl h0
  have := Nat.pow_pos (n := d.digits.length - 1) (show 0 < 10 by omega)
  omega
 have v0 : qK [48] = 0 := by simp [qK]
 rcases qGA ha with h1 | h1 <;> rcases qGA hb with h2 | h2
 ·rw [h1.1, h2.1]
 ·rw [h1.1, v0] at hv; exact (hz b hb lb h2.1 hv.symm).elim
 ·rw [h2.1, v0] at hv; exact (hz a ha la h1.1 hv).elim
 ·exact qOU _ _ (qYQ a4 b4 la lb h1.1 h2.1 hv) a4 b4 hv
def vO (a b : Dc) : List UInt8 := a.digits ++ zA (qY a b - a.scale).toNat
def vN (a b : Dc) : List UInt8 := b.digits ++ zA (qY a b - b.scale).toNat
def alX (p q : List UInt8) : List UInt8 := zA ((if p.length < q.length then (q.length : Int) else (p.length : Int)) - p.length).toNat ++ p
def alY (p q : List UInt8) : List UInt8 := zA ((if p.length < q.length then (q.length : Int) else (p.length : Int)) - q.length).toNat ++ q
theorem zNC (p q : List UInt8) : (alX p q).length = (alY p q).length := by
 unfold alX alY zA; simp only [List.length_append, List.length_replicate]; split <;> omega
theorem zSW {p q : List UInt8} (hp : p.all qG = true) (hq : q.all qG = true) : (alX p q).all qG = true ∧ (alY p q).all qG = true := by
 unfold alX alY; rw [List.all_append, List.all_append, hp, hq, zerosM_all', zerosM_all']; exact ⟨rfl, rfl⟩
where zerosM_all' (n : Nat) : (zA n).all qG = true := List.all_eq_true.2 fun b hb => by rw [(List.mem_replicate.1 hb).2]; rfl
theorem zSV (p q : List UInt8) : qK (alX p q) = qK p ∧ qK (alY p q) = qK q := by
 unfold alX alY zA; rw [wN, wN, xG, xG]; simp
theorem zHH {a b : Dc} (ha : zP a = true) (hb : zP b = true) : (Op.bytesLess (alX (vO a b) (vN a b)) (alY (vO a b) (vN a b)) = true ↔ qN a < qN b) ∧ (Op.bytesLess (alY (vO a b) (vN a b)) (alX (vO a b) (vN a b)) = true ↔ qN b < qN a) := by
 obtain ⟨⟨a1, a2, a3, a4⟩, a5, a6⟩ := zV ha
 obtain ⟨⟨b1, b2, b3, b4⟩, b5, b6⟩ := zV hb
 have hm1 : a.scale ≤ qY a b := by unfold qY; split <;> omega
 have hm2 : b.scale ≤ qY a b := by unfold qY; split <;> omega
 have hm3 : qY a b ≤ 60 := by unfold qY; split <;> omega
 have dx : (vO a b).all qG = true := kZ a4 _
 have dy : (vN a b).all qG = true := kZ b4 _
 have hal := zSW dx dy
 have hv := zSV (vO a b) (vN a b)
 have ea : qN a = qK (vO a b) * 10 ^ (60 - (qY a b).toNat) := by
  unfold vO zA; rw [qCE, Nat.mul_assoc, ← Nat.pow_add, show (qY a b - a.scale).toNat + (60 - (qY a b).toNat) = 60 - a.scale.toNat by omega]; rfl
 have eb : qN b = qK (vN a b) * 10 ^ (60 - (qY a b).toNat) := by
  unfold vN zA; rw [qCE, Nat.mul_assoc, ← Nat.pow_add, show (qY a b - b.scale).toNat + (60 - (qY a b).toNat) = 60 - b.scale.toNat by omega]; rfl
 have hp := Nat.pow_pos (n := 60 - (qY a b).toNat) (show 0 < 10 by omega)
 rw [qVG _ _ (zNC _ _) hal.1 hal.2, qVG _ _ (zNC _ _).symm hal.2 hal.1, hv.1, hv.2, ea, eb]
 exact ⟨(Nat.mul_lt_mul_right hp).symm, (Nat.mul_lt_mul_right hp).symm⟩
theorem qXI {a b : Dc} (ha : zP a = true) (hb : zP b = true) (hne : a ≠ b) :
  qAG a b = if (if a.neg = b.neg then (if a.neg = true then Op.bytesLess (alY (vO a b) (vN a b)) (alX (vO a b) (vN a b)) else Op.bytesLess (alX (vO a b) (vN a b)) (alY (vO a b) (vN a b))) else a.neg) = true then -1 else 1 := by
 obtain ⟨l1, l2⟩ := zHH ha hb
 by_cases hn : a.neg = b.neg
 ·have hq : qN a ≠ qN b := fun h => by
   obtain ⟨h1, h2⟩ := zRG ha hb h
   exact hne (Dc.ext' hn h1 h2)
  rw [qKH ha hb, if_pos hn]
  unfold qD
  rw [← hn]
  cases a.neg with
  | true =>
   simp only [if_true]
   by_cases h : qN b < qN a
   ·rw [if_pos (l2.2 h)]; unfold sgn; rw [if_pos (by omega)]
   ·rw [if_neg (fun e => h (l2.1 e))]; unfold sgn; rw [if_neg (by omega), if_neg (by omega)]
  | false =>
   simp only [Bool.false_eq_true, if_false]
   by_cases h : qN a < qN b
   ·rw [if_pos (l1.2 h)]; unfold sgn; rw [if_pos (by omega)]
   ·rw [if_neg (fun e => h (l1.1 e))]; unfold sgn; rw [if_neg (by omega), if_neg (by omega)]
 ·unfold qAG
  rw [if_neg hn, if_neg hn]
theorem zIA {a : Dc} (ha : zP a = true) : qAG a a = 0 := by rw [qKH ha ha]; unfold sgn; rw [if_neg (by omega), if_pos (by omega)]
theorem qXJ (a b : Dc) (ha : okD a) (hb : okD b) : AFn Tryz.prog G 117 [a.enc, b.enc] (.tup [.str (alX (vO a b) (vN a b)), .str (alY (vO a b) (vN a b)), .int .i64 (qY a b)]) := by
 refine AFn.introU tok Tryz.func117 (by kernel_rfl) rfl rfl ?_
 simp only [Tryz.f117, qJ, List.map_cons, List.map_nil]
 obtain ⟨a1, a2, a3, a4⟩ := ha
 obtain ⟨b1, b2, b3, b4⟩ := hb
 have hm : 0 ≤ qY a b ∧ qY a b ≤ 1000 := by unfold qY; split <;> omega
 have hz1 := qCB (G := G) (qY a b - a.scale) (by omega)
 have hz2 := qCB (G := G) (qY a b - b.scale) (by omega)
 have hl1 : (vO a b).length ≤ 2000 := by unfold vO zA; simp; omega
 have hl2 : (vN a b).length ≤ 2000 := by unfold vN zA; simp; omega
 have f1 : (if a.scale < b.scale then b.scale else a.scale) = qY a b := rfl
 have f2 : a.digits ++ zA (qY a b - a.scale).toNat = vO a b := rfl
 have f3 : b.digits ++ zA (qY a b - b.scale).toNat = vN a b := rfl
 generalize hnn : (if (vO a b).length < (vN a b).length then ((vN a b).length : Int) else ((vO a b).length : Int)) = n
 have hn1 : 0 ≤ n ∧ n ≤ 2000 := by rw [← hnn]; split <;> omega
 have hz3 := qCB (G := G) (n - (vO a b).length) (by omega)
 have hz4 := qCB (G := G) (n - (vN a b).length) (by omega)
 have e1 : alX (vO a b) (vN a b) = zA (n - (vO a b).length).toNat ++ vO a b := by unfold alX; rw [hnn]
 have e2 : alY (vO a b) (vN a b) = zA (n - (vN a b).length).toNat ++ vN a b := by unfold alY; rw [hnn]
 rw [e1, e2]
 have g1 : (zA (qY a b - a.scale).toNat).length ≤ 1000 := by unfold zA; simp; omega
 have g2 : (zA (qY a b - b.scale).toNat).length ≤ 1000 := by unfold zA; simp; omega
 have g3 : (zA (n - (vO a b).length).toNat).length ≤ 2000 := by unfold zA; simp; omega
 have g4 : (zA (n - (vN a b).length).toNat).length ≤ 2000 := by unfold zA; simp; omega
 generalize zA (n - (vO a b).length).toNat = Z3 at *
 generalize zA (n - (vN a b).length).toNat = Z4 at *
 have hmx : a.scale ≤ qY a b ∧ b.scale ≤ qY a b := by unfold qY; split <;> omega
 refine rgn [] [[], [], [], [2, 3], [2, 3]] ?_
 iterate 5 refine op1 tok ?_
 refine qA ?_
 refine rgn [] [[], [], [], [], [2, 3, 15], [2, 3, 7]] ?_
 iterate 6 refine op1 tok ?_ (h := by intro C; conv => lhs; simp [f1])
 refine qA ?_
 refine AW.seqDrawS tok mixed 8 [[2], [16], [7], [2], [19], [18, 20], [21], [17, 22]] [.nilp, .str (zA (qY a b - a.scale).toNat)] [] (by kernel_rfl) ?_
 iterate 8 refine d1 ?_ (h := by intro C; conv => lhs; simp [f2]) (hv := by first | with_reducible exact True.intro | (exact hz1; done) | omega | simp | (simp +contextual; omega))
 refine DGo.nil (by kernel_rfl) ⟨by kernel_rfl, ?_⟩
 refine qC.run [[3, 7, 8]] ?_
 refine op1 tok ?_ (h := by intro C; conv => lhs; simp [f2])
 refine qA ?_
 refine AW.seqDrawS tok mixed 8 [[3], [24], [7], [3], [27], [26, 28], [29], [25, 30]] [.nilp, .str (zA (qY a b - b.scale).toNat)] [] (by kernel_rfl) ?_
 iterate 8 refine d1 ?_ (h := by intro C; conv => lhs; simp [f3]) (hv := by first | with_reducible exact True.intro | (exact hz2; done) | omega | simp | (simp +contextual; omega))
 refine DGo.nil (by kernel_rfl) ⟨by kernel_rfl, ?_⟩
 refine qC.run [[7, 8, 9]] ?_
 refine op1 tok ?_ (h := by intro C; conv => lhs; simp [f3])
 refine qA ?_
 refine rgn [] [[], [], [], [], [7, 8, 9, 36], [7, 8, 9, 10]] ?_
 iterate 6 refine op1 tok ?_ (h := by intro C; conv => lhs; simp [hnn])
 refine qA ?_
 refine rgn [.nilp, .str Z3, .nilp, .str Z4] [[], [], [], [], [7, 8, 9, 10, 41], [], [], [7, 9, 43, 44], [], [], [], [7, 9, 43, 48], [], [], [43, 50, 51], [], [], [4, 5, 6]] ?_
 iterate 18 refine op1 tok ?_ (hv := by first | with_reducible exact True.intro | (first | exact hz3 | exact hz4; done) | omega | simp | (simp +contextual; omega))
 refine qA ?_
 exact AW.ret qI
theorem zBK (a b : Dc) (ha : zP a = true) (hb : zP b = true) : AFn Tryz.prog G 54 [a.enc, b.enc] (.int .i64 (qAG a b)) := by
 refine AFn.introU tok Tryz.func54 (by kernel_rfl) rfl rfl ?_
 simp only [Tryz.f54, qJ, List.map_cons, List.map_nil]
 have hal := qXJ (G := G) a b (zV ha).1 (zV hb).1
 have hlaw := fun h => qXI ha hb h
 have hself := fun h : a = b => (show qAG a b = 0 by rw [← h]; exact zIA ha)
 generalize alX (vO a b) (vN a b) = X at *
 generalize alY (vO a b) (vN a b) = Y at *
 generalize hls : (if a.neg = b.neg then (if a.neg = true then Op.bytesLess Y X else Op.bytesLess X Y) else a.neg) = ls at *
 generalize qAG a b = R at *
 refine rgn [] [[], [], [2, 3]] ?_
 iterate 3 refine op1 tok ?_
 refine qA ?_
 refine AW.seq ?_
 refine rgn [] [[], [], [2, 3, 11]] ?_
 iterate 3 refine op1 tok ?_
 refine qA ?_
 refine cnd ?_ ?_
 ·intro h11
  try simp at h11
  have hR : R = 0 := hself (Dc.ext' h11.1 h11.2.1 h11.2.2)
  refine rgn [] [[]] ?_
  refine op1 tok ?_
  refine qA ?_
  exact AW.ret (qI (k := by simp [hR]))
 ·intro h11
  try simp at h11
  have hR : R = if ls = true then -1 else 1 := hlaw fun h => by subst h; simp at h11
  refine AW.skip ?_
  refine rgn [.nilp, .tup [.str X, .str Y, .int .i64 (qY a b)]] [[], [], [], [], [], [], [2, 3, 16, 17, 18], [], [], [2, 3, 5, 6]] ?_
  iterate 10 refine op1 tok ?_ (hv := by first | with_reducible exact True.intro | ((simp at hal ⊢; exact hal); done) | omega | simp | (simp +contextual; omega))
  refine qA ?_
  refine rgn [] [[], [], [], [2, 3, 5, 6, 8]] ?_
  iterate 4 refine op1 tok ?_
  refine qA ?_
  refine AW.join (α := Unit) (fun _ => True) (fun a => ⟨qW 35 [(8, .p (.bool ls))], [], [], 0⟩) ?_ ?_
  ·
   refine rgn [] [[], [], [], [], [2, 5, 6, 8, 26]] ?_
   iterate 5 refine op1 tok ?_
   refine qA ?_
   refine cnd ?_ ?_
   ·intro h26
    try simp at h26
    have e8 : a.neg = ls := by rw [← hls, if_neg (by simpa using h26)]
    refine rgz [] [[], [], [8]] ?_
    iterate 3 refine op1 tok ?_
    refine qA ?_
    exact ⟨(), trivial, qB (by simp [e8]), rfl, by simp [e8], by simp [e8]⟩
   ·intro h26
    try simp at h26
    have e9 : a.neg = b.neg := by simpa using h26
    refine rgn [] [[], [5, 6, 8, 30]] ?_
    iterate 2 refine op1 tok ?_
    refine qA ?_
    refine cnd ?_ ?_
    ·intro h30
     try simp at h30
     have e8 : Op.bytesLess Y X = ls := by rw [← hls, if_pos e9, if_pos h30]
     refine rgz [] [[], [], [33], [8]] ?_
     iterate 4 refine op1 tok ?_
     refine qA ?_
     exact ⟨(), trivial, qB (by simp [e8]), rfl, by simp [e8], by simp [e8]⟩
    ·intro h30
     try simp at h30
     have e8 : Op.bytesLess X Y = ls := by rw [← hls, if_pos e9, if_neg (by simp [h30])]
     refine AW.skip ?_
     exact ⟨(), trivial, qB (by simp [e8]), rfl, by simp [e8], by simp [e8]⟩
  ·
   rintro a hI
   refine AW.seq ?_
   refine rgn [] [[34]] ?_
   refine op1 tok ?_
   refine qA ?_
   refine cnd ?_ ?_
   ·intro h34
    try simp at h34
    rw [h34] at hR
    refine rgn [] [[]] ?_
    refine op1 tok ?_
    refine qA ?_
    exact AW.ret (qI (k := by simp [hR]))
   ·intro h34
    try simp at h34
    rw [h34] at hR
    refine AW.skip ?_
    refine rgn [] [[]] ?_
    refine op1 tok ?_
    refine qA ?_
    exact AW.ret (qI (k := by simp [hR]))
def qJK (s : List UInt8) : Val := .mk 5 0 dc0 s [] [] 0
theorem zBL {α : Type} {p : α → α → Int} {l m : List α} {k : Nat} {x y : α} (hx : l[k]? = some x) (hy : m[k]? = some y) : zI p (l.drop k) (m.drop k) = if p x y ≠ 0 then p x y else zI p (l.drop (k + 1)) (m.drop (k + 1)) := by
 obtain ⟨h1, rfl⟩ := List.getElem?_eq_some_iff.1 hx
 obtain ⟨h2, rfl⟩ := List.getElem?_eq_some_iff.1 hy
 rw [List.drop_eq_getElem_cons h1, List.drop_eq_getElem_cons h2]; rfl
theorem zHZ {α : Type} {p : α → α → Int} {m : List α} : zI p [] m = if 0 < m.length then -1 else 0 := by cases m <;> simp [zI]
theorem zHY {α : Type} {p : α → α → Int} {l : List α} : zI p l [] = if 0 < l.length then 1 else 0 := by cases l <;> simp [zI]
theorem zGG {α : Type} {p : α → α → Int} {l m : List α} {k : Nat} (h : l.length ≤ k ∨ m.length ≤ k) (h1 : k ≤ l.length) (h2 : k ≤ m.length) : zI p (l.drop k) (m.drop k) = if l.length < m.length then -1 else if m.length < l.length then 1 else 0 := by
 by_cases h3 : l.length = k
 ·rw [List.drop_eq_nil_of_le (by omega), zHZ, List.length_drop]; (repeat' split) <;> omega
 ·rw [show m.drop k = [] from List.drop_eq_nil_of_le (by omega), zHY, List.length_drop]; (repeat' split) <;> omega
theorem qOC (l m : List Val) (p : Val → Val → Int) (hlm : l.length ≤ 1000000) (hg : ∀ x ∈ l, ∀ y ∈ m, AFn Tryz.prog G 22 [x.enc, y.enc] (.int .i64 (p x y))) : AFn Tryz.prog G 55 [.sl 9 (l.map Val.enc), .sl 9 (m.map Val.enc)] (.int .i64 (zI p l m)) := by
 refine AFn.introU tok Tryz.func55 (by kernel_rfl) rfl rfl ?_
 simp only [Tryz.f55, qJ, List.map_cons, List.map_nil]
 refine rgn [] [[0, 1]] ?_
 refine op1 tok ?_
 refine qA ?_
 refine AW.seq ?_
 refine rgn [] [[]] ?_
 refine op1 tok ?_
 refine qA ?_
 refine AW.block ?_
 refine AW.loop (α := Nat) (fun k => k ≤ l.length ∧ k ≤ m.length ∧ zI p l m = zI p (l.drop k) (m.drop k)) (fun k => ⟨qW 41 [(0, .p (.sl 9 (l.map Val.enc))), (1, .p (.sl 9 (m.map Val.enc))), (5, .p (.int .i64 k))], [], [], 0⟩) (fun k => l.length - k) (0) ⟨by omega, by omega, rfl⟩ ⟨qB (by simp), rfl, by simp, by simp⟩ ?_
 rintro k ⟨hk, hk2, hall⟩
 refine AW.seq ?_
 refine rgn [] [[], [], [], [], [0, 1, 5, 11], [], [], [], [], [0, 1, 5, 16]] ?_
 iterate 5 refine op1 tok ?_
 iterate 4 refine op2 tok ?_
 refine op1 tok ?_
 refine qA ?_
 refine cnd ?_ ?_
 ·intro h16
  try simp at h16
  obtain ⟨x, hx⟩ : ∃ x, l[k]? = some x := ⟨l[k]'(by omega), by simp <;> omega⟩
  obtain ⟨y, hy⟩ : ∃ y, m[k]? = some y := ⟨m[k]'(by omega), by simp <;> omega⟩
  have hst := zBL (p := p) hx hy
  have hgv := hg x (List.mem_of_getElem? hx) y (List.mem_of_getElem? hy)
  simp only [Val.enc_def] at hgv
  refine AW.skip ?_
  refine AW.seq ?_
  refine AW.block ?_
  refine AW.seqDrawS tok mixed 9 [[0], [5], [19, 20], [21], [1], [5], [23, 24], [25], [22, 26]] [x.enc, y.enc, .nilp, .int .i64 (p x y)] [] (by kernel_rfl) ?_
  iterate 9 refine d1 ?_ (hv := by first | with_reducible exact True.intro | (first | (simp [hx]; done) | (simp [hy]; done) | exact hgv; done) | omega | simp | (simp +contextual; omega))
  refine DGo.nil (by kernel_rfl) ⟨by kernel_rfl, ?_⟩
  refine qC.run [[0, 1, 5, 6]] ?_
  refine op1 tok ?_
  refine qA ?_
  refine rgn [] [[], [0, 1, 5, 6, 29]] ?_
  iterate 2 refine op1 tok ?_
  refine qA ?_
  refine cnd ?_ ?_
  ·intro h29
   try simp at h29
   have hR : zI p l m = p x y := by rw [hall, hst, if_pos h29]
   refine rgn [] [[], [4]] ?_
   iterate 2 refine op1 tok ?_
   refine qA ?_
   exact AW.ret (qI (k := by simp [hR]))
  ·intro h29
   try simp at h29
   have hnx : zI p l m = zI p (l.drop (k + 1)) (m.drop (k + 1)) := by rw [hall, hst, if_neg (by simp [h29])]
   refine AW.skip ?_
   refine rgz [] [[], [], [0, 1, 5]] ?_
   iterate 3 refine op1 tok ?_
   refine qA ?_
   exact ⟨k + 1, ⟨by omega, by omega, hnx⟩, by omega, qB (by simp), rfl, by simp, by simp⟩
 ·intro h16
  try simp at h16
  have hR : zI p l m = if l.length < m.length then -1 else if m.length < l.length then 1 else 0 := by rw [hall]; exact zGG (by omega) hk hk2
  refine AW.exit ?_
  simp
  refine AW.seq ?_
  refine rgn [] [[], [], [], [], [0, 1, 35]] ?_
  iterate 5 refine op1 tok ?_
  refine qA ?_
  refine cnd ?_ ?_
  ·intro h35
   try simp at h35
   rw [if_pos h35] at hR
   refine rgn [] [[]] ?_
   refine op1 tok ?_
   refine qA ?_
   exact AW.ret (qI (k := by simp [hR]))
  ·intro h35
   try simp at h35
   rw [if_neg (by omega)] at hR
   refine AW.skip ?_
   refine AW.seq ?_
   refine rgn [] [[], [], [], [37, 39], [40]] ?_
   iterate 5 refine op1 tok ?_
   refine qA ?_
   refine cnd ?_ ?_
   ·intro h40
    try simp at h40
    rw [if_pos h40] at hR
    refine rgn [] [[]] ?_
    refine op1 tok ?_
    refine qA ?_
    exact AW.ret (qI (k := by simp [hR]))
   ·intro h40
    try simp at h40
    rw [if_neg (by omega)] at hR
    refine AW.skip ?_
    refine rgn [] [[]] ?_
    refine op1 tok ?_
    refine qA ?_
    exact AW.ret (qI (k := by simp [hR]))
theorem qWF (l : List (List UInt8)) (hlm : l.length ≤ 1000000) : AFn Tryz.prog G 57 [.sl 1 (l.map PD.str)] (.sl 9 ((l.map qJK).map Val.enc)) := by
 refine AFn.introU tok Tryz.func57 (by kernel_rfl) rfl rfl ?_
 simp only [Tryz.f57, qJ, List.map_cons, List.map_nil]
 refine rgn [] [[0]] ?_
 refine op1 tok ?_
 refine qA ?_
 refine rgn [] [[], [0, 3]] ?_
 iterate 2 refine op1 tok ?_
 refine qA ?_
 refine AW.seq ?_
 refine rgn [] [[]] ?_
 refine op1 tok ?_
 refine qA ?_
 refine AW.block ?_
 refine AW.loop (α := Nat) (fun k => k ≤ l.length) (fun k => ⟨qW 21 [(0, .p (.sl 1 (l.map PD.str))), (3, .ms 5), (4, .p (.int .i64 k))], [], [(5, .row 31 9 (((l.take k).map qJK).map Val.enc))], 0⟩) (fun k => l.length - k) (0) (by omega) ⟨qB (by simp), rfl, by simp, by simp⟩ ?_
 rintro k hk
 refine AW.seq ?_
 refine rgn [] [[], [], [], [0, 3, 4, 9]] ?_
 iterate 4 refine op1 tok ?_
 refine qA ?_
 refine cnd ?_ ?_
 ·intro h9
  try simp at h9
  obtain ⟨x, hx⟩ : ∃ x, l[k]? = some x := ⟨l[k], by simp [h9]⟩
  refine AW.skip ?_
  refine AW.seq ?_
  refine AW.block ?_
  refine rgz [.str x, (qJK x).enc] [[], [], [], [], [0, 4, 12, 16], [], [], [0, 4, 19], [0, 3, 4]] ?_
  iterate 9 refine op1 tok ?_ (hv := by first | with_reducible exact True.intro | (first | (simp [hx]; done) | (simp [qJK, dc0]; done) | (simp; omega); done) | omega | simp | (simp +contextual; omega))
  refine qA ?_
  refine rgz [] [[], [], [0, 3, 4]] ?_
  iterate 3 refine op1 tok ?_
  refine qA ?_
  exact ⟨k + 1, by omega, by omega, qB (by simp [List.take_add_one, hx]), rfl, by simp [List.take_add_one, hx], by simp [List.take_add_one, hx]⟩
 ·intro h9
  try simp at h9
  refine AW.exit ?_
  simp
  refine rgn [] [[], [2]] ?_
  iterate 2 refine op1 tok ?_
  refine qA ?_
  exact AW.ret (qI (k := by simp; exact List.take_of_length_le (by simpa using h9)))
def leB (a b : List UInt8) : Bool := Op.bytesLess a b || decide (a = b)
theorem qIK (a b : List UInt8) : leB a b = true ↔ wJ a b ≤ 0 := by
 unfold leB wJ
 by_cases h1 : Op.bytesLess a b = true
 ·simp [h1]
 ·rw [if_neg h1]
  by_cases h2 : a = b
  ·rw [if_pos h2]; simp [h2]
  ·rw [if_neg h2]; simp [h1, h2]
theorem qJB : ∀ a b : List UInt8, Op.bytesLess a b = true ↔ a < b
 | [], [] => by simp [Op.bytesLess]
 | [], b :: bs => by simp [Op.bytesLess]
 | a :: al, [] => by simp [Op.bytesLess]
 | a :: al, b :: bs => by simp [Op.bytesLess, List.cons_lt_cons_iff, qJB al bs]
theorem zRX (a b : List UInt8) : leB a b = decide (a ≤ b) := by
 rw [Bool.eq_iff_iff, qIK, decide_eq_true_eq, ← List.not_lt, ← qJB]
 have h := qFH.anti a b trivial trivial
 rw [h]
 unfold wJ
 by_cases h1 : Op.bytesLess b a = true
 ·simp [h1]
 ·rw [if_neg h1]
  by_cases h2 : b = a
  ·rw [if_pos h2]; simpa using h1
  ·rw [if_neg h2]; simpa using h1
theorem zEK (a b : List UInt8) : leB a b = true ∨ leB b a = true := by
 rw [qIK, qIK]; have := qFH.anti a b trivial trivial; omega
theorem zLC {a b c : List UInt8} (h1 : leB a b = true) (h2 : leB b c = true) : leB a c = true := by
 rw [qIK] at *; exact qFH.tr a b c trivial trivial trivial h1 h2
theorem zLD {a b : List UInt8} (h1 : leB a b = true) (h2 : leB b a = true) : a = b := by
 rw [qIK] at *
 have h := qFH.anti a b trivial trivial
 have h0 : wJ a b = 0 := by omega
 unfold wJ at h0
 split at h0
 ·omega
 ·split at h0
  ·assumption
  ·omega
def qAS (s : List UInt8) (l : List (List UInt8)) : Nat := (l.takeWhile fun x => leB x s).length
def qJX (l : List (List UInt8)) (s : List UInt8) : List (List UInt8) := l.take (qAS s l) ++ [s] ++ l.drop (qAS s l)
theorem zOM (s : List UInt8) (l : List (List UInt8)) : qAS s l ≤ l.length := (List.takeWhile_sublist _).length_le
theorem zGK (s : List UInt8) (l : List (List UInt8)) : l.take (qAS s l) = l.takeWhile fun x => leB x s := by
 unfold qAS
 induction l with
 | nil => rfl
 | cons a l ih => rw [List.takeWhile_cons]; split
                  ·simp [ih]
                  ·rfl
theorem zGL (s : List UInt8) (l : List (List UInt8)) : l.drop (qAS s l) = l.dropWhile fun x => leB x s := by
 unfold qAS
 induction l with
 | nil => rfl
 | cons a l ih => rw [List.takeWhile_cons, List.dropWhile_cons]; split
                  ·simp [ih]
                  ·rfl
theorem zDU {s x : List UInt8} {l : List (List UInt8)} {k : Nat} (hk : k ≤ qAS s l) (hx : l[k]? = some x) : leB x s = true ↔ k < qAS s l := by
 induction l generalizing k with
 | nil => simp at hx
 | cons a l ih =>
  unfold qAS at hk ⊢
  rw [List.takeWhile_cons] at hk ⊢
  cases k with
  | zero => simp at hx; subst hx; split <;> simp_all
  | succ k =>
   split at hk
   ·rename_i h
    rw [if_pos h]
    simp at hx hk
    have := ih (k := k) hk hx
    unfold qAS at this
    simpa using this
   ·simp at hk
theorem zHN (l : List (List UInt8)) (s : List UInt8) : (qJX l s).Perm (s :: l) := by
 unfold qJX
 have : (l.take (qAS s l) ++ [s] ++ l.drop (qAS s l)).Perm (s :: (l.take (qAS s l) ++ l.drop (qAS s l))) := by
  rw [List.append_assoc]; exact List.perm_middle
 rwa [List.take_append_drop] at this
theorem zFR {p : List UInt8 → Bool} {l : List (List UInt8)} {x : List UInt8} (h : x ∈ l.takeWhile p) : p x = true := by
 induction l with
 | nil => simp at h
 | cons a l ih =>
  rw [List.takeWhile_cons] at h
  split at h
  ·rename_i ha
   rcases List.mem_cons.1 h with rfl | h
   ·exact ha
   ·exact ih h
  ·simp at h
theorem qYU {l : List (List UInt8)} {s : List UInt8} (h : l.Pairwise fun a b => leB a b = true) : (qJX l s).Pairwise fun a b => leB a b = true := by
 have h0 := h
 rw [← List.take_append_drop (qAS s l) l, List.pairwise_append] at h
 obtain ⟨h1, h2, h3⟩ := h
 have hd : ∀ x ∈ l.drop (qAS s l), leB s x = true := by
  rw [zGL] at h2 ⊢
  cases hq : l.dropWhile fun x => leB x s with
  | nil => simp
  | cons y m =>
   have hy : leB y s = false := by
    have := List.head?_dropWhile_not (fun x => leB x s) l
    rw [hq] at this; simpa using this
   have hsy : leB s y = true := (zEK s y).resolve_right (by simp [hy])
   rw [hq] at h2
   rw [List.pairwise_cons] at h2
   intro x hx
   rcases List.mem_cons.1 hx with rfl | hx
   ·exact hsy
   ·exact zLC hsy (h2.1 x hx)
 unfold qJX
 rw [List.append_assoc, List.pairwise_append]
 refine ⟨h1, ?_, fun a ha b hb => ?_⟩
 ·show (s :: l.drop (qAS s l)).Pairwise _
  rw [List.pairwise_cons]; exact ⟨hd, h2⟩
 ·rcases List.mem_cons.1 hb with rfl | hb
  ·rw [zGK] at ha; exact zFR (p := fun x => leB x b) ha
  ·exact h3 a ha b hb
def qJW (l : List (List UInt8)) : List (List UInt8) := l.foldl qJX []
theorem zHM (l : List (List UInt8)) (s : List UInt8) : qJW (l ++ [s]) = qJX (qJW l) s := by unfold qJW; rw [List.foldl_append]; rfl
theorem zHL {l : List (List UInt8)} {k : Nat} {s : List UInt8} (h : l[k]? = some s) : qJW (l.take (k + 1)) = qJX (qJW (l.take k)) s := by rw [List.take_add_one, h]; exact zHM _ _
theorem qSF (l : List (List UInt8)) : (qJW l).Perm l ∧ (qJW l).Pairwise fun a b => leB a b = true := by
 have : ∀ (l m : List (List UInt8)), m.Pairwise (fun a b => leB a b = true) → (l.foldl qJX m).Perm (l ++ m) ∧ (l.foldl qJX m).Pairwise fun a b => leB a b = true := by
  intro l
  induction l with
  | nil => exact fun m h => ⟨.refl _, h⟩
  | cons s l ih =>
   intro m h
   obtain ⟨h1, h2⟩ := ih (qJX m s) (qYU h)
   refine ⟨h1.trans ?_, h2⟩
   exact ((zHN m s).append_left l).trans List.perm_middle
 have h := this l [] List.Pairwise.nil
 simpa [qJW] using h
theorem zOW (l : List (List UInt8)) : qJW l = zB l := by
 obtain ⟨h1, h2⟩ := qSF l
 refine List.Perm.eq_of_pairwise (le := fun a b => leB a b = true) (fun a b _ _ => zLD) h2 ?_ (h1.trans (List.mergeSort_perm _ _).symm)
 have e : (fun x y : List UInt8 => decide (x ≤ y)) = leB := funext fun a => funext fun b => (zRX a b).symm
 unfold zB
 rw [e]
 exact List.pairwise_mergeSort (le := leB) (fun a b c => zLC) (fun a b => by rw [Bool.or_eq_true]; exact zEK _ _) l
theorem zLM (l : List (List UInt8)) : (qJW l).length = l.length := (qSF l).1.length_eq
theorem qMU (l : List (List UInt8)) (hlm : l.length ≤ 1000000) : AFn Tryz.prog G 56 [.sl 1 (l.map PD.str)] (.sl 1 ((zB l).map PD.str)) := by
 refine AFn.introU tok Tryz.func56 (by kernel_rfl) rfl rfl ?_
 simp only [Tryz.f56, qJ, List.map_cons, List.map_nil]
 rw [← zOW]
 refine rgn [] [[0]] ?_
 refine op1 tok ?_
 refine qA ?_
 refine rgn [] [[], [0, 3]] ?_
 iterate 2 refine op1 tok ?_
 refine qA ?_
 refine AW.seq ?_
 refine rgn [] [[]] ?_
 refine op1 tok ?_
 refine qA ?_
 refine AW.block ?_
 refine AW.loop (α := Nat) (fun k => k ≤ l.length) (fun k => ⟨qW 51 [(0, .p (.sl 1 (l.map PD.str))), (3, .ms 7), (4, .p (.int .i64 k))], [], [(7, .row 9 1 ((qJW (l.take k)).map PD.str))], 0⟩) (fun k => l.length - k) (0) (by omega) ⟨qB (by simp), rfl, by simp [qJW], by simp⟩ ?_
 rintro k hk
 have hil := zLM (l.take k)
 rw [List.length_take, Nat.min_eq_left hk] at hil
 refine AW.seq ?_
 refine rgn [] [[], [], [], [0, 3, 4, 11]] ?_
 iterate 4 refine op1 tok ?_
 refine qA ?_
 refine cnd ?_ ?_
 ·intro h11
  try simp at h11
  obtain ⟨s, hs⟩ : ∃ s, l[k]? = some s := ⟨l[k], by simp [h11]⟩
  have hnx := zHL hs
  generalize qJW (l.take k) = o at *
  have hpl := zOM s o
  refine AW.skip ?_
  refine AW.seq ?_
  refine AW.block ?_
  refine rgn [] [[]] ?_
  refine op1 tok ?_
  refine qA ?_
  refine AW.seq ?_
  refine AW.block ?_
  refine AW.freezeE 7 (by conv => lhs; simp) ?_
  refine AW.loop (α := Nat) (fun j => j ≤ qAS s o) (fun j => ⟨qW 51 [(0, .p (.sl 1 (l.map PD.str))), (3, .p (.sl 1 (o.map PD.str))), (4, .p (.int .i64 k)), (5, .p (.int .i64 j))], [], [], 0⟩) (fun j => qAS s o - j) (0) (by omega) ⟨qB (by simp), rfl, by simp, by simp⟩ ?_
  rintro j hj
  refine AW.seq ?_
  refine AW.seqDrawS tok mixed 15 [[5], [3], [15], [14, 16], [17], [3, 18], [5, 18], [19, 20, 18], [21, 18], [0, 18], [4, 18], [23, 24, 18], [25, 18], [22, 26, 18], [18, 27]] [.str (o.getD j []), .str s] [] (by kernel_rfl) ?_
  iterate 5 refine d1 ?_ (hv := by first | with_reducible exact True.intro | (first | (simp [hs]; done) | (simp +contextual; done) | (simp; intros; omega) | (simp [List.getD_eq_getElem?_getD]; intros; simp [*]); done) | omega | simp | (simp +contextual; omega))
  iterate 9 refine d2 18 rfl rfl ?_ (hv := by first | with_reducible exact True.intro | (first | (simp [hs]; done) | (simp +contextual; done) | (simp; intros; omega) | (simp [List.getD_eq_getElem?_getD]; intros; simp [*]); done) | omega | simp | (simp +contextual; omega))
  refine d1 ?_ (hv := by first | with_reducible exact True.intro | (first | (simp [hs]; done) | (simp +contextual; done) | (simp; intros; omega) | (simp [List.getD_eq_getElem?_getD]; intros; simp [*]); done) | omega | simp | (simp +contextual; omega))
  refine DGo.nil (by kernel_rfl) ⟨by kernel_rfl, ?_⟩
  refine qC.nil ?_
  refine cnd ?_ ?_
  ·intro h28
   try simp at h28
   have hjl : j < o.length := h28.1
   have hjp : j < qAS s o := by
    refine (zDU hj (x := o[j]) (by simp [hjl])).1 ?_
    simp [hjl] at h28
    simpa [leB] using h28
   refine AW.skip ?_
   refine AW.block ?_
   refine rgz [] [[], [], [0, 3, 4, 5]] ?_
   iterate 3 refine op1 tok ?_
   refine qA ?_
   exact ⟨j + 1, by omega, by omega, qB (by simp), rfl, by simp, by simp⟩
  ·intro h28
   try simp at h28
   have hjp : j = qAS s o := by
    by_cases h : j < qAS s o
    ·have hjl : j < o.length := by omega
     have := (zDU hj (x := o[j]) (by simp [hjl])).2 h
     simp [hjl] at h28
     simp [leB, h28] at this
    ·omega
   subst hjp
   refine AW.exit ?_
   simp
   refine rgn [] [[], [], [], [], [0, 3, 4, 5, 35], [0, 3, 4, 5, 6]] ?_
   iterate 6 refine op1 tok ?_
   refine qA ?_
   refine AW.seqDrawS tok mixed 11 [[], [3], [5], [37, 38], [36, 39], [0], [4], [41, 42], [43], [44], [40, 45]] [.str s, .str s] [] (by kernel_rfl) ?_
   iterate 11 refine d1 ?_ (hv := by first | with_reducible exact True.intro | (first | (simp [hs]; done) | (simp; omega); done) | omega | simp | (simp +contextual; omega))
   refine DGo.nil (by kernel_rfl) ⟨by kernel_rfl, ?_⟩
   refine qC.run [[0, 3, 4, 6]] ?_
   refine op1 tok ?_
   refine qA ?_
   refine rgz [] [[], [], [0, 4, 49], [0, 3, 4]] ?_
   iterate 4 refine op1 tok ?_
   refine qA ?_
   refine AW.renE 46 7 (by simp) (by conv => lhs; simp) ?_
   refine rgz [] [[], [], [0, 3, 4]] ?_
   iterate 3 refine op1 tok ?_
   refine qA ?_
   exact ⟨k + 1, by omega, by omega, qB (by simp [hnx, qJX, show List.take o.length (List.map PD.str o) = List.map PD.str o from List.take_of_length_le (by simp)]), rfl, by simp [hnx, qJX, show List.take o.length (List.map PD.str o) = List.map PD.str o from List.take_of_length_le (by simp)], by simp [hnx, qJX, show List.take o.length (List.map PD.str o) = List.map PD.str o from List.take_of_length_le (by simp)]⟩
 ·intro h11
  try simp at h11
  refine AW.exit ?_
  simp
  refine rgn [] [[], [2]] ?_
  iterate 2 refine op1 tok ?_
  refine qA ?_
  exact AW.ret (qI (k := by simp; rw [List.take_of_length_le h11]))
theorem qPA : ∀ {l m : List (List UInt8)}, zI wJ l m = 0 → l = m
 | [], [], _ => rfl
 | [], _ :: _, h => by simp [zI] at h
 | _ :: _, [], h => by simp [zI] at h
 | x :: l, y :: m, h => by
  simp only [zI] at h
  split at h
  ·omega
  ·rename_i h0
   have e : x = y := by
    have h1 : wJ x y = 0 := by omega
    unfold wJ at h1
    split at h1
    ·omega
    ·split at h1
     ·assumption
     ·omega
   rw [e, qPA h]
theorem zBJ (s t : List UInt8) : AFn Tryz.prog G 22 [(qJK s).enc, (qJK t).enc] (.int .i64 (wJ s t)) := by
 refine AFn.introU tok Tryz.func22 (by kernel_rfl) rfl rfl ?_
 simp only [Tryz.f22, qJ, List.map_cons, List.map_nil]
 simp only [Val.enc_def, qJK, Val.kind_mk, Val.mask_mk, Val.num_mk, Val.text_mk, Val.keys_mk, Val.kids_mk, Val.code_mk, dc0, List.map_nil]
 refine rgn [] [[], [], [2, 3]] ?_
 iterate 3 refine op1 tok ?_
 refine qA ?_
 refine AW.seq ?_
 refine rgn [] [[], [], [], [], [2, 3, 19]] ?_
 iterate 5 refine op1 tok ?_
 refine qA ?_
 refine cnd ?_ ?_
 ·intro h19
  try simp at h19
 ·intro h19
  try simp at h19
  refine AW.skip ?_
  refine AW.seq ?_
  refine rgn [] [[], [2, 3, 26]] ?_
  iterate 2 refine op1 tok ?_
  refine qA ?_
  refine AW.block ?_
  refine rgn [] [[], [2, 3, 26, 27]] ?_
  iterate 2 refine op1 tok ?_
  refine qA ?_
  refine cnd ?_ ?_
  ·intro h27
   try simp at h27
  ·intro h27
   try simp at h27
   refine rgn [] [[], [2, 3, 26, 34]] ?_
   iterate 2 refine op1 tok ?_
   refine qA ?_
   refine cnd ?_ ?_
   ·intro h34
    try simp at h34
    have hx : True := trivial
    refine AW.seq ?_
    refine rgn [] [[], [], [], [], [2, 3, 40]] ?_
    iterate 5 refine op1 tok ?_
    refine qA ?_
    refine cnd ?_ ?_
    ·intro h40
     try simp at h40
     have hR : wJ s t = -1 := by unfold wJ; rw [if_pos h40]
     refine rgn [] [[]] ?_
     refine op1 tok ?_
     refine qA ?_
     exact AW.ret (qI (k := by simp [hR]))
    ·intro h40
     try simp at h40
     refine AW.skip ?_
     refine AW.seq ?_
     refine rgn [] [[], [], [], [42, 44], [45]] ?_
     iterate 5 refine op1 tok ?_
     refine qA ?_
     refine cnd ?_ ?_
     ·intro h45
      try simp at h45
      have hR : wJ s t = 1 := by unfold wJ; rw [if_neg (by simp [h45.1]), if_neg h45.2]
      refine rgn [] [[]] ?_
      refine op1 tok ?_
      refine qA ?_
      exact AW.ret (qI (k := by simp [hR]))
     ·intro h45
      try simp at h45
      have hR : wJ s t = 0 := by
       unfold wJ; rw [if_neg (by simp [h40]), if_pos (h45 h40)]
      refine AW.skip ?_
      refine rgn [] [[]] ?_
      refine op1 tok ?_
      refine qA ?_
      exact AW.ret (qI (k := by simp [hR]))
   ·intro h34
    try simp at h34
theorem qKW (f : Nat) (a b : Val) (ha : qT a = true) (hb : qT b = true) (ih : ∀ x ∈ a.kids, ∀ y ∈ b.kids, AFn Tryz.prog G 22 [x.enc, y.enc] (.int .i64 (yB f x y))) : AFn Tryz.prog G 22 [a.enc, b.enc] (.int .i64 (yB (f + 1) a b)) := by
 refine AFn.introU tok Tryz.func22 (by kernel_rfl) rfl rfl ?_
 simp only [Tryz.f22, qJ, List.map_cons, List.map_nil]
 have hsa := kG ha
 have hsb := kG hb
 have hR := uB f a b
 refine rgn [] [[], [], [2, 3]] ?_
 iterate 3 refine op1 tok ?_
 refine qA ?_
 refine AW.seq ?_
 refine rgn [] [[], [], [], [], [2, 3, 19]] ?_
 iterate 5 refine op1 tok ?_
 refine qA ?_
 refine cnd ?_ ?_
 ·intro h19
  try simp at h19
  have hR : yB (f + 1) a b = yV a.kind b.kind := by rw [hR, if_pos]; intro e; exact h19 (qCW e)
  refine AW.seq ?_
  refine rgn [] [[], [], [], [21, 23], [24]] ?_
  iterate 5 refine op1 tok ?_
  refine qA ?_
  refine cnd ?_ ?_
  ·intro h24
   try simp at h24
   rw [qMA h24] at hR
   refine rgn [] [[]] ?_
   refine op1 tok ?_
   refine qA ?_
   exact AW.ret (qI (k := by simp [hR]))
  ·intro h24
   try simp at h24
   rw [qMB (by omega)] at hR
   refine AW.skip ?_
   refine rgn [] [[]] ?_
   refine op1 tok ?_
   refine qA ?_
   exact AW.ret (qI (k := by simp [hR]))
 ·intro h19
  try simp at h19
  have hkd : a.kind = b.kind := by simpa using h19
  rw [← hkd, qAK, if_neg (by simp), vP] at hR
  refine AW.skip ?_
  refine AW.seq ?_
  refine rgn [] [[], [2, 3, 26]] ?_
  iterate 2 refine op1 tok ?_
  refine qA ?_
  refine AW.block ?_
  refine rgn [] [[], [2, 3, 26, 27]] ?_
  iterate 2 refine op1 tok ?_
  refine qA ?_
  refine cnd ?_ ?_
  ·intro h27
   try simp at h27
   have hnum := zBK (G := G) a.num b.num (yZ ha h27) (yZ hb (by omega))
   rw [if_pos h27] at hR
   refine rgn [.nilp, .int .i64 (qAG a.num b.num)] [[], [], [], [30, 32], [], [4]] ?_
   iterate 6 refine op1 tok ?_ (hv := by first | with_reducible exact True.intro | ((simp at hnum ⊢; exact hnum); done) | omega | simp | (simp +contextual; omega))
   refine qA ?_
   exact AW.ret (qI (k := by simp [hR]))
  ·intro h27
   try simp at h27
   rw [if_neg h27] at hR
   refine rgn [] [[], [2, 3, 26, 34]] ?_
   iterate 2 refine op1 tok ?_
   refine qA ?_
   refine cnd ?_ ?_
   ·intro h34
    try simp at h34
    rw [if_pos h34, uU, ← qVJ] at hR
    refine AW.seq ?_
    refine rgn [] [[], [], [], [], [2, 3, 40]] ?_
    iterate 5 refine op1 tok ?_
    refine qA ?_
    refine cnd ?_ ?_
    ·intro h40
     try simp at h40
     rw [show wJ a.text b.text = -1 by unfold wJ; rw [if_pos h40]] at hR
     refine rgn [] [[]] ?_
     refine op1 tok ?_
     refine qA ?_
     exact AW.ret (qI (k := by simp [hR]))
    ·intro h40
     try simp at h40
     refine AW.skip ?_
     refine AW.seq ?_
     refine rgn [] [[], [], [], [42, 44], [45]] ?_
     iterate 5 refine op1 tok ?_
     refine qA ?_
     refine cnd ?_ ?_
     ·intro h45
      try simp at h45
      rw [show wJ a.text b.text = 1 by unfold wJ; rw [if_neg (by simp [h45.1]), if_neg h45.2]] at hR
      refine rgn [] [[]] ?_
      refine op1 tok ?_
      refine qA ?_
      exact AW.ret (qI (k := by simp [hR]))
     ·intro h45
      try simp at h45
      rw [show wJ a.text b.text = 0 by unfold wJ; rw [if_neg (by simp [h40]), if_pos (h45 h40)]] at hR
      refine AW.skip ?_
      refine rgn [] [[]] ?_
      refine op1 tok ?_
      refine qA ?_
      exact AW.ret (qI (k := by simp [hR]))
   ·intro h34
    try simp at h34
    rw [if_neg h34] at hR
    refine rgn [] [[], [2, 3, 26, 46]] ?_
    iterate 2 refine op1 tok ?_
    refine qA ?_
    refine cnd ?_ ?_
    ·intro h46
     try simp at h46
     rw [if_pos h46] at hR
     have hcl := qOC (G := G) a.kids b.kids (yB f) (by omega) ih
     refine rgn [.nilp, .int .i64 (zI (yB f) a.kids b.kids)] [[], [], [], [49, 51], [], [4]] ?_
     iterate 6 refine op1 tok ?_ (hv := by first | with_reducible exact True.intro | (exact hcl; done) | omega | simp | (simp +contextual; omega))
     refine qA ?_
     exact AW.ret (qI (k := by simp [hR]))
    ·intro h46
     try simp at h46
     rw [if_neg h46] at hR
     refine rgn [] [[], [2, 3, 26, 53]] ?_
     iterate 2 refine op1 tok ?_
     refine qA ?_
     refine cnd ?_ ?_
     ·intro h53
      try simp at h53
      rw [if_pos h53] at hR
      refine AW.seq ?_
      refine rgn [] [[], [], [], [], [2, 3, 59]] ?_
      iterate 5 refine op1 tok ?_
      refine qA ?_
      refine cnd ?_ ?_
      ·intro h59
       try simp at h59
       rw [qMA h59] at hR
       refine rgn [] [[]] ?_
       refine op1 tok ?_
       refine qA ?_
       exact AW.ret (qI (k := by simp [hR]))
      ·intro h59
       try simp at h59
       refine AW.skip ?_
       refine AW.seq ?_
       refine rgn [] [[], [], [], [61, 63], [64]] ?_
       iterate 5 refine op1 tok ?_
       refine qA ?_
       refine cnd ?_ ?_
       ·intro h64
        try simp at h64
        rw [qMB h64] at hR
        refine rgn [] [[]] ?_
        refine op1 tok ?_
        refine qA ?_
        exact AW.ret (qI (k := by simp [hR]))
       ·intro h64
        try simp at h64
        rw [show yV a.code b.code = 0 by rw [show a.code = b.code by omega, qAK]] at hR
        refine AW.skip ?_
        refine rgn [] [[]] ?_
        refine op1 tok ?_
        refine qA ?_
        exact AW.ret (qI (k := by simp [hR]))
     ·intro h53
      try simp at h53
      rw [if_neg h53] at hR
      refine rgn [] [[], [2, 3, 65]] ?_
      iterate 2 refine op1 tok ?_
      refine qA ?_
      refine cnd ?_ ?_
      ·intro h65
       try simp at h65
       rw [if_pos h65] at hR
       obtain ⟨oa1, oa2, oa3⟩ := xD ha h65
       obtain ⟨ob1, ob2, ob3⟩ := xD hb (by omega)
       have q1 := qMU (G := G) a.keys (by omega)
       have q2 := qMU (G := G) b.keys (by omega)
       have w1 := qWF (G := G) (zB a.keys) (by rw [vU]; omega)
       have w2 := qWF (G := G) (zB b.keys) (by rw [vU]; omega)
       have hc := qOC (G := G) ((zB a.keys).map qJK) ((zB b.keys).map qJK) (fun x y => wJ x.text y.text) (by rw [List.length_map, vU]; omega) (fun x hx y hy => by
        obtain ⟨s, _, rfl⟩ := List.mem_map.1 hx
        obtain ⟨t, _, rfl⟩ := List.mem_map.1 hy
        exact zBJ s t)
       have hcm : zI (fun x y : Val => wJ x.text y.text) ((zB a.keys).map qJK) ((zB b.keys).map qJK) = zI wJ (zB a.keys) (zB b.keys) := by rw [qZR]; rfl
       rw [hcm] at hc
       have hco : (zI wJ (zB a.keys) (zB b.keys) = 0) → zB a.keys = zB b.keys := qPA
       have hma : ∀ s ∈ zB a.keys, s ∈ a.keys := fun s h => qFT.1 h
       have hmb : ∀ s ∈ zB b.keys, s ∈ b.keys := fun s h => qFT.1 h
       have hcl := qOC (G := G) (wP a) (wP b) (yB f) (by unfold wP; rw [List.length_map, vU]; omega) (fun x hx y hy => ih x (vZ (by omega) hx) y (vZ (by omega) hy))
       have hka : wP a = (zB a.keys).map (qBN a) := rfl
       have hkb : wP b = (zB b.keys).map (qBN b) := rfl
       have hxl : (zB a.keys).length ≤ 200 := by rw [vU]; omega
       generalize zI wJ (zB a.keys) (zB b.keys) = c at *
       generalize zB a.keys = xs at *
       generalize zB b.keys = ys at *
       refine rgn [.nilp, .sl 1 (xs.map PD.str)] [[], [], [], [2, 3, 5]] ?_
       iterate 4 refine op1 tok ?_ (hv := by first | with_reducible exact True.intro | (exact q1; done) | omega | simp | (simp +contextual; omega))
       refine qA ?_
       refine rgn [.nilp, .sl 1 (ys.map PD.str)] [[], [], [], [2, 3, 5, 6]] ?_
       iterate 4 refine op1 tok ?_ (hv := by first | with_reducible exact True.intro | (exact q2; done) | omega | simp | (simp +contextual; omega))
       refine qA ?_
       refine rgn [.nilp, .sl 9 ((xs.map qJK).map Val.enc), .nilp, .sl 9 ((ys.map qJK).map Val.enc), .nilp, .int .i64 c] [[], [], [], [], [2, 3, 5, 77], [2, 3, 5, 7]] ?_
       iterate 6 refine op1 tok ?_ (hv := by first | with_reducible exact True.intro | (first | exact w1 | exact w2 | exact hc | (simp at w1 ⊢; exact w1) | (simp at w2 ⊢; exact w2) | (simp at hc ⊢; exact hc); done) | omega | simp | (simp +contextual; omega))
       refine qA ?_
       refine rgn [] [[], [2, 3, 5, 7, 8]] ?_
       iterate 2 refine op1 tok ?_
       refine qA ?_
       refine rgn [] [[], [2, 3, 5, 7, 8, 9]] ?_
       iterate 2 refine op1 tok ?_
       refine qA ?_
       refine AW.seq ?_
       refine rgn [] [[]] ?_
       refine op1 tok ?_
       refine qA ?_
       refine AW.block ?_
       refine AW.loop (α := Nat) (fun k => k ≤ xs.length ∧ (c ≠ 0 → k = 0)) (fun k => ⟨qW 122 [(2, .ptr 2 0), (3, .ptr 3 0), (5, .p (.sl 1 (xs.map PD.str))), (7, .p (.int .i64 c)), (8, .ms 78), (9, .ms 79), (10, .p (.int .i64 k))], [], [(2, .vars 31 a.cells), (3, .vars 31 b.cells), (78, .row 31 9 (((xs.take k).map (qBN a)).map Val.enc)), (79, .row 31 9 (((xs.take k).map (qBN b)).map Val.enc))], 0⟩) (fun k => xs.length - k) (0) ⟨by omega, fun _ => rfl⟩ ⟨qB (by simp), rfl, by simp, by simp⟩ ?_
       rintro k ⟨hk, hz⟩
       refine AW.seq ?_
       refine rgn [] [[], [], [], [], [2, 3, 5, 7, 8, 9, 10, 84], [], [], [2, 3, 5, 7, 8, 9, 10, 87]] ?_
       iterate 5 refine op1 tok ?_
       iterate 2 refine op2 tok ?_
       refine op1 tok ?_
       refine qA ?_
       refine cnd ?_ ?_
       ·intro h87
        try simp at h87
        have hc0 : c = 0 := by omega
        have hkl : k < xs.length := by omega
        obtain ⟨s, hs⟩ : ∃ s, xs[k]? = some s := ⟨xs[k], by simp [hkl]⟩
        have k1 := qRE (G := G) a s (by omega) (by omega)
        have k2 := qRE (G := G) b s (by omega) (by omega)
        have i1 : s ∈ a.keys := hma s (List.mem_of_getElem? hs)
        have i2 : s ∈ b.keys := hmb s (by rw [← hco hc0]; exact List.mem_of_getElem? hs)
        rw [if_pos i1, decide_eq_true i1] at k1
        rw [if_pos i2, decide_eq_true i2] at k2
        generalize hu : qBN a s = u at k1
        generalize hw : qBN b s = w at k2
        simp only [Val.enc_def] at k1 k2
        refine AW.skip ?_
        refine AW.seq ?_
        refine AW.block ?_
        refine AW.seqDrawS tok mixed 11 [[2], [5], [10], [92, 93], [94], [91, 95], [96], [90], [90], [], [11, 97]] [.str s, .nilp, .tup [u.enc, .bool true]] [] (by kernel_rfl) ?_
        iterate 11 refine d1 ?_ (hv := by first | with_reducible exact True.intro | (first | (simp [hs]; done) | exact k1; done) | omega | simp | (simp +contextual; omega))
        refine DGo.nil (by kernel_rfl) ⟨by kernel_rfl, ?_⟩
        refine qC.run [[2, 3, 5, 7, 8, 9, 10, 11]] ?_
        refine op1 tok ?_
        refine qA ?_
        refine AW.seqDrawS tok mixed 11 [[3], [5], [10], [101, 102], [103], [100, 104], [105], [99], [99], [], [13, 106]] [.str s, .nilp, .tup [w.enc, .bool true]] [] (by kernel_rfl) ?_
        iterate 11 refine d1 ?_ (hv := by first | with_reducible exact True.intro | (first | (simp [hs]; done) | exact k2; done) | omega | simp | (simp +contextual; omega))
        refine DGo.nil (by kernel_rfl) ⟨by kernel_rfl, ?_⟩
        refine qC.run [[2, 3, 5, 7, 8, 9, 10, 11, 13]] ?_
        refine op1 tok ?_
        refine qA ?_
        refine rgn [u.enc] [[], [], [], [2, 3, 5, 7, 9, 10, 13, 111], [2, 3, 5, 7, 8, 9, 10, 13]] ?_
        iterate 5 refine op1 tok ?_ (hv := by first | with_reducible exact True.intro | ((simp; omega); done) | omega | simp | (simp +contextual; omega))
        refine qA ?_
        refine rgz [w.enc] [[], [], [], [2, 3, 5, 7, 8, 10, 115], [2, 3, 5, 7, 8, 9, 10]] ?_
        iterate 5 refine op1 tok ?_ (hv := by first | with_reducible exact True.intro | ((simp; omega); done) | omega | simp | (simp +contextual; omega))
        refine qA ?_
        refine rgz [] [[], [], [2, 3, 5, 7, 8, 9, 10]] ?_
        iterate 3 refine op1 tok ?_
        refine qA ?_
        exact ⟨k + 1, ⟨by omega, fun h => (h hc0).elim⟩, by omega, qB (by simp [List.take_add_one, hs, hu, hw]), rfl, by simp [List.take_add_one, hs, hu, hw], by simp [List.take_add_one, hs, hu, hw]⟩
       ·intro h87
        try simp at h87
        refine AW.exit ?_
        simp
        refine AW.seq ?_
        refine rgn [] [[], [7, 8, 9, 117]] ?_
        iterate 2 refine op1 tok ?_
        refine qA ?_
        refine cnd ?_ ?_
        ·intro h117
         try simp at h117
         rw [if_pos h117] at hR
         refine rgn [] [[], [4]] ?_
         iterate 2 refine op1 tok ?_
         refine qA ?_
         exact AW.ret (qI (k := by simp [hR]))
        ·intro h117
         try simp at h117
         rw [if_neg (by simp [h117])] at hR
         have hkx : k = xs.length := by omega
         have hxy := hco h117
         subst hkx
         subst hxy
         refine AW.skip ?_
         refine AW.seqRegionO [.nilp, .int .i64 (zI (yB f) (wP a) (wP b))] ?_
         refine qC.freeze 78 (by conv => lhs; simp) ?_
         refine qC.freeze 79 (by conv => lhs; simp) ?_
         refine qC.run [[], [], [121], [4]] ?_
         iterate 4 refine op1 tok ?_ (hv := by first | with_reducible exact True.intro | ((rw [hka, hkb] at hcl ⊢; simp at hcl ⊢; rw [List.take_of_length_le (by simp), List.take_of_length_le (by simp)]; exact hcl); done) | omega | simp | (simp +contextual; omega))
         refine qA ?_
         exact AW.ret (qI (k := by simp [hR]))
      ·intro h65
       try simp at h65
       rw [if_neg h65] at hR
       refine AW.skip ?_
       refine rgn [] [[]] ?_
       refine op1 tok ?_
       refine qA ?_
       exact AW.ret (qI (k := by simp [hR]))
theorem qNG : ∀ (f : Nat) (a b : Val), qT a = true → qT b = true → Val.sz a ≤ f → AFn Tryz.prog G 22 [a.enc, b.enc] (.int .i64 (yB (f + 1) a b))
 | 0, a, b, ha, hb, h => qKW 0 a b ha hb fun x hx => by have := Val.sz_kid hx; omega
 | f + 1, a, b, ha, hb, h => qKW (f + 1) a b ha hb fun x hx y hy => qNG f x y (zU ha hx) (zU hb hy) (by have := Val.sz_kid hx; omega)
theorem qJR (a b : Val) (ha : qT a = true) (hb : qT b = true) : AFn Tryz.prog G 22 [a.enc, b.enc] (.int .i64 (jJ a b)) := qNG _ a b ha hb (Nat.le_refl _)
end Go.Proofs.YtdojfdaglbphlaaGreatDoor
namespace Go.Proofs.YtdojfdaglbphlaaGreatDoor.Sy
open Go
section
variable {P : Program} {T : Tab} {G : qQ} {Q : Exit → St → Prop} {st st' : St}
theorem Turned.refl (w : World) (b : Nat) : Turned w w b := ⟨rfl, rfl, rfl, rfl, fun _ _ => rfl⟩
theorem Rel.beginBox {c : Ctx} {M : zD} {μ : Mu} {st : St} {tmps : Array Value} {w : World} (r : Rel c M μ st tmps w) {id k j : Nat} {e : TypeId} {cells : List V} (hb : zY id st.H = some (.vars e cells)) (hj : cells[j]? = some .nilsl)
  (hf : st.fresh k = true) (e' : TypeId) (sz : Nat) : ∃ μ', Rel c M μ' { st with H := zZ id (.vars e (cells.set j (.ms k))) ((k, .row e' sz []) :: st.H) } tmps w := by
 have hm := zG hb
 have hk : qL id st.H = true := qF.2 ⟨_, hm⟩
 have hne : id ≠ k := by
  rintro rfl
  have := (St.fresh_spec hf).2.2.2
  rw [hk] at this; cases this
 have r1 := r.adopt (l := ⟨none, .slice none 0 0⟩) hf (fun b hb => by cases hb) (bx := .row e' sz []) (.rowN (by rw [qP]) (by rw [qP]))
 have hbx := r1.box id _ (List.mem_cons_of_mem _ hm)
 cases hbx with
 | @vars _ _ b arr h0 hh hs ho hc =>
 refine ⟨_, r1.write (id := id) (b := b) (w' := w) (bx := .vars e (cells.set j (.ms k))) (by simp [qL, hk]) h0 (Turned.refl w b) (.vars h0 hh (by simpa using hs) ho fun i u x hu hx => ?_)⟩
 rw [List.getElem?_set] at hx
 split at hx
 ·rename_i hji
  subst hji
  split at hx
  ·cases hx
   have := hc j u .nilsl hu hj
   cases this
   exact .ms (by rw [qP]) rfl
  ·cases hx
 ·exact hc i u x hu hx
theorem AW.beginBox {c : Code} (id k j : Nat) (e' : TypeId) (sz : Nat) {e : TypeId} {cells : List V} (hb : zY id st.H = some (.vars e cells)) (hj : cells[j]? = some .nilsl) (hf : st.fresh k = true)
  (h : ({ st with H := zZ id (.vars e (cells.set j (.ms k))) ((k, .row e' sz []) :: st.H) } : St) = st') (k : AW P G c Q st') : AW P G c Q st := fun x M μ tmps w hg r => by
 obtain ⟨μ', r'⟩ := r.beginBox hb hj hf e' sz
 exact k x M μ' tmps w hg (h ▸ r')
theorem qC.beginBox {ops : Array Oper} {l : List Oper} {orc : List PD} (id k j : Nat) (e' : TypeId) (sz : Nat) {e : TypeId} {cells : List V} (hb : zY id st.H = some (.vars e cells)) (hj : cells[j]? = some .nilsl) (hf : st.fresh k = true)
  (h : ({ st with H := zZ id (.vars e (cells.set j (.ms k))) ((k, .row e' sz []) :: st.H) } : St) = st') (k : qC P G ops Q l st' orc) : qC P G ops Q l st orc := fun x M μ tmps w hg r => by
 obtain ⟨μ', r'⟩ := r.beginBox hb hj hf e' sz
 exact k x M μ' tmps w hg (h ▸ r')
theorem AW.pinsTo {c : Code} (ps : List Nat) (hs : ∀ i ∈ ps, i ∈ st.pins) (h : ({ st with pins := ps } : St) = st') (k : AW P G c Q st') : AW P G c Q st := fun x M μ tmps w hg r =>
 k x M μ tmps w hg (h ▸ ⟨r.mem, r.ext, r.old, r.slots, fun i hi => r.pins i (hs i hi), r.box, r.nodup, r.inj, r.own, r.size, r.below⟩)
theorem qC.stepKIf (ks : List Nat) (d : Nat) {orc : List PD} {ops : Array Oper} {o : Oper} {rest : List Oper} {x : V} {st1 : St} {j : Nat} {pol : Bool} (hgd : o.guard = some (j, pol)) (hd : (ops[j]?).bind (·.dst) = some d)
  (h : zE P G o st x st1) (hb : decide (d < st.tmps.length) = true ∧ V.guards pol (st.tmps.getD d .dead) = some true) (hk : (st1.put o.dst (.when true x)).keep ks = st') (k : qC P G ops Q rest st' orc) : qC P G ops Q (o :: rest) st orc :=
 zH.stepIfT hgd hd (of_decide_eq_true hb.1) hb.2 h (zH.keep ks (hk ▸ k))
theorem AW.fillE {c : Code} (id : Nat) (ns : List (Option Nat)) (h : st.fill id ns = st') (k : AW P G c Q st') : AW P G c Q st := fun x M μ tmps w hg r => k x M μ tmps w hg (h ▸ r.fill id ns)
end
set_option linter.unusedSimpArgs false
section
variable {P : Program} {T : Tab} {G : qQ} {Q : Exit → St → Prop} {st st' : St}
def qAT (ks : List (List UInt8)) (vs : List V) (s : List UInt8) (v : V) : List V := if s ∈ ks then vs.set (ks.idxOf s) v else vs ++ [v]
theorem qWC (hT : TOK P T) {o : Oper} {t el : TypeId} {x y : Operand} (ho : o.op = .slice t x none (some y) none) (ht : wB T t = some (.sl el)) {p q : Prop} {id : Nat} {kd : IntKind} {z : Int} (n : Nat)
  (h1 : st.arg G x = (p, .ms id)) (hp : p) (h2 : st.arg G y = (q, .p (.int kd z))) (hq : q) {e sz : Nat} {es : List PD} {ti : TI} (hti : T el = some ti) (hb : zY id st.H = some (.row e sz es)) (hn : n ≤ es.length) (hz : z = (n : Int)) :
  zE P G o st (.ms id) { st.kill id with H := (id, .row e sz (es.take n)) :: (st.kill id).H } := by
 subst hz
 intro c M μ tmps w hg r
 have hd := hT.sl ht
 obtain ⟨i, de, hi', _, _, hsz, _⟩ := hT.get hti
 have hso : (sizeOf el).run P w = .ok ti.size w := by simp [sizeOf, typeInfo, hi', hsz]
 have e1 := qE hg r h1 hp
 have e2 := (qE hg r h2 hq).p_inv
 generalize hu1 : Act.eval ⟨tmps, []⟩ x = u1 at e1
 generalize hu2 : Act.eval ⟨tmps, []⟩ y = u2 at e2
 cases e1 with
 | ms hval hone =>
 cases e2 with
 | int _ _ =>
 have hm := zG hb
 have hk : qL id st.H = true := qF.2 ⟨_, hm⟩
 have rk := r.kill id
 have hbx := r.box id _ hm
 cases hbx with
 | rowN h0 hv =>
  rw [hv] at hval
  subst hval
  obtain rfl : n = 0 := by simpa using hn
  have hbd := wO (P := P) (isSlice := true) (len := 0) (cap := 0) (lo := none) (hi := some (.int kd 0)) (l := 0) (h := 0) (.inl ⟨rfl, rfl⟩) (.inr ⟨kd, rfl⟩) (by omega) (by omega) (by omega) w
  have er : (execOp (Act.eval ⟨tmps, []⟩) o).run P w = .ok (.value (.slice none 0 0)) w := by
   simp at hbd
   simp [execOp, ho, hu1, hu2, Instr.sliceAt, Instr.slice, run_underlying hd, hbd, hso]
  rw [er]
  exact ⟨M, upd μ id ⟨none, .slice none 0 0⟩, rk.adopt (l := ⟨none, .slice none 0 0⟩) (qAY st id) (fun b hb => by cases hb) (.rowN (by rw [qP]) (by rw [qP])), .ms (by rw [qP]) rfl⟩
 | @row _ _ _ b cap arr h0 hv hh has hlc hcm hone' hz hcc =>
  rw [hv] at hval
  subst hval
  have hbd := wO (P := P) (isSlice := true) (len := es.length) (cap := cap) (lo := none) (hi := some (.int kd n)) (l := 0) (h := n) (.inl ⟨rfl, rfl⟩) (.inr ⟨kd, rfl⟩) (by omega) (by omega) (by omega) w
  have er : (execOp (Act.eval ⟨tmps, []⟩) o).run P w = .ok (.value (.slice (some ⟨b, 0, none⟩) n cap)) w := by
   simp at hbd
   have ha : (if cap = 0 then (some (⟨b, 0, none⟩ : Addr)) else (some (⟨b, 0, none⟩ : Addr)).map (·.add (0 * ti.size))) = some ⟨b, 0, none⟩ := by
    split
    ·rfl
    ·simp [Addr.add]
   simp [execOp, ho, hu1, hu2, Instr.sliceAt, Instr.slice, run_underlying hd, hbd, hso]
   try simpa using ha
  rw [er]
  have hown := r.own id b hk h0
  refine ⟨M, upd μ id ⟨some b, .slice (some ⟨b, 0, none⟩) n cap⟩, rk.adopt (l := ⟨some b, .slice (some ⟨b, 0, none⟩) n cap⟩) (qAY st id) (fun b' hb' => ?_) (.row (cap := cap) (by rw [qP]) (by rw [qP]; simp [Nat.min_eq_left hn]) hh has (by simp; omega) hcm hone' (fun i e' he => hz i e' ?_) fun i e' j d u he hd hu => hcc i e' j d u ?_ hd hu), .ms (by rw [qP]) rfl⟩
  ·cases hb'; exact ⟨hown.1, hown.2.1, hown.2.2, qOE r hk h0⟩
  ·rw [List.getElem?_take] at he; split at he
   ·exact he
   ·cases he
  ·rw [List.getElem?_take] at he; split at he
   ·exact he
   ·cases he
theorem qEO {id : Nat} {b : Box} : ∀ {H : List (Nat × Box)}, zY id H = some b → zZ id b H = H
 | [], _ => rfl
 | (i, c) :: r, h => by
  simp only [zY] at h
  simp only [zZ]
  split at h
  ·rename_i e; cases h; rw [if_pos e]
  ·rename_i e; rw [if_neg e, qEO h]
theorem qQK (z : Array Value) (n : Nat) : Builtin.zeroCells z n = madeCells z (n * z.size) := rfl
theorem qC.clearFrom {ops : Array Oper} {o1 o2 : Oper} {rest : List Oper} {orc : List PD} (hT : TOK P T) (ks : List Nat) {t el d : Nat} {x y : Operand} {p q : Prop} {id : Nat} {kd : IntKind} {z : Int} (n : Nat) (ho1 : o1.op = .slice t x (some y) none none) (hd1 : o1.dst = some d) (hg1 : o1.guard = none)
  (ho2 : o2.op = .call { callee := .builtin .clear, args := #[.tmp d], argTypes := #[t] }) (hd2 : o2.dst = none) (hg2 : o2.guard = none) (ht : wB T t = some (.sl el)) {ti : TI} (hti : T el = some ti) {zs : List V} (hzs : ti.zero.cells = some zs) (hzl : zs.length = ti.size) {e0 : PD} (hfit : V.fitsL [] zs e0.cells)
  (h1 : st.arg G x = (p, .ms id)) (hp : p) (h2 : st.arg G y = (q, .p (.int kd z))) (hq : q) {e sz : Nat} {es : List PD} (hb : zY id st.H = some (.row e sz es)) (hsz : sz = ti.size) (hn : n ≤ es.length) (hz : z = (n : Int)) (hdl : d < st.tmps.length)
  (k : qC P G ops Q rest ((({ st with H := zZ id (.row e sz (es.take n ++ List.replicate (es.length - n) e0)) st.H } : St).put (some d) .dead).keep ks) orc) : qC P G ops Q (o1 :: o2 :: rest) st orc := by
 subst hz; subst hsz
 intro c M μ tmps w hg r
 have hd := hT.sl ht
 obtain ⟨i, de, hi', _, _, hszi, _⟩ := hT.get hti
 have hso : (sizeOf el).run P w = .ok ti.size w := by simp [sizeOf, typeInfo, hi', hszi]
 have e1 := qE hg r h1 hp
 have e2 := (qE hg r h2 hq).p_inv
 generalize hu1 : Act.eval ⟨tmps, []⟩ x = u1 at e1
 generalize hu2 : Act.eval ⟨tmps, []⟩ y = u2 at e2
 have hts : d < tmps.size := by rw [r.slots.1]; exact hdl
 cases e1 with
 | ms hval hone =>
 cases e2 with
 | int _ _ =>
 have hm := zG hb
 have hk : qL id st.H = true := qF.2 ⟨_, hm⟩
 have key : ∀ (v1 : Value) (w1 : World), (execOp (Act.eval ⟨tmps, []⟩) o1).run P w = .ok (.value v1) w → (Builtin.clear_ #[t] o2.type #[v1]).run P w = .ok (.tuple #[]) w1 →
   Rel c M μ { st with H := zZ id (.row e ti.size (es.take n ++ List.replicate (es.length - n) e0)) st.H } tmps w1 → wpList P ops (zNG c Q) (o1 :: o2 :: rest) ⟨tmps, []⟩ w := by
  intro v1 w1 er1 er2 r1
  refine wpList_plain hg1 fun K hK => jA (next := fun v w' => v = v1 ∧ w' = w) (by rw [er1]; exact ⟨rfl, rfl⟩) ?_
  rintro u w' ⟨rfl, rfl⟩
  apply hK
  rw [Act.put_tmps, hd1]
  simp only
  have hev : Act.eval ⟨tmps.setIfInBounds d u, []⟩ (.tmp d) = u := by simp [Act.eval, hts]
  have er : (execOp (Act.eval ⟨tmps.setIfInBounds d u, []⟩) o2).run P w' = .ok (.value (.tuple #[])) w1 := by
   simp [execOp, ho2, resolve, invoke, builtin, hev, er2]
  refine wpList_plain hg2 fun K hK => jA (next := fun v w'' => v = .tuple #[] ∧ w'' = w1) (by rw [er]; exact ⟨rfl, rfl⟩) ?_
  rintro u2 w'' ⟨rfl, rfl⟩
  apply hK
  rw [Act.put_tmps, hd2]
  simp only
  exact zH.keep ks k c M μ _ _ hg (r1.put (.dead) (some d))
 have hbx := r.box id _ hm
 cases hbx with
 | rowN h0 hv =>
  rw [hv] at hval
  subst hval
  obtain rfl : n = 0 := by simpa using hn
  have hbd := wO (P := P) (isSlice := true) (len := 0) (cap := 0) (lo := some (.int kd 0)) (hi := none) (l := 0) (h := 0) (.inr ⟨kd, rfl⟩) (.inl ⟨rfl, rfl⟩) (by omega) (by omega) (by omega) w
  refine key (.slice none 0 0) w ?_ (by simp [Builtin.clear_, run_underlying hd]) ?_
  ·simp at hbd
   simp [execOp, ho1, hu1, hu2, Instr.sliceAt, Instr.slice, run_underlying hd, hbd, hso]
  ·rw [show (List.take 0 ([] : List PD) ++ List.replicate (([] : List PD).length - 0) e0) = [] by rfl]
   have hsame : zZ id (.row e ti.size []) st.H = st.H := qEO hb
   rw [hsame]
   exact r
 | @row _ _ _ b cap arr h0 hv hh has hlc hcm hone' hz hcc =>
  rw [hv] at hval
  subst hval
  have hbd := wO (P := P) (isSlice := true) (len := es.length) (cap := cap) (lo := some (.int kd n)) (hi := none) (l := n) (h := es.length) (.inr ⟨kd, rfl⟩) (.inl ⟨rfl, rfl⟩) (by omega) (by omega) (by omega) w
  obtain ⟨zv, hzr, hzc, _⟩ := qCI hT hti hzs M μ w
  by_cases hne : n = es.length
  ·subst hne
   refine key (.slice (if cap = es.length then some ⟨b, 0, none⟩ else (some (⟨b, 0, none⟩ : Addr)).map (·.add (es.length * ti.size))) 0 (cap - es.length)) w ?_ ?_ ?_
   ·simp at hbd
    simp [execOp, ho1, hu1, hu2, Instr.sliceAt, Instr.slice, run_underlying hd, hbd, hso]
   ·split <;> simp [Builtin.clear_, run_underlying hd]
   ·rw [List.take_length, Nat.sub_self, List.replicate_zero, List.append_nil]
    have := r.write (w' := w) (bx := .row e ti.size es) hk h0 (Turned.refl w b) (.row h0 hv hh has hlc hcm hone' hz hcc)
    exact this
  ·have hlt : n < es.length := by omega
   have hzs' : zv.cells.size = ti.size := by rw [hzc.size, hzl]
   have hmr := qOA hzc hzl hfit (es.length - n)
   have hsum : n * ti.size + (es.length - n) * ti.size = es.length * ti.size := by rw [← Nat.add_mul]; congr 1; omega
   have hcap : es.length * ti.size ≤ cap * ti.size := Nat.mul_le_mul_right _ hlc
   have hml : (madeCells zv.cells ((es.length - n) * ti.size)).toList.length = (es.length - n) * ti.size := by rw [hmr.len, List.length_replicate]
   have hst := run_storeCells_at P b (n * ti.size) e (madeCells zv.cells ((es.length - n) * ti.size)).toList 0 arr w hh (by simp only [Nat.add_zero, hml]; omega) hmr.one
   simp only [Nat.add_zero] at hst
   generalize hnew : (arr.toList.take (n * ti.size) ++ (madeCells zv.cells ((es.length - n) * ti.size)).toList ++ arr.toList.drop (n * ti.size + (madeCells zv.cells ((es.length - n) * ti.size)).toList.length)).toArray = arr' at hst
   have hrow : RowOf M ti.size es (arr.toList.take (es.length * ti.size)) := by
    rcases (r.box id _ hm).cells with ⟨rfl, h, _⟩ | ⟨b', cap', arr2, g0, gv, gh, _, _, _, _, gr⟩
    ·rw [h0] at h; cases h
    ·rw [h0] at g0; cases g0
     rw [hh] at gh; cases gh
     exact gr
   refine key (.slice (some ⟨b, n * ti.size, none⟩) (es.length - n) (cap - n)) (w.setRow b arr') ?_ ?_ ?_
   ·simp at hbd
    have hne2 : ¬ cap = n := by omega
    have hadd : (⟨b, 0, none⟩ : Addr).add (n * ti.size) = ⟨b, n * ti.size, none⟩ := by rw [jT]; simp
    simp [execOp, ho1, hu1, hu2, Instr.sliceAt, Instr.slice, run_underlying hd, hbd, hso, hne2, hadd]
   ·obtain ⟨m, hm'⟩ : ∃ m, es.length - n = m + 1 := ⟨es.length - n - 1, by omega⟩
    rw [hm'] at hst ⊢
    have hzm := qQK zv.cells (m + 1)
    rw [hzs'] at hzm
    simp only [Builtin.clear_, Sem.run_bind]
    simp [run_underlying hd, hzr, hzm, hst, Result.andThen]
   ·refine r.write (w' := w.setRow b arr') hk h0 (jW w b _) ?_
    have hsz' : arr'.size = arr.size := by rw [← hnew]; simp [hml]; omega
    have hR : RowOf M ti.size (es.take n ++ List.replicate (es.length - n) e0) (arr.toList.take (n * ti.size) ++ (madeCells zv.cells ((es.length - n) * ti.size)).toList) := by
     refine RowOf.append ?_ hmr
     refine ⟨by rw [List.length_take, List.length_take, Nat.min_eq_left hn, Nat.min_eq_left (by rw [Array.length_toList, has]; exact Nat.mul_le_mul_right _ (by omega))], fun u hu => hrow.one u ?_, fun j e' he => hrow.elem j e' ?_, fun j e' l d' u he hd' hu => hrow.get j e' l d' u ?_ hd' ?_⟩
     ·have : arr.toList.take (n * ti.size) = (arr.toList.take (es.length * ti.size)).take (n * ti.size) := by rw [List.take_take, Nat.min_eq_left (by omega)]
      rw [this] at hu; exact List.mem_of_mem_take hu
     ·rw [List.getElem?_take] at he; split at he
      ·exact he
      ·cases he
     ·rw [List.getElem?_take] at he; split at he
      ·exact he
      ·cases he
     ·rw [List.getElem?_take] at hu ⊢
      split at hu
      ·rw [if_pos (by omega)]; exact hu
      ·cases hu
    have hll : (es.take n ++ List.replicate (es.length - n) e0).length = es.length := by simp; omega
    refine hR.box (cap := cap) h0 (by rw [hll]; exact hv) (setRow_heap w b arr _ e (0, 0) hh) (by rw [hsz']; exact has) (by rw [hll]; exact hlc) hcm (fun j u hu => ?_) ?_
    ·rw [← hnew, List.getElem?_toArray] at hu
     have hmem := List.mem_of_getElem? hu
     rw [List.append_assoc, List.mem_append, List.mem_append] at hmem
     rcases hmem with h | h | h
     ·obtain ⟨j', hj'⟩ := List.mem_iff_getElem?.1 (List.mem_of_mem_take h)
      exact hone' j' u (by simpa using hj')
     ·exact hmr.one u h
     ·obtain ⟨j', hj'⟩ := List.mem_iff_getElem?.1 (List.mem_of_mem_drop h)
      exact hone' j' u (by simpa using hj')
    ·rw [← hnew, hll]
     simp only [List.append_assoc]
     rw [← List.append_assoc, List.take_append_of_le_length (by simp [hml]; omega), List.take_of_length_le (by simp [hml]; omega)]
end
end Go.Proofs.YtdojfdaglbphlaaGreatDoor.Sy
namespace Go.Proofs.YtdojfdaglbphlaaGreatDoor
open Sy Go
set_option maxRecDepth 100000
set_option maxHeartbeats 4000000
set_option linter.unusedSimpArgs false
set_option linter.unusedVariables false
variable {G : qQ}
theorem zID (ks : List (List UInt8)) (hn : ks.length ≤ 1000000) : AX Tryz.prog G 187 [.p (.sl 1 (ks.map PD.str))] [] (.ms 905) [] [(905, .row 9 1 (ks.map PD.str))] := by
 refine AX.introU tok 900 Tryz.func187 (by kernel_rfl) rfl rfl ?_
 simp only [Tryz.f187, qJ, List.map_cons, List.map_nil]
 refine rgn [] [[0]] ?_
 refine op1 tok ?_
 refine qA ?_
 refine AW.seq ?_
 refine rgn [] [[]] ?_
 refine op1 tok ?_
 refine qV ?_
 refine qC.nilEq tok [0, 4] rfl rfl (by conv => lhs; simp) trivial rfl ?_
 intro bn1 hbn1
 refine qC.same (by conv => lhs; simp) ?_
 refine qC.nil ?_
 refine cnd ?_ ?_
 ·intro h4
  try simp at h4
  have hks : ks = [] := by
   by_cases h : ks = []
   ·exact h
   ·rw [hbn1 (by simpa using h)] at h4; cases h4
  subst hks
  refine rgn [] [[]] ?_
  refine op1 tok ?_
  refine qA ?_
  refine AW.beginE 2 905 9 1 (by simp) (by simp) (by conv => lhs; simp) ?_
  exact AW.ret zX
 ·intro h4
  try simp at h4
  refine AW.skip ?_
  refine rgn [] [[], [], [], [2]] ?_
  iterate 4 refine op1 tok ?_
  refine qA ?_
  exact AW.ret zX
theorem qSY (ks : List (List UInt8)) (hn : ks.length ≤ 1000000) : AR Tryz.prog G 187 [.sl 1 (ks.map PD.str)] 9 1 (ks.map PD.str) := AR.of_AX (k := 905) (by simpa using zID ks hn)
theorem zIB (vs : List Val) (hn : vs.length ≤ 1000000) : AX Tryz.prog G 188 [.p (.sl 9 (vs.map Val.enc))] [] (.ms 905) [] [(905, .row 31 9 (vs.map Val.enc))] := by
 refine AX.introU tok 900 Tryz.func188 (by kernel_rfl) rfl rfl ?_
 simp only [Tryz.f188, qJ, List.map_cons, List.map_nil]
 refine rgn [] [[0]] ?_
 refine op1 tok ?_
 refine qA ?_
 refine AW.seq ?_
 refine rgn [] [[]] ?_
 refine op1 tok ?_
 refine qV ?_
 refine qC.nilEq tok [0, 4] rfl rfl (by conv => lhs; simp) trivial rfl ?_
 intro bn1 hbn1
 refine qC.same (by conv => lhs; simp) ?_
 refine qC.nil ?_
 refine cnd ?_ ?_
 ·intro h4
  try simp at h4
  have hks : vs = [] := by
   by_cases h : vs = []
   ·exact h
   ·rw [hbn1 (by simpa using h)] at h4; cases h4
  subst hks
  refine rgn [] [[]] ?_
  refine op1 tok ?_
  refine qA ?_
  refine AW.beginE 2 905 31 9 (by simp) (by simp) (by conv => lhs; simp) ?_
  exact AW.ret zX
 ·intro h4
  try simp at h4
  refine AW.skip ?_
  refine rgn [] [[], [], [], [2]] ?_
  iterate 4 refine op1 tok ?_
  refine qA ?_
  exact AW.ret zX
theorem qSW (vs : List Val) (hn : vs.length ≤ 1000000) : AR Tryz.prog G 188 [.sl 9 (vs.map Val.enc)] 31 9 (vs.map Val.enc) := AR.of_AX (k := 905) (by simpa using zIB vs hn)
@[simp] theorem zSP (u : Val) : (qJD u).kind = u.kind := rfl
@[simp] theorem zSO (u : Val) : (qJD u).mask = 0 := rfl
@[simp] theorem zTX (u : Val) : (qJD u).num = u.num := rfl
@[simp] theorem zSN (u : Val) : (qJD u).text = u.text := rfl
@[simp] theorem zSR (u : Val) : (qJD u).keys = u.keys := rfl
@[simp] theorem zSQ (u : Val) : (qJD u).kids = u.kids := rfl
@[simp] theorem zSS (u : Val) : (qJD u).code = u.code := rfl
def jS (ch : Val → Val) (v : Val) (k : Nat) : List PD := (v.kids.take k).map (fun u => (qAT ch u).enc) ++ (v.kids.drop k).map Val.enc
theorem qOH (ch : Val → Val) (v : Val) (k : Nat) : (jS ch v k).length = v.kids.length := by
 simp only [jS, List.length_append, List.length_map, List.length_take, List.length_drop]; omega
@[simp] theorem zQE (ch : Val → Val) (v : Val) : jS ch v 0 = v.kids.map Val.enc := by simp only [jS, List.take_zero, List.map_nil, List.nil_append, List.drop_zero]
theorem qOI {ch : Val → Val} {v x : Val} {k : Nat} (hx : v.kids[k]? = some x) : (jS ch v k)[k]? = some x.enc := by
 have hk := (List.getElem?_eq_some_iff.1 hx).1
 have h0 : ((v.kids.take k).map (fun u => (qAT ch u).enc)).length = k := by simp only [List.length_map, List.length_take]; omega
 rw [jS, List.getElem?_append_right (by omega), h0, Nat.sub_self, List.getElem?_map, List.getElem?_drop, Nat.add_zero, hx]; rfl
theorem qOG {ch : Val → Val} {v x : Val} {k : Nat} (hx : v.kids[k]? = some x) : (jS ch v k).set k (qAT ch x).enc = jS ch v (k + 1) := by
 have hk := (List.getElem?_eq_some_iff.1 hx).1
 have hxk := (List.getElem?_eq_some_iff.1 hx).2
 have h0 : ((v.kids.take k).map (fun u => (qAT ch u).enc)).length = k := by simp only [List.length_map, List.length_take]; omega
 rw [jS, List.set_append_right _ _ (by omega), h0, Nat.sub_self, List.drop_eq_getElem_cons hk, jS, List.take_succ_eq_append_getElem hk, hxk]
 simp only [List.map_cons, List.set_cons_zero, List.map_append, List.map_nil, List.append_assoc, List.cons_append, List.nil_append]
theorem qYI (g : FuncId) (ch : Val → Val) (v : Val) (hg : ∀ u : Val, AX Tryz.prog G g [.ptr 2 0] [(2, .vars 31 u.cells)] (.tuple []) [2] [(2, .vars 31 (ch u).cells)]) (hsm : v.keys.length ≤ 1000000 ∧ v.kids.length ≤ 1000000) (ih : ∀ k ∈ v.kids, AFn Tryz.prog G 134 [k.enc, .fn g] (qAT ch k).enc) : AFn Tryz.prog G 134 [v.enc, .fn g] ((qAT ch v).enc) := by
 refine AFn.introU tok Tryz.func134 (by kernel_rfl) rfl rfl ?_
 simp only [Tryz.f134, qJ, List.map_cons, List.map_nil]
 have hck := qSY (G := G) v.keys (by omega)
 have hcv := qSW (G := G) v.kids (by omega)
 refine rgn [] [[], [1, 2, 4]] ?_
 iterate 2 refine op1 tok ?_
 refine qA ?_
 refine AW.seqRunDrawK tok mixed [1, 2, 4] 8 [[2], [7], [8], [2], [10], [11], [2], [13, 9]] [.nilf, .sl 1 (v.keys.map PD.str), .clo 9 [], .nilf, .sl 9 (v.kids.map Val.enc), .clo 31 []] [] (by kernel_rfl) (by intro C; conv => lhs; simp) (by first | exact hck | exact hcv | ((repeat' (first | with_reducible apply And.intro | intro _)) <;> first | exact (hck) | exact (hcv) | assumption | omega | contradiction | simp_all)) (by simp [Sm.sum, Sm.foot, Sm.tch, Sm.refs]; kernel_rfl) (by intro C; conv => lhs; simp) (by first | with_reducible exact True.intro | omega | simp | (simp +contextual; omega)) ?_
 refine AW.seq ?_
 refine rgn [] [[], [], [], [1, 2, 4, 16, 17, 18]] ?_
 iterate 4 refine op1 tok ?_
 refine qA ?_
 refine AW.block ?_
 refine AW.loop (α := Nat) (fun k => k ≤ v.kids.length) (fun k => ⟨qW 34 [(1, .p (.fn g)), (2, .ptr 2 0), (4, .ptr 4 0), (16, .ms 12), (17, .p (.int .i64 v.kids.length)), (18, .p (.int .i64 k))], [], [(2, .vars 31 [.p (.int .i64 v.kind), .p (.int .u64 v.mask), .p (.bool v.num.neg), .p (.str v.num.digits), .p (.int .i64 v.num.scale), .p (.str v.text), .ms 9, .ms 12, .p (.int .i64 v.code)]), (4, .vars 31 [.p (.int .i64 0), .p (.int .u64 0), .p (.bool false), .p (.str []), .p (.int .i64 0), .p (.str []), .nilsl, .nilsl, .p (.int .i64 0)]), (9, .row 9 1 (v.keys.map PD.str)), (12, .row 31 9 (jS ch v k))], 0⟩) (fun k => v.kids.length - k) (0) (by simp) ⟨qB (by simp), rfl, by simp, by simp⟩ ?_
 rintro k hk
 refine rgn [] [[]] ?_
 refine op1 tok ?_
 refine qA ?_
 refine AW.seq ?_
 refine cnd ?_ ?_
 ·intro h19
  try simp at h19
  obtain ⟨x, hx⟩ : ∃ x, v.kids[k]? = some x := ⟨v.kids[k], by simp [h19]⟩
  have hx' := qOI (ch := ch) hx
  have hkl := qOH ch v k
  have hix := ih x (List.mem_of_getElem? hx)
  have hset := qOG (ch := ch) hx
  simp only [Val.enc_def] at hx' hix hset
  refine AW.skip ?_
  refine AW.seq ?_
  refine AW.block ?_
  refine rgn [x.enc] [[], [], [], [], [], [1, 2, 4, 5, 6, 16, 17, 18]] ?_
  iterate 6 refine op1 tok ?_ (hv := by first | with_reducible exact True.intro | (simpa using hx'; done) | omega | simp | (simp +contextual; omega))
  refine qA ?_
  refine AW.runDrawK tok mixed [1, 2, 4, 16, 17, 18] 6 [[2], [23], [5], [6], [1], [26, 27]] [.nilp, (qAT ch x).enc] [x.enc, (qAT ch x).enc] (by kernel_rfl) (by intro C; conv => lhs; simp) (by first | exact hix | ((repeat' (first | with_reducible apply And.intro | intro _)) <;> first | exact (hix) | exact (hx') | assumption | omega | contradiction | simp_all)) (by simp [Sm.sum, Sm.foot, Sm.tch, Sm.refs]; kernel_rfl) (by intro C; conv => lhs; simp) (by exact ⟨by omega, hx'⟩) ?_
  refine rgz [] [[], [1, 2, 4, 16, 17, 18]] ?_
  iterate 2 refine op1 tok ?_
  refine qA ?_
  exact ⟨k + 1, (by omega), (by omega), qB (by simp [hset]), rfl, by simp [hset], by simp [hset]⟩
 ·intro h19
  try simp at h19
  obtain rfl : k = v.kids.length := by omega
  have hfull : jS ch v v.kids.length = (v.kids.map (qAT ch)).map Val.enc := by simp only [jS, List.take_length, List.drop_length, List.map_nil, List.append_nil, List.map_map]; rfl
  rw [hfull]
  refine AW.exit ?_
  simp
  refine rgn [] [[]] ?_
  refine op1 tok ?_
  refine qV ?_
  refine qC.freeze 9 (by conv => lhs; simp) ?_
  refine qC.freeze 12 (by conv => lhs; simp) ?_
  refine qC.stepK [2, 4] (yI rfl (hg (.mk v.kind v.mask v.num v.text v.keys (v.kids.map (qAT ch)) v.code)) (by simp)) (by conv => lhs; simp) rfl ?_
  refine qC.nil ?_
  refine rgn [] [[], [4]] ?_
  iterate 2 refine op1 tok ?_
  refine qA ?_
  exact AW.ret (qI (k := by simp [qUS ch v]))
inductive Few : Val → Prop
 | mk {v : Val} (h1 : v.keys.length ≤ 1000000) (h2 : v.kids.length ≤ 1000000) (h3 : ∀ k ∈ v.kids, Few k) : Few v
theorem qLZ (v : Val) (h : qT v = true) : Few v :=
 Val.induct (p := fun v => qT v = true → Few v) (fun v ih hv => by
  have hsm := kG hv
  exact .mk (by omega) (by omega) fun k hk => ih k hk (zU hv hk)) v h
theorem qNZ (g : FuncId) (ch : Val → Val) (hg : ∀ u : Val, AX Tryz.prog G g [.ptr 2 0] [(2, .vars 31 u.cells)] (.tuple []) [2] [(2, .vars 31 (ch u).cells)]) (v : Val) (hv : Few v) : AFn Tryz.prog G 134 [v.enc, .fn g] (qAT ch v).enc := by
 induction hv with
 | mk h1 h2 h3 ih => exact qYI g ch _ hg ⟨h1, h2⟩ ih
theorem zHB (g : FuncId) (ch : Val → Val) (hg : ∀ u : Val, AX Tryz.prog G g [.ptr 2 0] [(2, .vars 31 u.cells)] (.tuple []) [2] [(2, .vars 31 (ch u).cells)]) (v : Val) (hv : qT v = true) : AFn Tryz.prog G 134 [v.enc, .fn g] (qAT ch v).enc :=
 qNZ g ch hg v (qLZ v hv)
theorem qTA (u : Val) : AX Tryz.prog G 135 [.ptr 2 0] [(2, .vars 31 u.cells)] (.tuple []) [2] [(2, .vars 31 (id u).cells)] := by
 refine AX.introU tok 900 Tryz.func135 (by kernel_rfl) rfl rfl ?_
 simp only [Tryz.f135, qJ, List.map_cons, List.map_nil]
 refine AW.skip ?_
 exact zEN
theorem qSZ (v : Val) (hv : Few v) : AFn Tryz.prog G 78 [v.enc] (v.enc) := by
 refine AFn.introU tok Tryz.func78 (by kernel_rfl) rfl rfl ?_
 simp only [Tryz.f78, qJ, List.map_cons, List.map_nil]
 have hm := qNZ (G := G) 135 id qTA v hv
 rw [qUR] at hm
 simp only [Val.enc_def] at hm
 refine rgn [] [[], [1, 2]] ?_
 iterate 2 refine op1 tok ?_
 refine qA ?_
 refine rgn [.nilp, v.enc] [[], [], [2]] ?_
 iterate 3 refine op1 tok ?_ (hv := by first | with_reducible exact True.intro | (exact hm; done) | omega | simp | (simp +contextual; omega))
 refine qA ?_
 exact AW.ret qI
theorem qZT (v : Val) (hv : qT v = true) : AFn Tryz.prog G 78 [v.enc] v.enc := qSZ v (qLZ v hv)
theorem zHU (v : Val) (ih : ∀ k ∈ v.kids, AFn Tryz.prog G 31 [k.enc] (.int .u64 (qZ k))) : AFn Tryz.prog G 31 [v.enc] (.int .u64 (qZ v)) := by
 refine AFn.introU tok Tryz.func31 (by kernel_rfl) rfl rfl ?_
 simp only [Tryz.f31, qJ, List.map_cons, List.map_nil]
 refine rgn [] [[], [1]] ?_
 iterate 2 refine op1 tok ?_
 refine qA ?_
 refine rgn [] [[], [], [1, 3]] ?_
 iterate 3 refine op1 tok ?_
 refine qA ?_
 refine AW.seq ?_
 refine rgn [] [[], [], [], [3, 9, 10, 11]] ?_
 iterate 4 refine op1 tok ?_
 refine qA ?_
 refine AW.block ?_
 refine AW.intFactU (i := 10) rfl (by decide) ?_; intro hlen; simp at hlen
 refine AW.loop (α := Nat) (fun k => k ≤ v.kids.length) (fun k => ⟨qW 21 [(3, .p (.int .u64 (qAZ v.mask (v.kids.take k)))), (9, .p (.sl 9 (v.kids.map Val.enc))), (10, .p (.int .i64 v.kids.length)), (11, .p (.int .i64 k))], [], [], 0⟩) (fun k => v.kids.length - k) (0) (by omega) ⟨qB (by simp), rfl, by simp, by simp⟩ ?_
 rintro k hk
 refine rgn [] [[]] ?_
 refine op1 tok ?_
 refine qA ?_
 refine AW.seq ?_
 refine cnd ?_ ?_
 ·intro h12
  try simp at h12
  obtain ⟨x, hx⟩ : ∃ x, v.kids[k]? = some x := ⟨v.kids[k], by simp [h12]⟩
  have hix := ih x (List.mem_of_getElem? hx)
  simp only [Val.enc_def] at hix
  refine AW.skip ?_
  refine AW.seq ?_
  refine AW.block ?_
  refine rgn [x.enc] [[], [], [], [3, 5, 9, 10, 11]] ?_
  iterate 4 refine op1 tok ?_ (hv := by first | with_reducible exact True.intro | (simp [hx]; done) | omega | simp | (simp +contextual; omega))
  refine qA ?_
  refine rgz [.nilp, .int .u64 (qZ x)] [[], [], [], [9, 10, 11, 18], [3, 9, 10, 11]] ?_
  iterate 5 refine op1 tok ?_ (h := by intro C; conv => lhs; simp [wL]) (hv := by first | with_reducible exact True.intro | (exact hix; done) | omega | simp | (simp +contextual; omega))
  refine qA ?_
  refine rgz [] [[], [3, 9, 10, 11]] ?_
  iterate 2 refine op1 tok ?_
  refine qA ?_
  exact ⟨k + 1, by omega, by omega, qB (by simp [uA hx]), rfl, by simp [uA hx], by simp [uA hx]⟩
 ·intro h12
  try simp at h12
  rw [List.take_of_length_le h12]
  refine AW.exit ?_
  simp
  refine rgn [] [[], [2]] ?_
  iterate 2 refine op1 tok ?_
  refine qA ?_
  exact AW.ret (qI (k := by simp [qOV v]))
theorem yD (v : Val) : AFn Tryz.prog G 31 [v.enc] (.int .u64 (qZ v)) := Val.induct (fun v ih => zHU v ih) v
theorem zDG (v : Val) (m : Int) (hv : qT v = true) : AFn Tryz.prog G 76 [v.enc, .int .u64 m] ((qAL v m).enc) := by
 refine AFn.introU tok Tryz.func76 (by kernel_rfl) rfl rfl ?_
 simp only [Tryz.f76, qJ, List.map_cons, List.map_nil]
 have hm := qZT (G := G) v hv
 simp only [Val.enc_def] at hm
 refine rgn [] [[], [1, 2, 4]] ?_
 iterate 2 refine op1 tok ?_
 refine qA ?_
 refine rgn [.nilp, v.enc] [[], [], [1, 2, 4]] ?_
 iterate 3 refine op1 tok ?_ (hv := by first | with_reducible exact True.intro | (exact hm; done) | omega | simp | (simp +contextual; omega))
 refine qA ?_
 refine rgn [] [[], [], [], [2, 4, 10], [], [2, 4]] ?_
 iterate 6 refine op1 tok ?_ (h := by intro C; conv => lhs; simp [wL])
 refine qA ?_
 refine rgn [] [[], [4]] ?_
 iterate 2 refine op1 tok ?_
 refine qA ?_
 exact AW.ret qI
open Go
open Go.Lib
def qQA (n : Nat) : UInt8 := if n < 10 then UInt8.ofNat (48 + n) else UInt8.ofNat (87 + n)
def qb (b : UInt8) : List UInt8 :=
 if b = 34 ∨ b = 92 then [92, b] else if b = 10 then [92, 110] else if b = 13 then [92, 114] else if b = 9 then [92, 116]
 else if b < 32 ∨ b = 127 then [92, 117, 48, 48, qQA (b.toNat / 16), qQA (b.toNat % 16)] else [b]
def uK (s : List UInt8) : List UInt8 := s.flatMap qb
def kP (s : List UInt8) : List UInt8 := 34 :: (uK s ++ [34])
def zXY (c : UInt8) : Option Nat := if 48 ≤ c ∧ c ≤ 57 then some (c.toNat - 48) else if 97 ≤ c ∧ c ≤ 102 then some (c.toNat - 87) else if 65 ≤ c ∧ c ≤ 70 then some (c.toNat - 55) else none
def zWM : List UInt8 → Nat → Option Nat
 | [], x => some x
 | c :: l, x => match zXY c with
  | none => none
  | some k => zWM l (16 * x + k)
def qQR (s : List UInt8) : Option Nat := if s.length < 6 ∨ s.take 2 ≠ [92, 117] then none else zWM ((s.drop 2).take 4) 0
def zWQ (c : UInt8) : Option Nat := if c = 34 then some 34 else if c = 92 then some 92 else if c = 47 then some 47 else if c = 98 then some 8 else if c = 102 then some 12 else if c = 110 then some 10 else if c = 114 then some 13 else if c = 116 then some 9 else none
def zWP (u w : Option Nat) : Nat × Nat × Bool :=
 if u.isSome = false ∨ u.getD 0 / 1024 ≠ 54 then (u.getD 0, 6, u.isSome && decide (u.getD 0 / 1024 ≠ 55)) else (65536 + u.getD 0 % 1024 * 1024 + w.getD 0 % 1024, 12, w.isSome && decide (w.getD 0 / 1024 = 55))
def qYZ (s : List UInt8) : Nat × Nat × Bool := match s with
 | _ :: c :: _ => match zWQ c with
  | some v => (v, 2, true)
  | none => zWP (qQR s) (qQR (s.drop 6))
 | _ => (0, 0, false)
def zLV (s : List UInt8) : Option (Nat × Nat) := if (qYZ s).2.2 = true then some ((qYZ s).1, (qYZ s).2.1) else none
def vM : Nat → List UInt8 → Nat → List UInt8 → List UInt8 × Nat × Int
 | 0, _, _, _ => ([], 0, 6)
 | f + 1, s, at', out => if s = [] then ([], 0, 6)
  else if (decodeL s).1 = 34 then (if 4096 < out.length then ([], 0, 3) else (out, at' + 1, 0))
  else if (decodeL s).1 < 32 ∨ ((decodeL s).1 = 65533 ∧ (decodeL s).2 = 1) then ([], 0, 6)
  else if (decodeL s).1 = 92 then (match zLV s with
   | none => ([], 0, 6)
   | some (c, n) => vM f (s.drop n) (at' + n) (out ++ encodeRune c))
  else vM f (s.drop (decodeL s).2) (at' + (decodeL s).2) (out ++ encodeRune (decodeL s).1)
def zJ (s : List UInt8) : List UInt8 × Nat × Int := if s.head? = some 34 then vM s.length (s.drop 1) 1 [] else ([], 0, 6)
theorem qOW {b : UInt8} {t : List UInt8} (h : b.toNat < 128) : decodeL (b :: t) = (b.toNat, 1) := by
 unfold decodeL
 rw [decode_at]
 have e : (⟨(b :: t).toArray⟩ : ByteArray).get! 0 = b := rfl
 rw [e]
 unfold decodeN
 rw [if_pos h]
theorem zKO {b : UInt8} (h : b.toNat < 128) : encodeRune (b.toNat : Int) = [b] := by
 simp only [encodeRune, encodeRuneZ_one (r := (b.toNat : Int)) (by omega) (by omega), List.map_cons, List.map_nil]
 congr 1
 simp
theorem qZJ (l : List UInt8) : decodeL l = decodeN l.length (l.getD 0 0).toNat (l.getD 1 0).toNat (l.getD 2 0).toNat (l.getD 3 0).toNat := by
 unfold decodeL
 rw [decode_at]
 have e : ∀ k, (⟨l.toArray⟩ : ByteArray).get! k = l.getD k 0 := by
  intro k
  show l.toArray[k]! = _
  simp [List.getD_eq_getElem?_getD]
  rfl
 simp only [e]
 rfl
theorem zII (l : List UInt8) (hne : l ≠ []) (hv : ¬ ((decodeL l).1 = 65533 ∧ (decodeL l).2 = 1)) (hb : 128 ≤ (l.getD 0 0).toNat) : (∀ b ∈ l.take (decodeL l).2, 128 ≤ b.toNat) ∧ 128 ≤ (decodeL l).1 := by
 have hr := qZJ l
 have hle := decodeL_le l hne
 have hlen : 0 < l.length := by cases l with
  | nil => exact absurd rfl hne
  | cons a l => simp
 unfold decodeN at hr
 rw [if_neg (by omega)] at hr
 split at hr
 ·rename_i c
  split at hr
  ·rw [hr] at hv hle ⊢
   simp only at hle ⊢
   rw [takeB l (by omega)]
   refine ⟨fun b hb' => ?_, by omega⟩
   simp at hb'
   rcases hb' with h | h <;> (subst h; simp at hb c; omega)
  ·rw [hr] at hv; exact absurd ⟨rfl, rfl⟩ hv
 ·split at hr
  ·rename_i c
   split at hr
   ·rw [hr] at hv hle ⊢
    simp only at hle ⊢
    rw [takeC l (by omega)]
    refine ⟨fun b hb' => ?_, by omega⟩
    simp at hb'
    rcases hb' with h | h | h <;> (subst h; simp at hb c; omega)
   ·rw [hr] at hv; exact absurd ⟨rfl, rfl⟩ hv
  ·split at hr
   ·rename_i c
    split at hr
    ·rw [hr] at hv hle ⊢
     simp only at hle ⊢
     rw [takeD l (by omega)]
     refine ⟨fun b hb' => ?_, by omega⟩
     simp at hb'
     rcases hb' with h | h | h | h <;> (subst h; simp at hb c; omega)
    ·rw [hr] at hv; exact absurd ⟨rfl, rfl⟩ hv
   ·rw [hr] at hv; exact absurd ⟨rfl, rfl⟩ hv
theorem qUF (a b : List UInt8) : uK (a ++ b) = uK a ++ uK b := by simp [uK]
def qCL (d : Dc) : List UInt8 := zA (d.scale.toNat + 1 - d.digits.length) ++ d.digits
def qEB (d : Dc) : List UInt8 := (if d.neg = true then [45] else []) ++ (if d.scale = 0 then qCL d else (qCL d).take ((qCL d).length - d.scale.toNat) ++ 46 :: (qCL d).drop ((qCL d).length - d.scale.toNat))
def jO (t : List UInt8) : List UInt8 := if t.head? = some 45 ∨ t.head? = some 43 then t.drop 1 else t
def qIU (s : List UInt8) : Option Int := match s with
 | [] => some 0
 | b :: t => if b ≠ 101 ∧ b ≠ 69 then none
  else if (jO t).dropWhile qG ≠ [] ∨ ((jO t).takeWhile qG).length < 1 ∨ 2 < ((jO t).takeWhile qG).length then none
  else some (if t.head? = some 45 then - (qGE ((jO t).takeWhile qG) : Int) else qGE ((jO t).takeWhile qG))
def qUM (s : List UInt8) : Bool := decide (s.head? = some 45)
def uZ (s : List UInt8) : List UInt8 := if s.head? = some 45 then s.drop 1 else s
def qIS (r : List UInt8) : Option (List UInt8 × List UInt8) :=
 if r.head? = some 46 then (if (r.drop 1).takeWhile qG = [] then none else some ((r.drop 1).takeWhile qG, (r.drop 1).dropWhile qG)) else some ([], r)
def qZB (neg : Bool) (W P : List UInt8) : Option Int → Dc × Int
 | none => xB
 | some up => if W = [] ∨ (1 < W.length ∧ W.head? = some 48) then xB else vE neg (W ++ P) (P.length - up)
def wG (s : List UInt8) : Dc × Int := match qIS ((uZ s).dropWhile qG) with
 | none => xB
 | some (P, r) => qZB (qUM s) ((uZ s).takeWhile qG) P (qIU r)
theorem zJD {W F : List UInt8} (hW : W.all qG = true) (hF : ∀ b, F.head? = some b → qG b = false) : (W ++ F).takeWhile qG = W ∧ (W ++ F).dropWhile qG = F := by
 induction W with
 | nil =>
  cases F with
  | nil => exact ⟨rfl, rfl⟩
  | cons b F => have := hF b rfl; simp [List.takeWhile_cons, List.dropWhile_cons, this]
 | cons b W ih =>
  simp only [List.all_cons, Bool.and_eq_true] at hW
  obtain ⟨h1, h2⟩ := ih hW.2
  simp [List.takeWhile_cons, List.dropWhile_cons, hW.1, h1, h2]
theorem qXS (ng : Bool) (W R : List UInt8) (hW : W.all qG = true) (hR : R.all qG = true) (h0 : W ≠ []) (h1 : W.length = 1 ∨ qS W 0 ≠ 48) :
  wG ((if ng = true then [45] else []) ++ (W ++ if R = [] then [] else 46 :: R)) = yK ng (W ++ R) R.length := by
 generalize hF : (if R = [] then [] else 46 :: R) = F
 generalize hs : ((if ng = true then [45] else []) ++ (W ++ F)) = s
 obtain ⟨w0, W', rfl⟩ : ∃ w0 W', W = w0 :: W' := by cases W with
  | nil => exact absurd rfl h0
  | cons a W => exact ⟨a, W, rfl⟩
 have hw0 : qG w0 = true := by simp only [List.all_cons, Bool.and_eq_true] at hW; exact hW.1
 have hw1 : w0 ≠ 45 := by rintro rfl; revert hw0; decide
 have hb : uZ s = (w0 :: W') ++ F ∧ qUM s = ng := by
  rw [← hs]
  cases ng with
  | true => simp [uZ, qUM]
  | false => simp [uZ, qUM, hw1]
 have hFh : ∀ b, F.head? = some b → qG b = false := by
  rw [← hF]; split
  ·simp
  ·intro b hb; simp at hb; subst hb; decide
 obtain ⟨t1, t2⟩ := zJD hW hFh
 have hfr : qIS F = some (R, []) := by
  rw [← hF]
  split
  ·rename_i hR0; subst hR0; rfl
  ·rename_i hR0
   obtain ⟨t3, t4⟩ := zJD (W := R) (F := []) hR (by simp)
   rw [List.append_nil] at t3 t4
   unfold qIS
   simp only [List.head?_cons, if_true, List.drop_succ_cons, List.drop_zero, t3, t4]
   rw [if_neg hR0]
 unfold wG
 rw [hb.1, hb.2, t1, t2, hfr]
 simp only [qIU, qZB]
 rw [if_neg (by
  rintro (h | ⟨h, h'⟩)
  ·cases h
  ·rcases h1 with h1 | h1
   ·omega
   ·simp at h'; subst h'; exact h1 rfl)]
 unfold vE
 rw [if_neg (by omega)]
 simp
structure RS where
 left : List UInt8
 nodes : Nat
 bad : Bool
 deep : Bool
 big : Bool
 deriving DecidableEq
def wE (st : RS) (k : Nat) : RS := { st with left := st.left.drop k }
def qOK (b : UInt8) : Bool := b == 32 || b == 9 || b == 13 || b == 10
def kB (s : List UInt8) : List UInt8 := s.dropWhile qOK
def yS (b : UInt8) : Bool := qG b || b == 45 || b == 43 || b == 46 || b == 101 || b == 69
def tk (w : List UInt8) (st : RS) : Bool × RS :=
 if w.isPrefixOf (kB st.left) then (true, { st with left := (kB st.left).drop w.length }) else (false, { st with left := kB st.left })
def xY : List UInt8 → Nat
 | [] => 0
 | b :: t => if b = 34 then 1 else if b = 92 then (match t with
  | [] => 1
  | _ :: u => 2 + xY u) else 1 + xY t
def qEN (s : List UInt8) : Nat := if s = [] then 0 else 1 + xY (s.drop 1)
def qBL (l : List UInt8) (st : RS) (u : List UInt8 × Nat × Int) : RS × List UInt8 :=
 if u.2.2 = 0 then ({ st with left := l.drop u.2.1 }, u.1) else if u.2.2 = 3 then ({ st with left := l.drop (qEN l), big := true }, u.1) else ({ st with left := l.drop u.2.1, bad := true }, u.1)
def qU (st : RS) : RS × List UInt8 := qBL (kB st.left) st (zJ (kB st.left))
def kV (st : RS) : RS × Val :=
 ({ st with left := st.left.dropWhile yS, big := st.big || decide ((wG (st.left.takeWhile yS)).2 = 3), bad := st.bad || decide ((wG (st.left.takeWhile yS)).2 = 4) }, .mk 4 0 (wG (st.left.takeWhile yS)).1 [] [] [] 0)
def uH (c : UInt8) (many : Nat) (st : RS) : Bool × RS :=
 let st1 : RS := { st with big := st.big || decide (200 < many) }
 if st1.bad = true then (true, st1) else
 let a := tk [c] st1
 if a.1 = true then (true, a.2) else let b := tk [44] a.2
  (false, { b.2 with bad := !b.1 })
def jY (ks : List (List UInt8)) (vs : List Val) (key : List UInt8) (v : Val) : List (List UInt8) × List Val := if key ∈ ks then (ks, vs.set (ks.idxOf key) v) else (ks ++ [key], vs ++ [v])
def yA (st : RS) : RS := if st.bad = true then st else { (tk [58] st).2 with bad := !(tk [58] st).1 }
def qAN : List UInt8 := [110, 117, 108, 108]
def qAM : List UInt8 := [116, 114, 117, 101]
def xF : List UInt8 := [102, 97, 108, 115, 101]
def zT (st : RS) (d : Nat) : RS := ⟨kB st.left, st.nodes + 1, st.bad, st.deep || decide (12 < d), st.big || decide (400 < st.nodes + 1)⟩
def xU (st : RS) : RS × Val :=
 if qAN.isPrefixOf st.left then (wE st 4, .mk 1 0 dc0 [] [] [] 0)
 else if qAM.isPrefixOf st.left then (wE st 4, .mk 3 0 dc0 [] [] [] 0)
 else if xF.isPrefixOf st.left then (wE st 5, .mk 2 0 dc0 [] [] [] 0)
 else if ([34] : List UInt8).isPrefixOf st.left then ((qU st).1, .mk 5 0 dc0 (qU st).2 [] [] 0)
 else if st.left ≠ [] ∧ (qS st.left 0 = 45 ∨ kU (qS st.left 0) = true) then kV st
 else ({ st with bad := true }, wW)
mutual
def kA : Nat → RS → Nat → RS × Val
 | 0, st, _ => ({ st with bad := true }, wW)
 | n + 1, st, d =>
  if ([91] : List UInt8).isPrefixOf (zT st d).left then
   (let a := tk [93] (wE (zT st d) 1)
    let r := if a.1 = true then (a.2, []) else qBG n a.2 (d + 1) 1 []
    (r.1, .mk 6 0 dc0 [] [] r.2 0))
  else if ([123] : List UInt8).isPrefixOf (zT st d).left then
   (let a := tk [125] (wE (zT st d) 1)
    let r := if a.1 = true then (a.2, [], []) else qBF n a.2 (d + 1) 1 [] []
    (r.1, .mk 7 0 dc0 [] r.2.1 r.2.2 0))
  else xU (zT st d)
def qBG : Nat → RS → Nat → Nat → List Val → RS × List Val
 | 0, st, _, _, vs => ({ st with bad := true }, vs)
 | n + 1, st, d, many, vs =>
  if st.bad = true then (st, vs) else
  let a := kA n st d
  let b := uH 93 many a.1
  if b.1 = true then (b.2, vs ++ [a.2]) else qBG n b.2 d (many + 1) (vs ++ [a.2])
def qBF : Nat → RS → Nat → Nat → List (List UInt8) → List Val → RS × List (List UInt8) × List Val
 | 0, st, _, _, ks, vs => ({ st with bad := true }, ks, vs)
 | n + 1, st, d, many, ks, vs =>
  if st.bad = true then (st, ks, vs) else
  let q := qU st
  let c := yA q.1
  let a := if c.bad = true then (c, ks, vs) else let v := kA n c d
   (v.1, jY ks vs q.2 v.2)
  let b := uH 125 many a.1
  if b.1 = true then (b.2, a.2) else qBF n b.2 d (many + 1) a.2.1 a.2.2
end
theorem qHQ (s : List UInt8) : (kB s).length ≤ s.length := (List.dropWhile_sublist _).length_le
theorem qKS (w : List UInt8) (st : RS) : (tk w st).2.left.length ≤ st.left.length ∧ ((tk w st).1 = true → (tk w st).2.left.length + w.length ≤ st.left.length) := by
 have h := qHQ st.left
 unfold tk
 split
 ·rename_i hp
  have := (List.isPrefixOf_iff_prefix.1 hp).length_le
  simp only [List.length_drop]
  exact ⟨by omega, fun _ => by omega⟩
 ·exact ⟨h, fun h => by cases h⟩
@[simp] theorem zJH (w : List UInt8) (st : RS) : (tk w st).2.bad = st.bad := by unfold tk; split <;> rfl
@[simp] theorem qWR (w : List UInt8) (st : RS) : (tk w st).2.nodes = st.nodes := by unfold tk; split <;> rfl
@[simp] theorem zWW (w : List UInt8) (st : RS) : (tk w st).2.deep = st.deep := by unfold tk; split <;> rfl
@[simp] theorem zJG (w : List UInt8) (st : RS) : (tk w st).2.big = st.big := by unfold tk; split <;> rfl
theorem qJS (st : RS) : (qU st).1.left.length ≤ st.left.length := by
 have h := qHQ st.left
 unfold qU qBL
 split
 ·simp only [List.length_drop]; omega
 ·split <;> (simp only [List.length_drop]; omega)
theorem qTY (c : UInt8) (many : Nat) (st : RS) : (uH c many st).2.left.length ≤ st.left.length := by
 unfold uH
 simp only
 split
 ·exact Nat.le_refl _
 ·split
  ·exact (qKS _ _).1
  ·exact Nat.le_trans (qKS _ _).1 (qKS _ _).1
theorem qZN (st : RS) : (yA st).left.length ≤ st.left.length := by
 unfold yA; split
 ·exact Nat.le_refl _
 ·exact (qKS _ _).1
theorem qZA (st : RS) (d : Nat) : (zT st d).left.length ≤ st.left.length := qHQ _
theorem qVA (p : UInt8 → Bool) (l : List UInt8) : (l.dropWhile p).length ≤ l.length := (List.dropWhile_sublist _).length_le
theorem qML : ∀ (f : Nat) (s : List UInt8) (k : Nat) (out : List UInt8), (vM f s k out).2.2 = 0 → k + 1 ≤ (vM f s k out).2.1
 | 0, s, k, out, h => by simp [vM] at h
 | f + 1, s, k, out, h => by
  simp only [vM] at h ⊢
  split at h
  ·simp at h
  ·rename_i h1
   rw [if_neg h1]
   split at h
   ·rename_i h2
    rw [if_pos h2]
    split at h
    ·simp at h
    ·rename_i h3; rw [if_neg h3]; exact Nat.le_refl _
   ·rename_i h2
    rw [if_neg h2]
    split at h
    ·simp at h
    ·rename_i h3
     rw [if_neg h3]
     split at h
     ·rename_i h4
      rw [if_pos h4]
      cases he : zLV s with
      | none => rw [he] at h; simp at h
      | some cn =>
       obtain ⟨c, n⟩ := cn
       rw [he] at h
       simp only at h ⊢
       have := qML f _ _ _ h
       omega
     ·rename_i h4
      rw [if_neg h4]
      have := qML f _ _ _ h
      omega
theorem zGH {st : RS} (h : ([34] : List UInt8).isPrefixOf (kB st.left) = true) : (qU st).1.bad = false → (qU st).1.left.length < st.left.length := by
 have h1 := qHQ st.left
 obtain ⟨t, ht⟩ := List.isPrefixOf_iff_prefix.1 h
 unfold qU qBL
 generalize kB st.left = l at *
 subst ht
 have hu : zJ ([34] ++ t) = vM (t.length + 1) t 1 [] := by
  unfold zJ
  simp
 rw [hu]
 split
 ·rename_i h0
  intro _
  have := qML _ _ _ _ h0
  simp only [List.length_drop]
  simp at h1 ⊢; omega
 ·split
  ·intro _
   simp only [List.length_drop, qEN]
   simp at h1 ⊢; omega
  ·intro hb; simp at hb
theorem zGP : (wG []).2 = 4 := by decide +kernel
theorem zGR {st : RS} (h : (kV st).1.bad = false) : (kV st).1.left.length < st.left.length := by
 unfold kV at h ⊢
 simp only [Bool.or_eq_false_iff, decide_eq_false_iff_not] at h
 have hs := List.takeWhile_append_dropWhile (p := yS) (l := st.left)
 generalize hA : st.left.takeWhile yS = A at *
 simp only
 have hl := congrArg List.length hs
 rw [List.length_append] at hl
 have : A ≠ [] := by rintro rfl; exact h.2 zGP
 have := List.length_pos_iff.2 this
 omega
theorem qAP (s : List UInt8) : kB (kB s) = kB s := by
 unfold kB
 induction s with
 | nil => rfl
 | cons b s ih =>
  rw [List.dropWhile_cons]
  split
  ·exact ih
  ·rename_i h; rw [List.dropWhile_cons, if_neg h]
theorem wT {w l : List UInt8} (h : w.isPrefixOf l = true) : w.length ≤ l.length := (List.isPrefixOf_iff_prefix.1 h).length_le
theorem zFA (st : RS) (ht : kB st.left = st.left) : (xU st).1.left.length ≤ st.left.length ∧ ((xU st).1.bad = false → (xU st).1.left.length < st.left.length) := by
 unfold xU
 split
 ·rename_i h; have := wT h; simp [qAN, wE] at this ⊢; omega
 ·split
  ·rename_i h; have := wT h; simp [qAM, wE] at this ⊢; omega
  ·split
   ·rename_i h; have := wT h; simp [xF, wE] at this ⊢; omega
   ·split
    ·rename_i h; exact ⟨qJS st, zGH (by rw [ht]; exact h)⟩
    ·split
     ·exact ⟨qVA _ _, zGR⟩
     ·exact ⟨Nat.le_refl _, fun h => by simp at h⟩
theorem zWK : ∀ n : Nat, (∀ st d, (kA n st d).1.left.length ≤ st.left.length ∧ ((kA n st d).1.bad = false → (kA n st d).1.left.length < st.left.length)) ∧
  (∀ st d many vs, (qBG n st d many vs).1.left.length ≤ st.left.length) ∧ (∀ st d many ks vs, (qBF n st d many ks vs).1.left.length ≤ st.left.length)
 | 0 => ⟨fun st d => ⟨by simp [kA], fun h => by simp [kA] at h⟩, fun st d many vs => by simp [qBG], fun st d many ks vs => by simp [qBF]⟩
 | n + 1 => by
  obtain ⟨ih1, ih2, ih3⟩ := zWK n
  refine ⟨fun st d => ?_, fun st d many vs => ?_, fun st d many ks vs => ?_⟩
  ·have he := qZA st d
   have ht : kB (zT st d).left = (zT st d).left := qAP _
   simp only [kA]
   split
   ·rename_i h
    have h1 := wT h
    have h2 := qKS [93] (wE (zT st d) 1)
    simp only [wE, List.length_drop, List.length_cons, List.length_nil] at h1 h2
    split
    ·simp only [wE]; exact ⟨by omega, fun _ => by omega⟩
    ·have h3 := ih2 (tk [93] (wE (zT st d) 1)).2 (d + 1) 1 []
     simp only [wE] at h3 ⊢
     exact ⟨by omega, fun _ => by omega⟩
   ·split
    ·rename_i h
     have h1 := wT h
     have h2 := qKS [125] (wE (zT st d) 1)
     simp only [wE, List.length_drop, List.length_cons, List.length_nil] at h1 h2
     split
     ·simp only [wE]; exact ⟨by omega, fun _ => by omega⟩
     ·have h3 := ih3 (tk [125] (wE (zT st d) 1)).2 (d + 1) 1 [] []
      simp only [wE] at h3 ⊢
      exact ⟨by omega, fun _ => by omega⟩
    ·have h1 := zFA (zT st d) ht
     exact ⟨by omega, fun hb => by have := h1.2 hb; omega⟩
  ·simp only [qBG]
   split
   ·exact Nat.le_refl _
   ·have h1 := (ih1 st d).1
    have h2 := qTY 93 many (kA n st d).1
    split
    ·simp only; omega
    ·have := ih2 (uH 93 many (kA n st d).1).2 d (many + 1) (vs ++ [(kA n st d).2]); omega
  ·simp only [qBF]
   split
   ·exact Nat.le_refl _
   ·have h1 := qJS st
    have h2 := qZN (qU st).1
    have h3 := (ih1 (yA (qU st).1) d).1
    generalize hA : (if (yA (qU st).1).bad = true then (yA (qU st).1, ks, vs) else ((kA n (yA (qU st).1) d).1, jY ks vs (qU st).2 (kA n (yA (qU st).1) d).2)) = A
    have h4 : A.1.left.length ≤ st.left.length := by
     rw [← hA]; split
     ·simp only; omega
     ·simp only; omega
    have h5 := qTY 125 many A.1
    split
    ·simp only; omega
    ·have := ih3 (uH 125 many A.1).2 d (many + 1) A.2.1 A.2.2; omega
@[simp] def prC (a b : Val) (top deep : Int) : List PD := [.int .i64 a.kind, .int .u64 a.mask, .bool a.num.neg, .str a.num.digits, .int .i64 a.num.scale, .str a.text, .sl 1 (a.keys.map PD.str), .sl 9 (a.kids.map Val.enc), .int .i64 a.code,
 .int .i64 b.kind, .int .u64 b.mask, .bool b.num.neg, .str b.num.digits, .int .i64 b.num.scale, .str b.text, .sl 1 (b.keys.map PD.str), .sl 9 (b.kids.map Val.enc), .int .i64 b.code, .int .u64 top, .int .u64 deep]
def yR (code m : Int) : Val := .mk 8 m dc0 [] [] [] code
def qAO (b : Bool) (m : Int) : Val := .mk (if b = true then 3 else 2) m dc0 [] [] [] 0
def yF (b : Val) : Nat → List (List UInt8) → List Val → List (List UInt8) × List Val
 | 0, ks, vs => (ks, vs)
 | k + 1, ks, vs => jY (yF b k ks vs).1 (yF b k ks vs).2 (b.keys.getD k []) (b.kids.getD k wW)
def jR (a b : Val) (m : Int) : Val := .mk a.kind m a.num a.text (yF b b.keys.length a.keys a.kids).1 (yF b b.keys.length a.keys a.kids).2 a.code
def qFB (a b : Val) (m : Int) : Val := .mk a.kind m a.num a.text a.keys (a.kids.filter fun v => !(b.kids.any fun w => decide (jJ v w = 0))) a.code
def qXF (op : List UInt8) (c : Int) : Bool :=
 (decide (c = 0) && (decide (op = [61, 61]) || decide (op = [60, 61]) || decide (op = [62, 61]))) || ((!decide (c = 0)) && decide (op = [33, 61])) || (decide (c < 0) && (decide (op = [60]) || decide (op = [60, 61]))) || (decide (0 < c) && (decide (op = [62]) || decide (op = [62, 61])))
def zWL (op : List UInt8) : Prop := op ≠ [43] ∧ op ≠ [45] ∧ op ≠ [42] ∧ op ≠ [47] ∧ op ≠ [37] ∧ op ≠ [97, 110, 100] ∧ op ≠ [111, 114]
theorem qNW (b : Val) (k : Nat) {ks : List (List UInt8)} {vs : List Val} (h : ks.length = vs.length) : (yF b k ks vs).1.length = (yF b k ks vs).2.length ∧ (yF b k ks vs).2.length ≤ vs.length + k := by
 induction k with
 | zero => exact ⟨h, by simp [yF]⟩
 | succ k ih =>
  simp only [yF]
  unfold jY
  split
  ·simp; omega
  ·simp; omega
theorem zCG (l : List Val) (g : FuncId) (cs : List PD) (p : Val → Bool) (hg : ∀ v ∈ l, AFn Tryz.prog G g [v.enc, .ref cs] (.bool (p v))) : AFn Tryz.prog G 143 [.sl 9 (l.map Val.enc), .clo g [.ref cs]] (.int .i64 (match l.findIdx? p with | some i => (i : Int) | none => -1)) := by
 refine AFn.introU tok Tryz.func143 (by kernel_rfl) rfl rfl ?_
 simp only [Tryz.f143, qJ, List.map_cons, List.map_nil]
 refine rgn [] [[0, 1]] ?_
 refine op1 tok ?_
 refine qA ?_
 refine AW.seq ?_
 refine rgn [] [[], [], [0, 1, 7, 8]] ?_
 iterate 3 refine op1 tok ?_
 refine qA ?_
 refine AW.block ?_
 refine AW.intFactU (i := 7) rfl (by decide) ?_; intro hlen; simp at hlen
 refine AW.loop (α := Nat) (fun k => k ≤ l.length ∧ (l.take k).all (fun v => !p v) = true) (fun k => ⟨qW 19 [(0, .p (.sl 9 (l.map Val.enc))), (1, .p (.clo g [.ref cs])), (7, .p (.int .i64 l.length)), (8, .p (.int .i64 k))], [], [], 0⟩) (fun k => l.length - k) (0) ⟨by omega, rfl⟩ ⟨qB (by simp), rfl, by simp, by simp⟩ ?_
 rintro k ⟨hk, hall⟩
 refine rgn [] [[]] ?_
 refine op1 tok ?_
 refine qA ?_
 refine AW.seq ?_
 refine cnd ?_ ?_
 ·intro h9
  try simp at h9
  obtain ⟨v, hv⟩ : ∃ v, l[k]? = some v := ⟨l[k], by simp [h9]⟩
  have hgv := hg v (List.mem_of_getElem? hv)
  refine AW.skip ?_
  refine AW.seq ?_
  refine AW.block ?_
  refine rgn [] [[], [0, 1, 5, 7, 8]] ?_
  iterate 2 refine op1 tok ?_
  refine qA ?_
  refine rgn [v.enc, .nilp, .bool (p v)] [[], [], [], [], [], [0, 1, 5, 7, 8, 16]] ?_
  iterate 6 refine op1 tok ?_ (hv := by first | with_reducible exact True.intro | (first | (simp [hv]; done) | (simp at hgv ⊢; exact hgv); done) | omega | simp | (simp +contextual; omega))
  refine qA ?_
  refine cnd ?_ ?_
  ·intro h16
   try simp at h16
   have hf : l.findIdx? p = some k := by
    rw [List.findIdx?_eq_some_iff_getElem]
    have h9' := h9
    refine ⟨h9, ?_, fun j hj => ?_⟩
    ·rw [List.getElem?_eq_getElem h9] at hv; cases hv; exact h16
    ·have := List.all_eq_true.1 hall (l[j]'(by omega)) (List.mem_iff_getElem.2 ⟨j, by simp; omega, by simp⟩)
     simpa using this
   refine rgn [] [[], [4]] ?_
   iterate 2 refine op1 tok ?_
   refine qA ?_
   exact AW.ret (qI (k := by simp [hf]))
  ·intro h16
   try simp at h16
   refine AW.skip ?_
   refine rgz [] [[], [0, 1, 7, 8]] ?_
   iterate 2 refine op1 tok ?_
   refine qA ?_
   exact ⟨k + 1, ⟨by omega, by rw [List.take_add_one, hv, List.all_append, hall]; simpa using h16⟩, by omega, qB (by simp), rfl, by simp, by simp⟩
 ·intro h9
  try simp at h9
  rw [List.take_of_length_le h9] at hall
  have hf : l.findIdx? p = none := by
   rw [List.findIdx?_eq_none_iff]; intro x hx; simpa using List.all_eq_true.1 hall x hx
  refine AW.exit ?_
  simp
  refine rgn [] [[]] ?_
  refine op1 tok ?_
  refine qA ?_
  exact AW.ret (qI (k := by simp [hf]))
theorem qQD (l : List Val) (g : FuncId) (cs : List PD) (p : Val → Bool) (hg : ∀ v ∈ l, AFn Tryz.prog G g [v.enc, .ref cs] (.bool (p v))) : AFn Tryz.prog G 86 [.sl 9 (l.map Val.enc), .clo g [.ref cs]] (.bool (l.any p)) := by
 refine AFn.introU tok Tryz.func86 (by kernel_rfl) rfl rfl ?_
 simp only [Tryz.f86, qJ, List.map_cons, List.map_nil]
 have hi := zCG l g cs p hg
 have ha : l.any p = decide (0 ≤ (match l.findIdx? p with | some i => (i : Int) | none => -1)) := by
  cases h : l.findIdx? p with
  | none => simp; intro x hx; simpa using List.findIdx?_eq_none_iff.1 h x hx
  | some i =>
   obtain ⟨h1, h2, _⟩ := List.findIdx?_eq_some_iff_getElem.1 h
   simp; exact ⟨_, List.getElem_mem h1, h2⟩
 rw [ha]
 generalize (match l.findIdx? p with | some i => (i : Int) | none => -1) = n at *
 refine rgn [] [[0, 1]] ?_
 refine op1 tok ?_
 refine qA ?_
 refine rgn [.nilp, .int .i64 n] [[], [], [7], [], [4]] ?_
 iterate 5 refine op1 tok ?_ (hv := by first | with_reducible exact True.intro | (first | exact hi | simp; done) | omega | simp | (simp +contextual; omega))
 refine qA ?_
 exact AW.ret qI
def qGN (p : Val → Bool) (l : List Val) : Int := match l.findIdx? p with
 | none => -1
 | some i => i
theorem zLQ {p : Val → Bool} {l : List Val} {k : Nat} {s : Val} (hs : l[k]? = some s) (hall : ((l.take k).all fun s => !p s) = true) (hp : p s = true) : qGN p l = k := by
 have h : l.findIdx? p = some k := by
  rw [List.findIdx?_eq_some_iff_getElem]
  obtain ⟨hk, rfl⟩ := List.getElem?_eq_some_iff.1 hs
  refine ⟨hk, hp, fun j hj => ?_⟩
  have := List.all_eq_true.1 hall l[j] (List.mem_of_getElem? (i := j) (by rw [List.getElem?_take, if_pos hj]; simp [show j < l.length by omega]))
  simpa using this
 unfold qGN; rw [h]
theorem zLP {p : Val → Bool} {l : List Val} (hall : (l.all fun s => !p s) = true) : qGN p l = -1 := by
 have h : l.findIdx? p = none := by
  rw [List.findIdx?_eq_none_iff]
  intro x hx
  have := List.all_eq_true.1 hall x hx
  simpa using this
 unfold qGN; rw [h]
theorem zCH {p : Val → Bool} {l : List Val} (h : qGN p l ≠ -1) : ∃ (k : Nat) (s : Val), qGN p l = k ∧ l[k]? = some s ∧ ((l.take k).all fun s => !p s) = true ∧ p s = true := by
 unfold qGN at h ⊢
 cases e : l.findIdx? p with
 | none => rw [e] at h; exact absurd rfl h
 | some k =>
  rw [List.findIdx?_eq_some_iff_getElem] at e
  obtain ⟨hk, hp, hn⟩ := e
  refine ⟨k, l[k], rfl, by simp [hk], List.all_eq_true.2 fun x hx => ?_, hp⟩
  obtain ⟨j, hj⟩ := List.mem_iff_getElem?.1 hx
  rw [List.getElem?_take] at hj
  split at hj
  ·rename_i hjk
   obtain ⟨_, rfl⟩ := List.getElem?_eq_some_iff.1 hj
   simpa using hn j hjk
  ·cases hj
theorem zCI {p : Val → Bool} {l : List Val} (h : qGN p l = -1) : (l.all fun s => !p s) = true := by
 unfold qGN at h
 cases e : l.findIdx? p with
 | none =>
  rw [List.findIdx?_eq_none_iff] at e
  exact List.all_eq_true.2 fun x hx => by simpa using e x hx
 | some k => rw [e] at h; simp only at h; omega
theorem zLO (g : FuncId) (cs : List PD) (p : Val → Bool) (l : List Val) (hg : ∀ s ∈ l, AFn Tryz.prog G g [s.enc, .ref cs] (.bool (p s))) (hl : l.length ≤ 1000000000) : AX Tryz.prog G 143 [.ms 930, .func (.func g) [] [.cptr cs]] [(930, .row 31 9 (l.map Val.enc))] (.p (.int .i64 (qGN p l))) [930] [(930, .row 31 9 (l.map Val.enc))] := by
 refine AX.introU tok 300 Tryz.func143 (by kernel_rfl) rfl rfl ?_
 simp only [Tryz.f143, qJ, List.map_cons, List.map_nil]
 refine rgn [] [[0, 1]] ?_
 refine op1 tok ?_
 refine qA ?_
 refine AW.seq ?_
 refine rgn [] [[], [], [0, 1, 7, 8]] ?_
 iterate 3 refine op1 tok ?_
 refine qA ?_
 refine AW.block ?_
 refine AW.loop (α := Nat) (fun k => k ≤ l.length ∧ ((l.take k).all fun s => !p s) = true) (fun k => ⟨qW 19 [(0, .ms 930), (1, .func (.func g) [] [.cptr cs]), (7, .p (.int .i64 l.length)), (8, .p (.int .i64 k))], [930], [(930, .row 31 9 (l.map Val.enc))], 300⟩) (fun k => l.length - k) (0) ⟨by omega, rfl⟩ ⟨qB (by simp), rfl, by simp, by simp⟩ ?_
 rintro k ⟨hk, hall⟩
 refine rgn [] [[]] ?_
 refine op1 tok ?_
 refine qA ?_
 refine AW.seq ?_
 refine cnd ?_ ?_
 ·intro h9
  try simp at h9
  obtain ⟨s, hs⟩ : ∃ s, l[k]? = some s := ⟨l[k], by simp [h9]⟩
  have hgs := hg s (List.mem_of_getElem? hs)
  simp only [Val.enc_def] at hgs
  refine AW.skip ?_
  refine AW.seq ?_
  refine AW.block ?_
  refine rgn [] [[], [0, 1, 5, 7, 8]] ?_
  iterate 2 refine op1 tok ?_
  refine qA ?_
  refine rgn [s.enc, .nilp, .bool (p s)] [[], [], [], [], [], [0, 1, 5, 7, 8, 16]] ?_
  iterate 6 refine op1 tok ?_ (hv := by first | with_reducible exact True.intro | (first | exact hgs | (simp [hs]; done) | (simp [hs]; omega); done) | omega | simp | (simp +contextual; omega))
  refine qA ?_
  refine cnd ?_ ?_
  ·intro h16
   try simp at h16
   have hi := zLQ hs hall h16
   refine rgn [] [[], [4]] ?_
   iterate 2 refine op1 tok ?_
   refine qA ?_
   exact AW.ret (zX (k := by simp [hi]))
  ·intro h16
   try simp at h16
   refine AW.skip ?_
   refine rgz [] [[], [0, 1, 7, 8]] ?_
   iterate 2 refine op1 tok ?_
   refine qA ?_
   exact ⟨k + 1, ⟨by omega, by rw [List.take_add_one, hs, List.all_append, hall]; simp [h16]⟩, by omega, qB (by simp), rfl, by simp, by simp⟩
 ·intro h9
  try simp at h9
  rw [List.take_of_length_le h9] at hall
  have hi := zLP hall
  refine AW.exit ?_
  simp
  refine rgn [] [[]] ?_
  refine op1 tok ?_
  refine qA ?_
  exact AW.ret (zX (k := by simp [hi]))
def uJ (F J C : List Val) : List PD := F.map Val.enc ++ (J.map Val.enc ++ C.map Val.enc)
@[simp] theorem zTR (F J C : List Val) : (uJ F J C).length = F.length + (J.length + C.length) := by simp [uJ]
theorem zGE {F J C : List Val} {j : Nat} {v : Val} (h : F.length + J.length = j) : (uJ F J (v :: C))[j]? = some v.enc := by
 unfold uJ
 rw [List.getElem?_append_right (by simp; omega), List.getElem?_append_right (by simp; omega)]
 simp only [List.length_map]
 rw [show j - F.length - J.length = 0 by omega]; simp
theorem zBH {F J C : List Val} {x : Val} : (uJ F (x :: J) C)[F.length]? = some x.enc := by
 unfold uJ
 rw [List.getElem?_append_right (by simp)]; simp
theorem zGD {F J C : List Val} {x v : Val} : (uJ F (x :: J) (v :: C)).set F.length v.enc = uJ (F ++ [v]) (J ++ [v]) C := by
 unfold uJ
 rw [List.set_append_right _ _ (by simp)]; simp
theorem qGV {F J C : List Val} {v : Val} : uJ F J (v :: C) = uJ F (J ++ [v]) C := by simp [uJ]
theorem zGF (F J C : List Val) (r : List PD) : ((uJ F J C).take F.length ++ r).take F.length = F.map Val.enc := by
 unfold uJ
 rw [List.take_append_of_le_length (by simp), List.take_of_length_le (by simp), List.take_append_of_le_length (by simp), List.take_of_length_le (by simp)]
theorem zPF (g : FuncId) (cs : List PD) (p : Val → Bool) (l : List Val) (hg : ∀ s ∈ l, AFn Tryz.prog G g [s.enc, .ref cs] (.bool (p s))) (hl : l.length ≤ 1000000000) : AX Tryz.prog G 84 [.ms 930, .func (.func g) [] [.cptr cs]] [(930, .row 31 9 (l.map Val.enc))] (.ms 930) [] [(930, .row 31 9 ((l.filter fun s => !p s).map Val.enc))] := by
 refine AX.introU tok 400 Tryz.func84 (by kernel_rfl) rfl rfl ?_
 simp only [Tryz.f84, qJ, List.map_cons, List.map_nil]
 refine rgn [] [[0, 1]] ?_
 refine op1 tok ?_
 refine qA ?_
 refine rgn [] [[], []] ?_
 iterate 2 refine op1 tok ?_
 refine qV ?_
 refine qC.stepK [0, 1, 10] (yI rfl (zLO g cs p l hg hl) (by simp)) (by conv => lhs; simp) rfl ?_
 refine qC.run [[0, 1, 5]] ?_
 refine op1 tok ?_
 refine qA ?_
 refine AW.seq ?_
 refine rgn [] [[], [0, 1, 5, 12]] ?_
 iterate 2 refine op1 tok ?_
 refine qA ?_
 refine cnd ?_ ?_
 ·intro h12
  try simp at h12
  have hall := zCI h12
  have hf : (l.filter fun s => !p s) = l := List.filter_eq_self.2 fun x hx => List.all_eq_true.1 hall x hx
  rw [hf]
  refine rgn [] [[], [4]] ?_
  iterate 2 refine op1 tok ?_
  refine qA ?_
  exact AW.ret zX
 ·intro h12
  try simp at h12
  obtain ⟨i0, s0, hi0, hs0, hall0, hp0⟩ := zCH h12
  rw [hi0]
  have hi0l := (List.getElem?_eq_some_iff.1 hs0).1
  have hf0 : ((l.take (i0 + 1)).filter fun s => !p s) = l.take i0 := by
   rw [List.take_add_one, hs0, List.filter_append, List.filter_eq_self.2 fun x hx => List.all_eq_true.1 hall0 x hx]
   simp [hp0]
  have hrow0 : l.map Val.enc = uJ ((l.take (i0 + 1)).filter fun s => !p s) [s0] (l.drop (i0 + 1)) := by
   have e : l = l.take i0 ++ s0 :: l.drop (i0 + 1) := by
    obtain ⟨h, rfl⟩ := List.getElem?_eq_some_iff.1 hs0
    rw [← List.drop_eq_getElem_cons h, List.take_append_drop]
   rw [hf0]
   conv => lhs; rw [e]
   simp [uJ]
  have hfl0 : ((l.take (i0 + 1)).filter fun s => !p s).length = i0 := by rw [hf0]; simp; omega
  refine AW.skip ?_
  refine AW.seq ?_
  refine rgn [] [[], [], [0, 1, 5, 6]] ?_
  iterate 3 refine op1 tok ?_
  refine qA ?_
  refine AW.block ?_
  refine AW.loop (α := Nat × List Val) (fun a => a.1 ≤ l.length ∧ ((l.take a.1).filter fun s => !p s).length + a.2.length = a.1 ∧ 1 ≤ a.2.length) (fun a => ⟨qW 42 [(0, .ms 930), (1, .func (.func g) [] [.cptr cs]), (5, .p (.int .i64 ((l.take a.1).filter fun s => !p s).length)), (6, .p (.int .i64 a.1))], [930], [(930, .row 31 9 (uJ ((l.take a.1).filter fun s => !p s) a.2 (l.drop a.1)))], 400⟩) (fun a => l.length - a.1) ((i0 + 1, [s0])) ⟨by simp only []; omega, by simp only [hfl0]; simp, by simp⟩ ⟨qB (by simp [hfl0]), rfl, by simp [← hrow0], by simp⟩ ?_
  rintro ⟨j, J⟩ ⟨hj, hlen, hJ⟩
  simp only at hj hlen hJ
  have hdl : (l.drop j).length = l.length - j := by simp
  generalize hF : ((l.take j).filter fun s => !p s) = F at *
  generalize hD : l.drop j = D at *
  refine AW.seq ?_
  refine rgn [] [[], [], [], [0, 1, 5, 6, 19]] ?_
  iterate 4 refine op1 tok ?_
  refine qA ?_
  refine cnd ?_ ?_
  ·intro h19
   try simp at h19
   obtain ⟨v, C, rfl⟩ : ∃ v C, D = v :: C := by
    cases D with
    | nil => simp only [List.length_nil] at hdl h19; omega
    | cons v C => exact ⟨v, C, rfl⟩
   obtain ⟨x, J, rfl⟩ : ∃ x J', J = x :: J' := by
    cases J with
    | nil => simp at hJ
    | cons x J => exact ⟨x, J, rfl⟩
   have hv : l[j]? = some v := by
    have := congrArg List.head? hD
    rwa [List.head?_drop] at this
   have hC : l.drop (j + 1) = C := by
    rw [← List.drop_drop, hD]; rfl
   have hgv := hg v (List.mem_of_getElem? hv)
   have hget := zGE (C := C) (v := v) hlen
   have hset := zGD (F := F) (J := J) (C := C) (x := x) (v := v)
   have hget0 := zBH (F := F) (J := J) (C := v :: C) (x := x)
   have hF1 : ((l.take (j + 1)).filter fun s => !p s) = F ++ (if p v = true then [] else [v]) := by
    rw [List.take_add_one, hv, List.filter_append, hF]
    by_cases hp : p v = true <;> simp [hp]
   simp only [List.length_cons] at hdl hlen hJ
   simp only [Val.enc_def] at hgv hget hset hget0
   refine AW.skip ?_
   refine AW.seq ?_
   refine AW.block ?_
   refine rgn [v.enc] [[], [], [], [], [], [0, 1, 5, 6, 7]] ?_
   iterate 6 refine op1 tok ?_ (hv := by first | with_reducible exact True.intro | (first | exact ⟨_, hget, rfl⟩ | (simp [hget]; done) | (simp; omega); done) | omega | simp | (simp +contextual; omega))
   refine qA ?_
   refine rgn [.nilp, .bool (p v)] [[], [], [], [0, 1, 5, 6, 7, 29]] ?_
   iterate 4 refine op1 tok ?_ (hv := by first | with_reducible exact True.intro | (exact hgv; done) | omega | simp | (simp +contextual; omega))
   refine qA ?_
   refine cnd ?_ ?_
   ·intro h29
    try simp at h29
    refine rgn [x.enc, v.enc] [[], [], [], [], [0, 1, 5, 6]] ?_
    iterate 5 refine op1 tok ?_ (hv := by first | with_reducible exact True.intro | (first | (simp [hget0]; done) | (simp [hget0]; omega); done) | omega | simp | (simp +contextual; omega))
    refine qA ?_
    refine rgz [] [[], [], [0, 1, 5, 6]] ?_
    iterate 3 refine op1 tok ?_
    refine qA ?_
    refine rgz [] [[], [], [0, 1, 5, 6]] ?_
    iterate 3 refine op1 tok ?_
    refine qA ?_
    exact ⟨(j + 1, J ++ [v]), ⟨by simp only []; omega, by simp [hF1, h29]; omega, by simp⟩, by simp only []; omega, qB (by simp [hF1, h29, hC, hset]), rfl, by simp [hF1, h29, hC, hset], by simp [hF1, h29, hC, hset]⟩
   ·intro h29
    try simp at h29
    refine AW.skip ?_
    refine rgz [] [[], [], [0, 1, 5, 6]] ?_
    iterate 3 refine op1 tok ?_
    refine qA ?_
    exact ⟨(j + 1, (x :: J) ++ [v]), ⟨by simp only []; omega, by simp [hF1, h29]; omega, by simp⟩, by simp only []; omega, qB (by simp [hF1, h29, hC, qGV]), rfl, by simp [hF1, h29, hC, qGV], by simp [hF1, h29, hC, qGV]⟩
  ·intro h19
   try simp at h19
   have hjl : j = l.length := by omega
   subst hjl
   rw [List.take_length] at hF
   rw [hF]
   have hcut := zGF F J D
   refine AW.exit ?_
   simp
   refine rgn [] [[], []] ?_
   iterate 2 refine op1 tok ?_
   refine qV ?_
   refine qC.clearFrom tok [0, 5, 38] (e0 := wW.enc) F.length rfl rfl rfl rfl rfl rfl rfl rfl rfl rfl (by simp) (by conv => lhs; simp) trivial (by conv => lhs; simp) trivial (by conv => lhs; simp) rfl (by first | (simp; done) | (simp; omega)) (by omega) (by simp) ?_
   simp only [St.put, zIY, zCF, St.keep, zFI, qLG, zZ]
   refine qC.nil ?_
   refine rgn [] [[], []] ?_
   iterate 2 refine op1 tok ?_
   refine qV ?_
   refine qC.stepK [41] (qWC tok rfl rfl F.length (by conv => lhs; simp) trivial (by conv => lhs; simp) trivial rfl (by conv => lhs; simp) (by first | (simp; done) | (simp; omega)) (by omega)) (by conv => lhs; simp [hcut]) rfl ?_
   refine qC.run [[4]] ?_
   refine op1 tok ?_
   refine qA ?_
   exact AW.ret zX
end Go.Proofs.YtdojfdaglbphlaaGreatDoor
