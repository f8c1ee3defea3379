import Derived.Test.YtdojfdaglbphlaaGreatDoorSAlikeL
import Derived.Test.YtdojfdaglbphlaaGreatDoorSMasks14
namespace Go.Proofs.YtdojfdaglbphlaaGreatDoor
open Sy Go
set_option maxRecDepth 100000
set_option maxHeartbeats 4000000
set_option linter.unusedSimpArgs false
set_option linter.unusedVariables false
variable {G : qV}
noncomputable def uL (c : Int) (a b : Val) : Bool := @decide (Alk c a b) (Classical.propDecidable _)
theorem qDM (c : Int) (a b : Val) : uL c a b = true ↔ Alk c a b := by unfold uL; exact @decide_eq_true_iff _ (Classical.propDecidable _)
def qKT (c : Int) (v : Val) : Bool := decide (yI v.mask c ≠ 0)
theorem zGZ (m c : Int) : AFn Tryz.prog G 116 [.int .u64 m, .int .u64 c] (.bool (decide (yI m c = 0))) := by
 refine AFn.introU tok Tryz.func116 (by kernel_rfl) rfl rfl ?_
 simp only [Tryz.f116, qI, List.map_cons, List.map_nil]
 refine rgn [] [[0, 1]] ?_
 refine op1 tok ?_
 refine qA ?_
 refine rgn [] [[], [], [7], [], [4]] ?_
 iterate 5 refine op1 tok ?_ (h := by intro C; conv => lhs; simp [qNT])
 refine qA ?_
 exact AW.ret qJ
theorem qTQ (v : Val) (c : Int) : AFn Tryz.prog G 51 [v.enc, .int .u64 c] (.bool (qKT c v)) := by
 refine AFn.introU tok Tryz.func51 (by kernel_rfl) rfl rfl ?_
 simp only [Tryz.f51, qI, List.map_cons, List.map_nil]
 have h := zGZ (G := G) v.mask c
 have e : qKT c v = !decide (yI v.mask c = 0) := by simp [qKT]
 rw [e]
 refine rgn [] [[], [1, 2]] ?_
 iterate 2 refine op1 tok ?_
 refine qA ?_
 refine rgn [.nilp, .bool (decide (yI v.mask c = 0))] [[], [], [], [8], [], [4]] ?_
 iterate 6 refine op1 tok ?_ (hv := by first | with_reducible exact True.intro | (exact h; done) | omega | simp | (simp +contextual; omega))
 refine qA ?_
 exact AW.ret qJ
theorem zOK {c : Int} {a b : Val} (h : qKT c a = true ∨ qKT c b = true) : uL c a b = (qKT c a && qKT c b) := by
 rw [Bool.eq_iff_iff, qDM, qBY]
 unfold qKT at h ⊢
 simp only [Bool.and_eq_true, decide_eq_true_eq] at h ⊢
 constructor
 ·rintro (h1 | ⟨h1, h2, _⟩)
  ·exact h1
  ·rcases h with h | h
   ·exact absurd h1 h
   ·exact absurd h2 h
 ·exact fun h1 => .inl h1
noncomputable def zPF (a b : Val) : Bool := jJ (qFB a []) (qFB b [])
theorem zJU {c : Int} {a b : Val} (h1 : qKT c a = false) (h2 : qKT c b = false) : uL c a b = (zPF a b && eqL (uL c) a.kids b.kids) := by
 have eqL_alk : ∀ l m : List Val, eqL (uL c) l m = true ↔ jI c l m := by
  intro l
  induction l with
  | nil => intro m; cases m <;> simp [eqL, jI]
  | cons x l ih =>
   intro m
   cases m with
   | nil => simp [eqL, jI]
   | cons y m => simp only [eqL, jI, Bool.and_eq_true, qDM, ih]
 rw [Bool.eq_iff_iff, qDM, qBY, Bool.and_eq_true, eqL_alk]
 unfold qKT at h1 h2
 have g1 : yI a.mask c = 0 := by simpa using h1
 have g2 : yI b.mask c = 0 := by simpa using h2
 unfold zPF
 rw [uE]
 unfold qFB
 rw [Val.mk.injEq]
 constructor
 ·rintro (⟨h, _⟩ | ⟨_, _, e1, e2, e3, e4, e5, e6, hL⟩)
  ·exact absurd g1 h
  ·exact ⟨⟨e1, e2, e3, e4, e5, rfl, e6⟩, hL⟩
 ·rintro ⟨⟨e1, e2, e3, e4, e5, _, e6⟩, hL⟩
  exact .inr ⟨g1, g2, e1, e2, e3, e4, e5, e6, hL⟩
theorem zER (a b : Val) (c : Int) (hla : a.kids.length ≤ 1000000) (hlb : b.kids.length ≤ 1000000) (ih : ∀ x ∈ a.kids, ∀ y ∈ b.kids, AFn Tryz.prog G 18 [x.enc, y.enc, .int .u64 c] (.bool (uL c x y))) : AFn Tryz.prog G 18 [a.enc, b.enc, .int .u64 c] (.bool (uL c a b)) := by
 refine AFn.introU tok Tryz.func18 (by kernel_rfl) rfl rfl ?_
 simp only [Tryz.f18, qI, List.map_cons, List.map_nil]
 have h1 := qTQ (G := G) a c
 have h2 := qTQ (G := G) b c
 have hs := zCR (G := G) (qFB a []) (by rw [zEZ]; simp [qFB, Val.szL]) (qFB b [])
 have hh := zOK (c := c) (a := a) (b := b)
 have ho := zJU (c := c) (a := a) (b := b)
 rw [show jJ (qFB a []) (qFB b []) = zPF a b from rfl] at hs
 generalize zPF a b = tp at *
 generalize qKT c a = p at *
 generalize qKT c b = q at *
 simp only [Val.enc_def] at h1 h2 hs
 refine rgn [] [[], [], [2, 3, 4]] ?_
 iterate 3 refine op1 tok ?_
 refine qA ?_
 refine rgn [.nilp, .bool p] [[], [], [], [2, 3, 4, 7]] ?_
 iterate 4 refine op1 tok ?_ (hv := by first | with_reducible exact True.intro | (exact h1; done) | omega | simp | (simp +contextual; omega))
 refine qA ?_
 refine rgn [.nilp, .bool q] [[], [], [], [2, 3, 4, 7, 8]] ?_
 iterate 4 refine op1 tok ?_ (hv := by first | with_reducible exact True.intro | (exact h2; done) | omega | simp | (simp +contextual; omega))
 refine qA ?_
 refine AW.seq ?_
 refine rgn [] [[], [], [], [2, 3, 4, 7, 8, 23]] ?_
 iterate 2 refine op1 tok ?_
 refine op2 tok ?_
 refine op1 tok ?_
 refine qA ?_
 refine cnd ?_ ?_
 ·intro h23
  try simp at h23
  rw [hh (by cases p <;> cases q <;> simp at h23 ⊢)]
  refine rgn [] [[], [], [], [27], [6]] ?_
  iterate 2 refine op1 tok ?_
  refine op2 tok ?_
  iterate 2 refine op1 tok ?_
  refine qA ?_
  exact AW.ret qJ
 ·intro h23
  try simp at h23
  have hp : p = false := by cases p <;> simp at h23 ⊢
  have hq : q = false := by subst hp; cases q <;> simp at h23 ⊢
  subst hp; subst hq
  have ho' := ho rfl rfl
  refine AW.skip ?_
  refine rgn [] [[], [], [2, 3, 4, 9]] ?_
  iterate 3 refine op1 tok ?_
  refine qA ?_
  refine rgn [] [[], [], [2, 3, 4, 9, 10]] ?_
  iterate 3 refine op1 tok ?_
  refine qA ?_
  refine rgn [] [[], [2, 3, 4, 9, 10]] ?_
  iterate 2 refine op1 tok ?_
  refine qA ?_
  refine rgn [] [[], [2, 3, 4, 9, 10]] ?_
  iterate 2 refine op1 tok ?_
  refine qA ?_
  refine rgn [.nilp, .bool tp] [[], [], [2, 3, 4, 34], [2, 3, 4, 11]] ?_
  iterate 4 refine op1 tok ?_ (hv := by first | with_reducible exact True.intro | ((simp [qFB] at hs ⊢; exact hs); done) | omega | simp | (simp +contextual; omega))
  refine qA ?_
  refine AW.seq ?_
  refine rgn [] [[], [], [], [], [2, 3, 4, 37, 39], [], [], [], [], [2, 3, 4, 37, 44], [2, 3, 4, 45]] ?_
  iterate 3 refine op1 tok ?_
  iterate 7 refine op2 tok ?_
  refine op1 tok ?_
  refine qA ?_
  refine cnd ?_ ?_
  ·intro h45
   try simp at h45
   have hR : uL c a b = false := by
    rw [ho']
    cases htp : tp with
    | false => rfl
    | true =>
     rw [Bool.true_and, ← Bool.not_eq_true]
     intro h
     have := qWO h
     rw [htp] at h45
     simp [this] at h45
   refine rgn [] [[]] ?_
   refine op1 tok ?_
   refine qA ?_
   exact AW.ret (qJ (k := by simp [hR]))
  ·intro h45
   try simp at h45
   have htp : tp = true := by cases tp <;> simp at h45 ⊢
   have hlen : a.kids.length = b.kids.length := by subst htp; simp at h45; omega
   have hE : uL c a b = eqL (uL c) a.kids b.kids := by rw [ho', htp]; rfl
   refine AW.skip ?_
   refine AW.seq ?_
   refine rgn [] [[]] ?_
   refine op1 tok ?_
   refine qA ?_
   refine AW.block ?_
   refine AW.loop (α := Nat) (fun k => k ≤ a.kids.length ∧ uL c a b = eqL (uL c) (a.kids.drop k) (b.kids.drop k)) (fun k => ⟨qY 67 [(2, .p (.int .u64 c)), (3, .ptr 3 0), (4, .ptr 4 0), (12, .p (.int .i64 k))], [], [(3, .vars 31 a.cells), (4, .vars 31 b.cells)], 0⟩) (fun k => a.kids.length - k) (0) ⟨by omega, hE⟩ ⟨qB (by simp), rfl, by simp, by simp⟩ ?_
   rintro k ⟨hk, hall⟩
   refine AW.seq ?_
   refine rgn [] [[], [], [], [], [2, 3, 4, 12, 50]] ?_
   iterate 5 refine op1 tok ?_
   refine qA ?_
   refine cnd ?_ ?_
   ·intro h50
    try simp at h50
    obtain ⟨x, hx⟩ : ∃ x, a.kids[k]? = some x := ⟨a.kids[k], by simp [h50]⟩
    obtain ⟨y, hy⟩ : ∃ y, b.kids[k]? = some y := ⟨b.kids[k]'(by omega), by simp [show k < b.kids.length by omega]⟩
    have hst := qPT (p := uL c) hx hy
    have hgv := ih x (List.mem_of_getElem? hx) y (List.mem_of_getElem? hy)
    simp only [Val.enc_def] at hgv
    refine AW.skip ?_
    refine AW.seq ?_
    refine AW.block ?_
    refine AW.seqDrawS tok mixed 12 [[3], [53], [12], [54, 55], [56], [4], [58], [12], [59, 60], [61], [2], [57, 62, 63]] [x.enc, y.enc, .nilp, .bool (uL c x y)] [] (by kernel_rfl) ?_
    iterate 12 refine d1 ?_ (hv := by first | with_reducible exact True.intro | (first | exact hgv | (simp [hx]; done) | (simp [hy]; done) | (simp [hx]; omega) | (simp [hy]; omega); done) | omega | simp | (simp +contextual; omega))
    refine DGo.nil (by kernel_rfl) ⟨by kernel_rfl, ?_⟩
    refine qC.run [[2, 3, 4, 12, 13]] ?_
    refine op1 tok ?_
    refine qA ?_
    refine rgn [] [[], [2, 3, 4, 12, 66]] ?_
    iterate 2 refine op1 tok ?_
    refine qA ?_
    refine cnd ?_ ?_
    ·intro h66
     try simp at h66
     have hR : uL c a b = false := by rw [hall, hst]; simp [h66]
     refine rgn [] [[]] ?_
     refine op1 tok ?_
     refine qA ?_
     exact AW.ret (qJ (k := by simp [hR]))
    ·intro h66
     try simp at h66
     have hnx : uL c a b = eqL (uL c) (a.kids.drop (k + 1)) (b.kids.drop (k + 1)) := by rw [hall, hst]; simp [h66]
     refine AW.skip ?_
     refine rgz [] [[], [], [2, 3, 4, 12]] ?_
     iterate 3 refine op1 tok ?_
     refine qA ?_
     exact ⟨k + 1, ⟨by omega, hnx⟩, by omega, qB (by simp), rfl, by simp, by simp⟩
   ·intro h50
    try simp at h50
    have hR : uL c a b = true := by rw [hall]; exact qWP (by omega) (by omega)
    refine AW.exit ?_
    simp
    refine rgn [] [[]] ?_
    refine op1 tok ?_
    refine qA ?_
    exact AW.ret (qJ (k := by simp [hR]))
theorem qQS (c : Int) (a : Val) : qQ a = true → ∀ b, qQ b = true → AFn Tryz.prog G 18 [a.enc, b.enc, .int .u64 c] (.bool (uL c a b)) :=
 Val.induct (p := fun a => qQ a = true → ∀ b, qQ b = true → AFn Tryz.prog G 18 [a.enc, b.enc, .int .u64 c] (.bool (uL c a b)))
  (fun a ih ha b hb => zER a b c (by have := yU ha; omega) (by have := yU hb; omega) fun x hx y hy => ih x hx (wJ ha hx) y (wJ hb hy)) a
theorem qQX (l1 l2 l3 l4 : List Item) (n : Nat) (c : Int) (h1 : ∀ x ∈ l1, x.keys.length ≤ 140737488351232) (h2 : ∀ x ∈ l2, x.keys.length ≤ 140737488351232) (h3 : ∀ x ∈ l3, x.keys.length ≤ 140737488351232) (h4 : ∀ x ∈ l4, x.keys.length ≤ 140737488351232) (i1 : ∀ x ∈ l1, InM x.mask) (i2 : ∀ x ∈ l2, InM x.mask) (i3 : ∀ x ∈ l3, InM x.mask) (i4 : ∀ x ∈ l4, InM x.mask) (hn : n < 256) : AFn Tryz.prog G 5 [.agg [.sl 6 (l1.map Item.enc), .sl 6 (l2.map Item.enc), .sl 6 (l3.map Item.enc), .sl 6 (l4.map Item.enc)], .int .u8 n, .int .u64 c] (.bool true) := by
 refine AFn.introU tok Tryz.func5 (by kernel_rfl) rfl rfl ?_
 simp only [Tryz.f5, qI, List.map_cons, List.map_nil]
 have hsh := qOB (G := G)
 have hb1 := qDO (G := G) l1 h1
 have hb2 := qDO (G := G) l2 h2
 have hb3 := qDO (G := G) l3 h3
 have hb4 := qDO (G := G) l4 h4
 have m1 := qAS l1
 have m2 := qAS l2
 have m3 := qAS l3
 have m4 := qAS l4
 have j1 := qDF i1
 have j2 := qDF i2
 have j3 := qDF i3
 have j4 := qDF i4
 have hop := zRM (G := G) n hn
 generalize xH l1 = a at *
 generalize xH l2 = b at *
 generalize xH l3 = x at *
 generalize xH l4 = y at *
 generalize opN n = op at *
 have e1 := qQS (G := G) c a m1 b m2
 have e2 := qQS (G := G) c x m3 y m4
 have t1 := qVD (G := G) op a x m1 m3
 have t2 := qVD (G := G) op b y m2 m4
 have e3 := qQS (G := G) c (uA op a x) (qWE op m1 m3) (uA op b y) (qWE op m2 m4)
 have hL : uL c a b = true → uL c x y = true → uL c (uA op a x) (uA op b y) = true := fun g1 g2 => (qDM _ _ _).2 (zRB op m1 m2 m3 m4 j1 j2 j3 j4 ((qDM _ _ _).1 g1) ((qDM _ _ _).1 g2))
 generalize uA op a x = u at *
 generalize uA op b y = v at *
 generalize uL c a b = p at *
 generalize uL c x y = q at *
 generalize uL c u v = r at *
 simp only [Val.enc_def, Item.enc] at hb1 hb2 hb3 hb4 e1 e2 e3 t1 t2
 refine rgn [] [[], [1, 2, 3]] ?_
 iterate 2 refine op1 tok ?_
 refine qA ?_
 refine rgn [.nilp, .bool true] [[], [1, 2, 3, 7]] ?_
 iterate 2 refine op1 tok ?_ (hv := by first | with_reducible exact True.intro | (exact hsh; done) | omega | simp | (simp +contextual; omega))
 refine qA ?_
 refine rgn [.nilp, a.enc] [[], [], [], [], [1, 2, 3, 7, 8]] ?_
 iterate 5 refine op1 tok ?_ (hv := by first | with_reducible exact True.intro | ((simp at hb1 ⊢; exact hb1); done) | omega | simp | (simp +contextual; omega))
 refine qA ?_
 refine rgn [.nilp, b.enc] [[], [], [], [], [1, 2, 3, 7, 8, 9]] ?_
 iterate 5 refine op1 tok ?_ (hv := by first | with_reducible exact True.intro | ((simp at hb2 ⊢; exact hb2); done) | omega | simp | (simp +contextual; omega))
 refine qA ?_
 refine rgn [.nilp, x.enc] [[], [], [], [], [1, 2, 3, 7, 8, 9, 10]] ?_
 iterate 5 refine op1 tok ?_ (hv := by first | with_reducible exact True.intro | ((simp at hb3 ⊢; exact hb3); done) | omega | simp | (simp +contextual; omega))
 refine qA ?_
 refine rgn [.nilp, y.enc] [[], [], [], [], [1, 2, 7, 8, 9, 10, 11]] ?_
 iterate 5 refine op1 tok ?_ (hv := by first | with_reducible exact True.intro | ((simp at hb4 ⊢; exact hb4); done) | omega | simp | (simp +contextual; omega))
 refine qA ?_
 refine rgn [.nilp, .bool p] [[], [], [], [], [1, 2, 7, 8, 9, 10, 11, 12]] ?_
 iterate 5 refine op1 tok ?_ (hv := by first | with_reducible exact True.intro | (exact e1; done) | omega | simp | (simp +contextual; omega))
 refine qA ?_
 refine rgn [.nilp, .bool q] [[], [], [], [], [1, 2, 7, 8, 9, 10, 11, 12, 13]] ?_
 iterate 5 refine op1 tok ?_ (hv := by first | with_reducible exact True.intro | (exact e2; done) | omega | simp | (simp +contextual; omega))
 refine qA ?_
 refine AW.seq ?_
 refine rgn [] [[], [], [], [1, 2, 7, 8, 9, 10, 11, 37, 38], [], [1, 2, 7, 8, 9, 10, 11, 40]] ?_
 iterate 3 refine op1 tok ?_
 iterate 2 refine op2 tok ?_
 refine op1 tok ?_
 refine qA ?_
 refine cnd ?_ ?_
 ·intro h40
  try simp at h40
  refine rgn [] [[], [6]] ?_
  iterate 2 refine op1 tok ?_
  refine qA ?_
  exact AW.ret qJ
 ·intro h40
  try simp at h40
  have hp : p = true ∧ q = true := by cases p <;> cases q <;> simp at h40 ⊢
  have hr := hL hp.1 hp.2
  subst hr
  refine AW.skip ?_
  refine AW.seqDrawS tok mixed 15 [[7], [42], [1, 43], [44, 43], [8, 43], [10, 43], [45, 46, 47, 43], [1, 43], [49, 43], [9, 43], [11, 43], [50, 51, 52, 43], [2, 43], [48, 53, 54, 43], [43, 55]] [.nilp, .str op, .nilp, u.enc, .nilp, .str op, .nilp, v.enc, .nilp, .bool true] [] (by kernel_rfl) ?_
  iterate 2 refine d1 ?_ (hv := by first | with_reducible exact True.intro | (first | exact hop | exact t1 | exact t2 | exact e3; done) | omega | simp | (simp +contextual; omega))
  iterate 12 refine d2 43 rfl rfl ?_ (hv := by first | with_reducible exact True.intro | (first | exact hop | exact t1 | exact t2 | exact e3; done) | omega | simp | (simp +contextual; omega))
  refine d1 ?_ (hv := by first | with_reducible exact True.intro | (first | exact hop | exact t1 | exact t2 | exact e3; done) | omega | simp | (simp +contextual; omega))
  refine DGo.nil (by kernel_rfl) ⟨by kernel_rfl, ?_⟩
  refine qC.run [[6]] ?_
  refine op1 tok ?_
  refine qA ?_
  exact AW.ret qJ
end Go.Proofs.YtdojfdaglbphlaaGreatDoor
